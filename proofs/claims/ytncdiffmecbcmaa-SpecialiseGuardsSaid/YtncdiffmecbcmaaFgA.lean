/-
  Shapes of the functions of the seat, printed by a program (wip/gen/Infer.lean).
-/
import Derived.Test.YtncdiffmecbcmaaFwT
import Derived.Test.YtncdiffmecbcmaaZd
namespace Go.Fg.Ytncdiffmecbcmaa
open Go.Fw Go.Proofs Go.Fw.Ytncdiffmecbcmaa
set_option linter.unusedVariables false
structure bK where
  func:Int
  count:Int
def Tf:bK:=bK.mk (0:Int) (0:Int)
def Ii (x:bK):List P:=[P.int .i64 (bK.func x),P.int .i64 (bK.count x)]
structure ah where
  fn:Int
  block:Int
  at':Int
  regs:(List Int)
  dst:Int
def V3:ah:=ah.mk (0:Int) (0:Int) (0:Int) [] (0:Int)
def V4 (x:ah):List P:=[P.int .i64 (ah.fn x),P.int .i64 (ah.block x),P.int .i64 (ah.at' x),P.eG 1 (List.map (fun (x:Int)=>[P.int .i64 x]) (ah.regs x)),P.int .i64 (ah.dst x)]
structure bH where
  block:Int
  instr:Int
  targets:(List bK)
def XM:bH:=bH.mk (0:Int) (0:Int) []
def QB (x:bH):List P:=[P.int .i64 (bH.block x),P.int .i64 (bH.instr x),P.eG 2 (List.map Ii (bH.targets x))]
structure mG where
  func:Int
  block:Int
def XO:mG:=mG.mk (0:Int) (0:Int)
def XP (x:mG):List P:=[P.int .i64 (mG.func x),P.int .i64 (mG.block x)]
structure aj where
  entries:Int
  blocks:(List Int)
  edges:(List (Int×Int))
  sites:(List bH)
def Gu:aj:=aj.mk (0:Int) [] [] []
def Gv (x:aj):List P:=[P.int .i64 (aj.entries x),P.eG 1 (List.map (fun (x:Int)=>[P.int .i64 x]) (aj.blocks x)),P.eG 2 (List.map (fun (x:Int×Int)=>(fun (x:Int)=>[P.int .i64 x]) x.1++(fun (x:Int)=>[P.int .i64 x]) x.2) (aj.edges x)),P.eG 3 (List.map QB (aj.sites x))]
structure aG where
  name:(List UInt8)
  size:Int
def Ti:aG:=aG.mk [] (0:Int)
def Tj (x:aG):List P:=[P.str ⟨List.toArray (aG.name x)⟩,P.int .i64 (aG.size x)]
structure aK where
  kind:Int
  op:Int
  dst:Int
  a:Int
  b:Int
  value:Int
  args:(List Int)
def V5:aK:=aK.mk (0:Int) (0:Int) (0:Int) (0:Int) (0:Int) (0:Int) []
def MZ (x:aK):List P:=[P.int .i64 (aK.kind x),P.int .i64 (aK.op x),P.int .i64 (aK.dst x),P.int .i64 (aK.a x),P.int .i64 (aK.b x),P.int .i64 (aK.value x),P.eG 1 (List.map (fun (x:Int)=>[P.int .i64 x]) (aK.args x))]
structure aC where
  instrs:(List aK)
  mJ:Int
  Ce:Int
  uT:Int
  kG:Int
  line:Int
  r_:Int
  oU:Int
def V6:aC:=aC.mk [] (0:Int) (0:Int) (0:Int) (0:Int) (0:Int) (0:Int) (0:Int)
def M_ (x:aC):List P:=[P.eG 7 (List.map MZ (aC.instrs x)),P.int .i64 (aC.mJ x),P.int .i64 (aC.Ce x),P.int .i64 (aC.uT x),P.int .i64 (aC.kG x),P.int .i64 (aC.line x),P.int .i64 (aC.r_ x),P.int .i64 (aC.oU x)]
structure au where
  name:(List UInt8)
  params:Int
  regs:Int
  blocks:(List aC)
def Na:au:=au.mk [] (0:Int) (0:Int) []
def Nb (x:au):List P:=[P.str ⟨List.toArray (au.name x)⟩,P.int .i64 (au.params x),P.int .i64 (au.regs x),P.eG 8 (List.map M_ (au.blocks x))]
def V7:Nat→Type
  |0=>Unit
  |1=>Unit
  |2=>Unit
  |3=>aK
  |4=>Unit
  |5=>mG
  |6=>aC
  |7=>au
  |8=>aG
  |9=>Unit
  |10=>Unit
  |11=>Unit
  |12=>aj
  |13=>bH
  |14=>bK
  |15=>Unit
  |16=>Unit
  |17=>Unit
  |18=>ah
  |19=>Unit
  |20=>Unit
  |21=>Unit
  |22=>Unit
  |23=>Unit
  |_=>Unit
def reF:Nat→List Ty
  |0=>[]
  |1=>[]
  |2=>[]
  |3=>[(.int .i64),(.int .i64),(.int .i64),(.int .i64),(.int .i64),(.int .i64),(.sl (.int .i64))]
  |4=>[]
  |5=>[(.int .i64),(.int .i64)]
  |6=>[(.sl (.st 3)),(.int .i64),(.int .i64),(.int .i64),(.int .i64),(.int .i64),(.int .i64),(.int .i64)]
  |7=>[.str,(.int .i64),(.int .i64),(.sl (.st 6))]
  |8=>[.str,(.int .i64)]
  |9=>[]
  |10=>[]
  |11=>[]
  |12=>[(.int .i64),(.sl (.int .i64)),(.sl (.prod (.int .i64) (.int .i64))),(.sl (.st 13))]
  |13=>[(.int .i64),(.int .i64),(.sl (.st 14))]
  |14=>[(.int .i64),(.int .i64)]
  |15=>[]
  |16=>[]
  |17=>[]
  |18=>[(.int .i64),(.int .i64),(.int .i64),(.sl (.int .i64)),(.int .i64)]
  |19=>[]
  |20=>[]
  |21=>[]
  |22=>[]
  |23=>[]
  |_=>[]
def adO:(n:Nat)→V7 n
  |0=>()
  |1=>()
  |2=>()
  |3=>V5
  |4=>()
  |5=>XO
  |6=>V6
  |7=>Na
  |8=>Ti
  |9=>()
  |10=>()
  |11=>()
  |12=>Gu
  |13=>XM
  |14=>Tf
  |15=>()
  |16=>()
  |17=>()
  |18=>V3
  |19=>()
  |20=>()
  |21=>()
  |22=>()
  |23=>()
  |_+24=>()
def XQ:(n:Nat)→V7 n→List (TP V7)
  |0,x=>[]
  |1,x=>[]
  |2,x=>[]
  |3,x=>[⟨(.int .i64),aK.kind x⟩,⟨(.int .i64),aK.op x⟩,⟨(.int .i64),aK.dst x⟩,⟨(.int .i64),aK.a x⟩,⟨(.int .i64),aK.b x⟩,⟨(.int .i64),aK.value x⟩,⟨(.sl (.int .i64)),aK.args x⟩]
  |4,x=>[]
  |5,x=>[⟨(.int .i64),mG.func x⟩,⟨(.int .i64),mG.block x⟩]
  |6,x=>[⟨(.sl (.st 3)),aC.instrs x⟩,⟨(.int .i64),aC.mJ x⟩,⟨(.int .i64),aC.Ce x⟩,⟨(.int .i64),aC.uT x⟩,⟨(.int .i64),aC.kG x⟩,⟨(.int .i64),aC.line x⟩,⟨(.int .i64),aC.r_ x⟩,⟨(.int .i64),aC.oU x⟩]
  |7,x=>[⟨.str,au.name x⟩,⟨(.int .i64),au.params x⟩,⟨(.int .i64),au.regs x⟩,⟨(.sl (.st 6)),au.blocks x⟩]
  |8,x=>[⟨.str,aG.name x⟩,⟨(.int .i64),aG.size x⟩]
  |9,x=>[]
  |10,x=>[]
  |11,x=>[]
  |12,x=>[⟨(.int .i64),aj.entries x⟩,⟨(.sl (.int .i64)),aj.blocks x⟩,⟨(.sl (.prod (.int .i64) (.int .i64))),aj.edges x⟩,⟨(.sl (.st 13)),aj.sites x⟩]
  |13,x=>[⟨(.int .i64),bH.block x⟩,⟨(.int .i64),bH.instr x⟩,⟨(.sl (.st 14)),bH.targets x⟩]
  |14,x=>[⟨(.int .i64),bK.func x⟩,⟨(.int .i64),bK.count x⟩]
  |15,x=>[]
  |16,x=>[]
  |17,x=>[]
  |18,x=>[⟨(.int .i64),ah.fn x⟩,⟨(.int .i64),ah.block x⟩,⟨(.int .i64),ah.at' x⟩,⟨(.sl (.int .i64)),ah.regs x⟩,⟨(.int .i64),ah.dst x⟩]
  |19,x=>[]
  |20,x=>[]
  |21,x=>[]
  |22,x=>[]
  |23,x=>[]
  |_+24,_=>[]
def ab4:(n:Nat)→List (TP V7)→V7 n
  |0,ws=>()
  |1,ws=>()
  |2,ws=>()
  |3,ws=>aK.mk (TP.get (.int .i64) (0:Int) ws 0) (TP.get (.int .i64) (0:Int) ws 1) (TP.get (.int .i64) (0:Int) ws 2) (TP.get (.int .i64) (0:Int) ws 3) (TP.get (.int .i64) (0:Int) ws 4) (TP.get (.int .i64) (0:Int) ws 5) (TP.get (.sl (.int .i64)) [] ws 6)
  |4,ws=>()
  |5,ws=>mG.mk (TP.get (.int .i64) (0:Int) ws 0) (TP.get (.int .i64) (0:Int) ws 1)
  |6,ws=>aC.mk (TP.get (.sl (.st 3)) [] ws 0) (TP.get (.int .i64) (0:Int) ws 1) (TP.get (.int .i64) (0:Int) ws 2) (TP.get (.int .i64) (0:Int) ws 3) (TP.get (.int .i64) (0:Int) ws 4) (TP.get (.int .i64) (0:Int) ws 5) (TP.get (.int .i64) (0:Int) ws 6) (TP.get (.int .i64) (0:Int) ws 7)
  |7,ws=>au.mk (TP.get .str [] ws 0) (TP.get (.int .i64) (0:Int) ws 1) (TP.get (.int .i64) (0:Int) ws 2) (TP.get (.sl (.st 6)) [] ws 3)
  |8,ws=>aG.mk (TP.get .str [] ws 0) (TP.get (.int .i64) (0:Int) ws 1)
  |9,ws=>()
  |10,ws=>()
  |11,ws=>()
  |12,ws=>aj.mk (TP.get (.int .i64) (0:Int) ws 0) (TP.get (.sl (.int .i64)) [] ws 1) (TP.get (.sl (.prod (.int .i64) (.int .i64))) [] ws 2) (TP.get (.sl (.st 13)) [] ws 3)
  |13,ws=>bH.mk (TP.get (.int .i64) (0:Int) ws 0) (TP.get (.int .i64) (0:Int) ws 1) (TP.get (.sl (.st 14)) [] ws 2)
  |14,ws=>bK.mk (TP.get (.int .i64) (0:Int) ws 0) (TP.get (.int .i64) (0:Int) ws 1)
  |15,ws=>()
  |16,ws=>()
  |17,ws=>()
  |18,ws=>ah.mk (TP.get (.int .i64) (0:Int) ws 0) (TP.get (.int .i64) (0:Int) ws 1) (TP.get (.int .i64) (0:Int) ws 2) (TP.get (.sl (.int .i64)) [] ws 3) (TP.get (.int .i64) (0:Int) ws 4)
  |19,ws=>()
  |20,ws=>()
  |21,ws=>()
  |22,ws=>()
  |23,ws=>()
  |_+24,_=>()
def aag:(n:Nat)→V7 n→List P
  |0,x=>[]
  |1,x=>[]
  |2,x=>[]
  |3,x=>MZ x
  |4,x=>[]
  |5,x=>XP x
  |6,x=>M_ x
  |7,x=>Nb x
  |8,x=>Tj x
  |9,x=>[]
  |10,x=>[]
  |11,x=>[]
  |12,x=>Gv x
  |13,x=>QB x
  |14,x=>Ii x
  |15,x=>[]
  |16,x=>[]
  |17,x=>[]
  |18,x=>V4 x
  |19,x=>[]
  |20,x=>[]
  |21,x=>[]
  |22,x=>[]
  |23,x=>[]
  |_+24,_=>[]
theorem ab5 :∀n,(reF n).all Ty.word=true
  |0=>rfl
  |1=>rfl
  |2=>rfl
  |3=>rfl
  |4=>rfl
  |5=>rfl
  |6=>rfl
  |7=>rfl
  |8=>rfl
  |9=>rfl
  |10=>rfl
  |11=>rfl
  |12=>rfl
  |13=>rfl
  |14=>rfl
  |15=>rfl
  |16=>rfl
  |17=>rfl
  |18=>rfl
  |19=>rfl
  |20=>rfl
  |21=>rfl
  |22=>rfl
  |23=>rfl
  |_+24=>rfl
theorem aah :∀(n:Nat) (x:V7 n),(XQ n x).map (·.t)=reF n
  |0,x=>rfl
  |1,x=>rfl
  |2,x=>rfl
  |3,x=>rfl
  |4,x=>rfl
  |5,x=>rfl
  |6,x=>rfl
  |7,x=>rfl
  |8,x=>rfl
  |9,x=>rfl
  |10,x=>rfl
  |11,x=>rfl
  |12,x=>rfl
  |13,x=>rfl
  |14,x=>rfl
  |15,x=>rfl
  |16,x=>rfl
  |17,x=>rfl
  |18,x=>rfl
  |19,x=>rfl
  |20,x=>rfl
  |21,x=>rfl
  |22,x=>rfl
  |23,x=>rfl
  |_+24,_=>rfl
theorem aai :∀(n:Nat) (ws:List (TP V7)),ws.map (·.t)=reF n→XQ n (ab4 n ws)=ws
  |0,ws,h=>by
    have e:=cZ h
    subst e
    rfl
  |1,ws,h=>by
    have e:=cZ h
    subst e
    rfl
  |2,ws,h=>by
    have e:=cZ h
    subst e
    rfl
  |3,ws,h=>by
    obtain ⟨x0,Ro,e0,h0⟩:=aS h
    subst e0
    obtain ⟨x1,Um,e1,h1⟩:=aS h0
    subst e1
    obtain ⟨x2,ws2,e2,h2⟩:=aS h1
    subst e2
    obtain ⟨x3,ws3,e3,h3⟩:=aS h2
    subst e3
    obtain ⟨x4,ws4,e4,h4⟩:=aS h3
    subst e4
    obtain ⟨x5,ws5,e5,h5⟩:=aS h4
    subst e5
    obtain ⟨x6,ws6,e6,h6⟩:=aS h5
    subst e6
    have e:=cZ h6
    subst e
    rfl
  |4,ws,h=>by
    have e:=cZ h
    subst e
    rfl
  |5,ws,h=>by
    obtain ⟨x0,Ro,e0,h0⟩:=aS h
    subst e0
    obtain ⟨x1,Um,e1,h1⟩:=aS h0
    subst e1
    have e:=cZ h1
    subst e
    rfl
  |6,ws,h=>by
    obtain ⟨x0,Ro,e0,h0⟩:=aS h
    subst e0
    obtain ⟨x1,Um,e1,h1⟩:=aS h0
    subst e1
    obtain ⟨x2,ws2,e2,h2⟩:=aS h1
    subst e2
    obtain ⟨x3,ws3,e3,h3⟩:=aS h2
    subst e3
    obtain ⟨x4,ws4,e4,h4⟩:=aS h3
    subst e4
    obtain ⟨x5,ws5,e5,h5⟩:=aS h4
    subst e5
    obtain ⟨x6,ws6,e6,h6⟩:=aS h5
    subst e6
    obtain ⟨x7,ws7,e7,h7⟩:=aS h6
    subst e7
    have e:=cZ h7
    subst e
    rfl
  |7,ws,h=>by
    obtain ⟨x0,Ro,e0,h0⟩:=aS h
    subst e0
    obtain ⟨x1,Um,e1,h1⟩:=aS h0
    subst e1
    obtain ⟨x2,ws2,e2,h2⟩:=aS h1
    subst e2
    obtain ⟨x3,ws3,e3,h3⟩:=aS h2
    subst e3
    have e:=cZ h3
    subst e
    rfl
  |8,ws,h=>by
    obtain ⟨x0,Ro,e0,h0⟩:=aS h
    subst e0
    obtain ⟨x1,Um,e1,h1⟩:=aS h0
    subst e1
    have e:=cZ h1
    subst e
    rfl
  |9,ws,h=>by
    have e:=cZ h
    subst e
    rfl
  |10,ws,h=>by
    have e:=cZ h
    subst e
    rfl
  |11,ws,h=>by
    have e:=cZ h
    subst e
    rfl
  |12,ws,h=>by
    obtain ⟨x0,Ro,e0,h0⟩:=aS h
    subst e0
    obtain ⟨x1,Um,e1,h1⟩:=aS h0
    subst e1
    obtain ⟨x2,ws2,e2,h2⟩:=aS h1
    subst e2
    obtain ⟨x3,ws3,e3,h3⟩:=aS h2
    subst e3
    have e:=cZ h3
    subst e
    rfl
  |13,ws,h=>by
    obtain ⟨x0,Ro,e0,h0⟩:=aS h
    subst e0
    obtain ⟨x1,Um,e1,h1⟩:=aS h0
    subst e1
    obtain ⟨x2,ws2,e2,h2⟩:=aS h1
    subst e2
    have e:=cZ h2
    subst e
    rfl
  |14,ws,h=>by
    obtain ⟨x0,Ro,e0,h0⟩:=aS h
    subst e0
    obtain ⟨x1,Um,e1,h1⟩:=aS h0
    subst e1
    have e:=cZ h1
    subst e
    rfl
  |15,ws,h=>by
    have e:=cZ h
    subst e
    rfl
  |16,ws,h=>by
    have e:=cZ h
    subst e
    rfl
  |17,ws,h=>by
    have e:=cZ h
    subst e
    rfl
  |18,ws,h=>by
    obtain ⟨x0,Ro,e0,h0⟩:=aS h
    subst e0
    obtain ⟨x1,Um,e1,h1⟩:=aS h0
    subst e1
    obtain ⟨x2,ws2,e2,h2⟩:=aS h1
    subst e2
    obtain ⟨x3,ws3,e3,h3⟩:=aS h2
    subst e3
    obtain ⟨x4,ws4,e4,h4⟩:=aS h3
    subst e4
    have e:=cZ h4
    subst e
    rfl
  |19,ws,h=>by
    have e:=cZ h
    subst e
    rfl
  |20,ws,h=>by
    have e:=cZ h
    subst e
    rfl
  |21,ws,h=>by
    have e:=cZ h
    subst e
    rfl
  |22,ws,h=>by
    have e:=cZ h
    subst e
    rfl
  |23,ws,h=>by
    have e:=cZ h
    subst e
    rfl
  |_+24,ws,h=>by have e:=cZ h;subst e;rfl
theorem aaj :∀(n:Nat) (x:V7 n),aag n x=(XQ n x).map fun w=>Ej (gZ reF) (lY reF aag (gZ reF)) w.t w.x
  |0,x=>by kernel_rfl
  |1,x=>by kernel_rfl
  |2,x=>by kernel_rfl
  |3,x=>by kernel_rfl
  |4,x=>by kernel_rfl
  |5,x=>by kernel_rfl
  |6,x=>by kernel_rfl
  |7,x=>by kernel_rfl
  |8,x=>by kernel_rfl
  |9,x=>by kernel_rfl
  |10,x=>by kernel_rfl
  |11,x=>by kernel_rfl
  |12,x=>by kernel_rfl
  |13,x=>by kernel_rfl
  |14,x=>by kernel_rfl
  |15,x=>by kernel_rfl
  |16,x=>by kernel_rfl
  |17,x=>by kernel_rfl
  |18,x=>by kernel_rfl
  |19,x=>by kernel_rfl
  |20,x=>by kernel_rfl
  |21,x=>by kernel_rfl
  |22,x=>by kernel_rfl
  |23,x=>by kernel_rfl
  |_+24,_=>rfl
def reG:Nat→Option ((e:Ty)×List (D V7 e))
  |_=>none
instance re:RE where
  C:=V7
  F:=reF
  dflt:=adO
  un:=XQ
  ro:=ab4
  er:=aag
  Fwd:=ab5
  YM:=aah
  YN:=aai
  YO:=aaj
  G:=reG
theorem mixed:Fit Try.prog:=⟨Fw.Ytncdiffmecbcmaa.aae,fun _ _ _ _ h=>h.elim⟩
def Nc:List (Nat×Ty):=[(3,(.int .i64)),(4,.bool),(23,(.sl (.int .i64))),(25,(.st 3)),(30,(.st 5)),(32,(.st 6)),(35,(.st 7)),(59,(.st 12)),(80,(.st 8)),(84,(.st 18)),(99,(.prod (.int .i64) (.int .i64))),(109,(.st 13)),(125,(.st 14))]
def ety:TypeId→Option Ty:=fun t=>Nc.lookup t
def sg7:dU:={ aO:=0,pin:=⟨[],[]⟩,aQ:=⟨[(0,(.agg [.bM,(.own 21),(.p false false (.int .i64)),(.p false false (.int .i64))]))],[(21,(.arr false false false (.st 7)))]⟩,dL:=1,aY:=[],aU:=[21] }
def an7:jJ:=(.seq .nil (.seq .nil (.seq .nil .nil)))
--FN 7 23 [.cell 0 39] callees [] ring [] ety ety
def sg9:dU:={ aO:=2,pin:=⟨[(0,(.agg [(.p true false (.sl (.st 8))),(.p true false (.sl (.st 7))),(.p true false (.int .i64)),(.p true false (.int .i64))])),(1,(.agg [(.p true false (.int .i64)),(.p true false (.int .i64)),(.p true false (.int .i64))]))],[]⟩,aQ:=⟨[(0,(.agg [(.p false false (.int .i64)),(.p false false (.int .i64)),(.p false false (.int .i64)),(.p false false (.int .i64)),(.p false false (.int .i64)),(.p false false (.int .i64)),(.p true false (.sl (.int .i64)))])),(1,(.one (.p false false .bool)))],[]⟩,dL:=2,aY:=[],aU:=[] }
def an9:jJ:=(.seq .nil (.seq (.seq (.meet false ⟨[(2,.keep),(3,.keep),(4,.keep),(35,.sl (.one (.p false false .bool)))],[(2,.keep),(3,.keep),(4,.keep)]⟩ .nil) (.seq .nil .nil)) (.seq .nil (.seq (.seq (.meet false ⟨[(3,.keep),(4,.keep),(6,.keep),(67,.sl (.one (.p false false .bool)))],[(3,.keep),(4,.keep)]⟩ .nil) (.seq .nil .nil)) .nil))))
--FN 9 74 [.cell 4 25,.tmp 5] callees [] ring [] ety ety
def aak:dU:={ aO:=2,pin:=⟨[(0,(.agg [(.p true false (.sl (.st 8))),(.p true false (.sl (.st 7))),(.p true false (.int .i64)),(.p true false (.int .i64))])),(1,(.agg [(.p true false (.int .i64)),(.p true false (.int .i64)),(.p true false (.int .i64))]))],[]⟩,aQ:=⟨[(0,(.one (.own 60000)))],[(60000,(.arr false false false (.int .i64)))]⟩,dL:=1,aY:=[],aU:=[60000] }
def adR:jJ:=(.seq .nil (.seq .nil (.seq (.seq .nil (.seq .nil .nil)) (.seq .nil (.seq (.seq .nil (.meet false ⟨[(7,.sl (.one (.own 100002)))],[(100002,.ob (.arr false false false (.int .i64)))]⟩ (.loop ⟨[(2,.keep),(5,.keep),(7,.sl (.one (.own 100002))),(19,.keep),(20,.keep),(21,.sl (.one (.p false false (.int .i64))))],[(2,.keep),(5,.keep),(100002,.ob (.arr false false false (.int .i64)))]⟩ (.seq .nil (.seq .nil (.seq (.seq (.seq .nil (.seq (.meet false ⟨[(2,.keep),(5,.keep),(7,.keep),(8,.keep),(19,.keep),(20,.keep),(21,.keep),(37,.sl (.one (.p false false .bool)))],[(2,.keep),(5,.keep),(100002,.keep)]⟩ .nil) (.meet false ⟨[(2,.keep),(5,.keep),(7,.sl (.one (.own 102002))),(19,.keep),(20,.keep),(21,.keep)],[(2,.keep),(5,.keep),(102002,.ob (.arr false false false (.int .i64)))]⟩ .nil))) .nil) .nil)))))) .nil)))))
--FN 11 44 [.tmp 4] callees [9] ring [] ety ety
def V8:dU:={ aO:=1,pin:=⟨[(0,(.one (.p true false (.sl (.st 3)))))],[]⟩,aQ:=⟨[(0,(.one (.own 60000)))],[(60000,(.arr false true false (.st 3)))]⟩,dL:=1,aY:=[],aU:=[60000] }
def adS:jJ:=(.seq .nil (.seq (.seq .nil (.seq .nil .nil)) .nil))
--FN 12 8 [.tmp 2] callees [] ring [] ety ety
def V9:dU:={ aO:=1,pin:=⟨[(0,(.one (.p true false (.sl (.st 6)))))],[]⟩,aQ:=⟨[(0,(.one (.own 60000)))],[(60000,(.arr false true false (.st 6)))]⟩,dL:=1,aY:=[],aU:=[60000] }
def adT:jJ:=(.seq .nil (.seq (.seq .nil (.seq .nil .nil)) .nil))
--FN 13 8 [.tmp 2] callees [] ring [] ety ety
def V_:dU:={ aO:=1,pin:=⟨[(0,(.one (.p true false (.sl (.int .i64)))))],[]⟩,aQ:=⟨[(0,(.one (.own 60000)))],[(60000,(.arr false true false (.int .i64)))]⟩,dL:=1,aY:=[],aU:=[60000] }
def adU:jJ:=(.seq .nil (.seq (.seq .nil (.seq .nil .nil)) .nil))
--FN 14 8 [.tmp 2] callees [] ring [] ety ety
def aal:dU:={ aO:=1,pin:=⟨[(0,(.agg [(.p true false .str),(.p true false (.int .i64)),(.p true false (.int .i64)),(.p true false (.sl (.st 6)))]))],[]⟩,aQ:=⟨[(0,(.one (.p false false (.int .i64))))],[]⟩,dL:=1,aY:=[],aU:=[] }
def adV:jJ:=(.seq .nil (.seq .nil (.seq (.seq .nil (.meet false ⟨[(3,.sl (.one (.p false false (.int .i64))))],[]⟩ (.loop ⟨[(3,.sl (.one (.p false false (.int .i64)))),(7,.keep),(8,.keep),(9,.sl (.one (.p false false (.int .i64))))],[]⟩ (.seq .nil (.seq .nil (.seq (.seq .nil .nil) .nil)))))) .nil)))
--FN 15 21 [.tmp 2] callees [] ring [] ety ety
def Wh:dU:={ aO:=1,pin:=⟨[(0,(.one (.p true false (.sl (.st 7)))))],[]⟩,aQ:=⟨[(0,(.one (.own 60000)))],[(60000,(.arr false true false (.st 7)))]⟩,dL:=1,aY:=[],aU:=[60000] }
def adW:jJ:=(.seq .nil (.seq (.seq .nil (.seq .nil .nil)) .nil))
--FN 16 8 [.tmp 2] callees [] ring [] ety ety
def aam:dU:={ aO:=1,pin:=⟨[(0,(.agg [(.p true false (.int .i64)),(.p true false (.int .i64))]))],[]⟩,aQ:=⟨[(0,(.agg [(.p false false (.int .i64)),(.p false false (.int .i64))]))],[]⟩,dL:=1,aY:=[],aU:=[] }
def adX:jJ:=(.seq .nil .nil)
--FN 17 12 [.cell 2 55] callees [] ring [] ety ety
def aan:dU:={ aO:=1,pin:=⟨[(0,(.agg [(.p true false (.sl (.st 8))),(.p true false (.sl (.st 7))),(.p true false (.int .i64)),(.p true false (.int .i64))]))],[]⟩,aQ:=⟨[(0,(.agg [(.own 100003)]))],[(100003,(.ay false false (.st 12) [(1,(.int .i64)),(2,(.prod (.int .i64) (.int .i64)))]))]⟩,dL:=1,aY:=[],aU:=[100003] }
def adY:jJ:=(.seq .nil (.seq .nil (.seq (.seq .nil (.meet false ⟨[(2,.keep),(3,.keep)],[(2,.keep),(3,.ob (.box [(.own 100003)])),(100003,.ob (.ay false false (.st 12) [(1,(.int .i64)),(2,(.prod (.int .i64) (.int .i64)))]))]⟩ (.loop ⟨[(1,.keep),(2,.keep),(3,.keep),(4,.sl (.one (.p false false (.int .i64))))],[(1,.keep),(2,.keep),(3,.ob (.box [(.own 100003)])),(100003,.ob (.ay false false (.st 12) [(1,(.int .i64)),(2,(.prod (.int .i64) (.int .i64)))]))]⟩ (.seq (.seq .nil .nil) (.seq (.seq .nil .nil) .nil))))) .nil)))
def YU:TypeId→Option Ty:=fun t=>(([(1000059,(.prod (.st 1) (.prod (.st 2) .bool))),(3000018,.bool),(3000008,.bool)]:List (Nat×Ty))++Nc).lookup t
--FN 18 31 [.cell 2 49] callees [] ring [] ety YU
def aao:dU:={ aO:=4,pin:=⟨[(0,(.one (.box 50000 0))),(1,(.one (.p true false (.int .i64)))),(2,(.one (.p true false (.sl (.int .i64))))),(3,(.one (.p true false (.int .i64))))],[(50000,(.box [(.p false true (.sl (.st 8))),(.p false true (.sl (.st 7))),(.p false true (.int .i64)),(.p false true (.int .i64)),(.p false true (.sl (.int .i64))),(.p false true (.int .i64)),(.p false true (.int .i64)),(.p false true (.int .i64)),(.own 50001),(.own 50002),(.own 50003),(.own 50004),(.own 50005),(.p false true (.int .i64)),(.p false true (.int .i64)),(.p false true (.int .i64))])),(50001,(.ay false true (.st 18) [(3,(.int .i64))])),(50002,(.ay false true (.sl (.int .i64)) [(0,(.int .i64))])),(50003,(.arr false false true (.int .i64))),(50004,(.ay false true (.st 12) [(1,(.int .i64)),(2,(.prod (.int .i64) (.int .i64)))])),(50005,(.arr false false true (.int .i64)))]⟩,aQ:=⟨[(0,(.one (.p false false .bool)))],[(50000,(.box [(.p false true (.sl (.st 8))),(.p false true (.sl (.st 7))),(.p false false (.int .i64)),(.p false false (.int .i64)),(.p false true (.sl (.int .i64))),(.p false false (.int .i64)),(.p false false (.int .i64)),(.p false false (.int .i64)),(.own 60005),(.own 50002),(.own 50003),(.own 50004),(.own 50005),(.p false false (.int .i64)),(.p false false (.int .i64)),(.p false false (.int .i64))])),(50002,(.ay false true (.sl (.int .i64)) [(0,(.int .i64))])),(50003,(.arr false false true (.int .i64))),(50004,(.ay false true (.st 12) [(1,(.int .i64)),(2,(.prod (.int .i64) (.int .i64)))])),(50005,(.arr false false true (.int .i64))),(60005,(.ay true true (.st 18) [(3,(.int .i64))]))]⟩,dL:=1,aY:=[50000,50002,50003,50004,50005],aU:=[60005] }
def adZ:jJ:=(.seq .nil (.seq .nil (.seq (.seq (.meet false ⟨[(0,.keep),(1,.keep),(2,.keep),(3,.keep),(9,.keep),(45,.sl (.one (.p false false .bool)))],[(50000,.keep),(50002,.keep),(50003,.keep),(50004,.keep),(50005,.keep),(9,.keep),(50001,.keep)]⟩ .nil) (.seq (.seq .nil .nil) .nil)) (.seq .nil (.seq .nil (.seq (.seq .nil (.meet false ⟨[(0,.keep),(1,.keep),(3,.keep),(10,.keep)],[(50000,.keep),(50002,.keep),(50003,.keep),(50004,.keep),(50005,.keep),(60,.ob (.arr false true false (.int .i64))),(50001,.keep)]⟩ (.loop ⟨[(0,.keep),(1,.keep),(2,.keep),(3,.keep),(10,.keep),(11,.sl (.one (.p false false (.int .i64))))],[(50000,.keep),(50002,.keep),(50003,.keep),(50004,.keep),(50005,.keep),(60,.ob (.arr false true false (.int .i64))),(50001,.keep)]⟩ (.seq (.seq .nil .nil) (.seq .nil .nil))))) (.seq .nil (.seq .nil (.seq .nil .nil)))))))))
def YV:TypeId→Option Ty:=fun t=>(([(1000059,(.prod (.st 1) (.prod (.st 2) .bool))),(1000084,(.prod (.st 3) .bool)),(1000023,(.prod (.st 0) .bool)),(3000023,.bool)]:List (Nat×Ty))++Nc).lookup t
--FN 19 112 [.tmp 8] callees [] ring [] ety YV
def aap:dU:={ aO:=2,pin:=⟨[(0,(.one (.box 50000 0))),(1,(.agg [(.p true false (.int .i64)),(.p true false (.int .i64)),(.p true false (.int .i64)),(.p true false (.int .i64))]))],[(50000,(.box [(.p false true (.sl (.st 8))),(.p false true (.sl (.st 7))),(.p false true (.int .i64)),(.p false true (.int .i64)),(.p false true (.sl (.int .i64))),(.p false true (.int .i64)),(.p false true (.int .i64)),(.p false true (.int .i64)),(.own 50001),(.own 50002),(.own 50003),(.own 50004),(.own 50005),(.p false true (.int .i64)),(.p false true (.int .i64)),(.p false true (.int .i64))])),(50001,(.ay false true (.st 18) [(3,(.int .i64))])),(50002,(.ay false true (.sl (.int .i64)) [(0,(.int .i64))])),(50003,(.arr false false true (.int .i64))),(50004,(.ay false true (.st 12) [(1,(.int .i64)),(2,(.prod (.int .i64) (.int .i64)))])),(50005,(.arr false false true (.int .i64)))]⟩,aQ:=⟨[],[(50000,(.box [(.p false true (.sl (.st 8))),(.p false true (.sl (.st 7))),(.p false false (.int .i64)),(.p false false (.int .i64)),(.p false true (.sl (.int .i64))),(.p false false (.int .i64)),(.p false false (.int .i64)),(.p false false (.int .i64)),(.own 60005),(.own 50002),(.own 50003),(.own 50004),(.own 50005),(.p false false (.int .i64)),(.p false false (.int .i64)),(.p false false (.int .i64))])),(50002,(.ay false true (.sl (.int .i64)) [(0,(.int .i64))])),(50003,(.arr false false true (.int .i64))),(50004,(.ay false true (.st 12) [(1,(.int .i64)),(2,(.prod (.int .i64) (.int .i64)))])),(50005,(.arr false false true (.int .i64))),(60005,(.ay true true (.st 18) [(3,(.int .i64))]))]⟩,dL:=0,aY:=[50000,50002,50003,50004,50005],aU:=[60005] }
def ad4:jJ:=(.seq .nil (.seq .nil (.seq .nil (.seq (.seq .nil (.seq (.seq .nil (.seq .nil (.seq (.seq .nil (.seq .nil .nil)) .nil))) .nil)) (.seq .nil (.seq (.seq (.meet false ⟨[(3,.keep),(4,.keep),(5,.keep),(8,.keep),(9,.keep),(104,.sl (.one (.p false false .bool)))],[(50000,.keep),(50002,.keep),(50003,.keep),(50004,.keep),(50005,.keep),(3,.keep),(50001,.ob (.ay false true (.st 18) [(3,(.int .i64))]))]⟩ .nil) (.meet false ⟨[(4,.keep),(5,.keep),(8,.sl (.one (.p false false (.int .i64)))),(9,.sl (.one (.p true false (.int .i64))))],[(50000,.keep),(50002,.keep),(50003,.keep),(50004,.keep),(50005,.keep),(50001,.keep)]⟩ .nil)) (.seq (.meet false ⟨[(4,.keep),(5,.keep),(9,.keep)],[(50000,.keep),(50002,.keep),(50003,.keep),(50004,.ob (.ay false true (.st 12) [(1,(.int .i64)),(2,(.prod (.int .i64) (.int .i64)))])),(50005,.keep),(50001,.keep)]⟩ .nil) .nil)))))))
def YW:TypeId→Option Ty:=fun t=>(([(1000084,(.prod (.st 3) .bool)),(1000059,(.prod (.st 1) (.prod (.st 2) .bool))),(1000023,(.prod (.st 0) .bool)),(2000000,.bool),(3000080,.bool),(3000063,.bool),(3000054,.bool),(3000017,.bool)]:List (Nat×Ty))++Nc).lookup t
--FN 21 138 [] callees [] ring [] ety YW
def aaq:dU:={ aO:=3,pin:=⟨[(0,(.one (.p true false (.int .i64)))),(1,(.one (.p true false (.int .i64)))),(2,(.one (.p true false (.int .i64))))],[]⟩,aQ:=⟨[(0,(.one (.p false false .bool)))],[]⟩,dL:=1,aY:=[],aU:=[] }
def ad5:jJ:=(.seq .nil (.seq (.meet false ⟨[(6,.sl (.one (.p false false .bool)))],[]⟩ .nil) .nil))
--FN 22 15 [.tmp 6] callees [] ring [] ety ety
def aar:dU:={ aO:=1,pin:=⟨[(0,(.agg [(.p true false .str),(.p true false (.int .i64))]))],[]⟩,aQ:=⟨[(0,(.one (.p false false .bool)))],[]⟩,dL:=1,aY:=[],aU:=[] }
def ad6:jJ:=(.seq .nil .nil)
--FN 24 7 [.tmp 2] callees [22] ring [] ety ety
def aas:dU:={ aO:=2,pin:=⟨[(0,(.one (.p true false (.sl (.int .i64))))),(1,(.one (.p true false (.int .i64))))],[]⟩,aQ:=⟨[(0,(.one (.p false false (.int .i64))))],[]⟩,dL:=1,aY:=[],aU:=[] }
def ad7:jJ:=(.seq .nil (.seq (.seq .nil (.meet true ⟨[],[]⟩ (.loop ⟨[(0,.keep),(1,.keep),(7,.keep),(8,.sl (.one (.p false false (.int .i64))))],[]⟩ (.seq .nil (.seq .nil (.seq (.seq (.seq .nil (.seq .nil (.seq .nil .nil))) .nil) .nil)))))) .nil))
--FN 26 19 [.tmp 4] callees [] ring [] ety ety
def aat:dU:={ aO:=2,pin:=⟨[(0,(.one (.box 50000 0))),(1,(.one (.p true false (.int .i64))))],[(50000,(.box [(.p false true (.sl (.st 8))),(.p false true (.sl (.st 7))),(.p false true (.int .i64)),(.p false true (.int .i64)),(.p false true (.sl (.int .i64))),(.p false true (.int .i64)),(.p false true (.int .i64)),(.p false true (.int .i64)),(.own 50001),(.own 50002),(.own 50003),(.own 50004),(.own 50005),(.p false true (.int .i64)),(.p false true (.int .i64)),(.p false true (.int .i64))])),(50001,(.ay false true (.st 18) [(3,(.int .i64))])),(50002,(.ay false true (.sl (.int .i64)) [(0,(.int .i64))])),(50003,(.arr false false true (.int .i64))),(50004,(.ay false true (.st 12) [(1,(.int .i64)),(2,(.prod (.int .i64) (.int .i64)))])),(50005,(.arr false false true (.int .i64)))]⟩,aQ:=⟨[],[(50000,(.box [(.p false true (.sl (.st 8))),(.p false true (.sl (.st 7))),(.p false false (.int .i64)),(.p false false (.int .i64)),(.p false true (.sl (.int .i64))),(.p false false (.int .i64)),(.p false false (.int .i64)),(.p false false (.int .i64)),(.own 50001),(.own 50002),(.own 50003),(.own 50004),(.own 50005),(.p false false (.int .i64)),(.p false false (.int .i64)),(.p false false (.int .i64))])),(50001,(.ay false true (.st 18) [(3,(.int .i64))])),(50002,(.ay false true (.sl (.int .i64)) [(0,(.int .i64))])),(50003,(.arr false false true (.int .i64))),(50004,(.ay false true (.st 12) [(1,(.int .i64)),(2,(.prod (.int .i64) (.int .i64)))])),(50005,(.arr false false true (.int .i64)))]⟩,dL:=0,aY:=[50000,50001,50002,50003,50004,50005],aU:=[] }
def ad8:jJ:=.nil
def YX:TypeId→Option Ty:=fun t=>(([(1000084,(.prod (.st 3) .bool)),(1000023,(.prod (.st 0) .bool)),(1000059,(.prod (.st 1) (.prod (.st 2) .bool)))]:List (Nat×Ty))++Nc).lookup t
--FN 29 11 [] callees [] ring [] ety YX
def aau:dU:={ aO:=2,pin:=⟨[(0,(.one (.own 55000))),(1,(.one (.p true false (.sl (.int .i64)))))],[(55000,(.arr false false true (.int .i64)))]⟩,aQ:=⟨[(0,(.one (.own 100001)))],[(55000,(.arr false false true (.int .i64))),(100001,(.arr false false true (.int .i64)))]⟩,dL:=1,aY:=[55000],aU:=[100001] }
def ad9:jJ:=(.seq .nil (.seq .nil (.seq (.seq .nil (.meet false ⟨[(5,.sl (.one (.own 100001)))],[(55000,.keep),(100001,.ob (.arr false false true (.int .i64)))]⟩ (.loop ⟨[(0,.keep),(1,.keep),(5,.sl (.one (.own 100001))),(6,.sl (.one (.p false false (.int .i64))))],[(55000,.keep),(100001,.ob (.arr false false true (.int .i64)))]⟩ (.seq (.seq .nil .nil) (.seq .nil .nil))))) .nil)))
--FN 30 24 [.tmp 4] callees [] ring [] ety ety
def aav:dU:={ aO:=2,pin:=⟨[(0,(.one (.p true false (.sl (.st 8))))),(1,(.one (.fn 24 [])))],[]⟩,aQ:=⟨[(0,(.one (.p false false (.int .i64))))],[]⟩,dL:=1,aY:=[],aU:=[] }
def ad_:jJ:=(.seq .nil (.seq (.seq .nil (.meet true ⟨[],[]⟩ (.loop ⟨[(0,.keep),(1,.keep),(7,.keep),(8,.sl (.one (.p false false (.int .i64))))],[]⟩ (.seq .nil (.seq .nil (.seq (.seq (.seq .nil (.seq .nil (.seq .nil .nil))) .nil) .nil)))))) .nil))
--FN 32 19 [.tmp 4] callees [24] ring [] ety ety
def aaw:dU:={ aO:=1,pin:=⟨[(0,(.one (.p true false .bool)))],[]⟩,aQ:=⟨[(0,(.one (.p false false (.int .i64))))],[]⟩,dL:=1,aY:=[],aU:=[] }
def aea:jJ:=(.seq .nil (.seq (.seq .nil (.seq .nil .nil)) .nil))
--FN 37 4 [.tmp 2] callees [] ring [] ety ety
def aax:dU:={ aO:=2,pin:=⟨[(0,(.one (.p true false (.sl (.st 14))))),(1,(.one (.p true false (.int .i64))))],[]⟩,aQ:=⟨[(0,(.one (.own 105000)))],[(105000,(.arr false true false (.st 14)))]⟩,dL:=1,aY:=[],aU:=[105000] }
def aeb:jJ:=(.seq .nil (.seq .nil (.seq .nil (.seq (.seq .nil (.meet false ⟨[(1,.keep),(5,.sl (.one (.own 100000))),(6,.sl (.one (.p false false .bool)))],[(100000,.ob (.arr false true false (.st 14)))]⟩ (.loop ⟨[(0,.keep),(1,.keep),(5,.sl (.one (.own 100000))),(6,.sl (.one (.p false false .bool))),(7,.sl (.one (.p false false (.int .i64))))],[(100000,.ob (.arr false true false (.st 14)))]⟩ (.seq (.seq .nil .nil) (.seq (.meet false ⟨[(0,.keep),(1,.keep),(5,.sl (.one (.own 102000))),(6,.sl (.one (.p false false .bool))),(7,.keep)],[(102000,.ob (.arr false true false (.st 14)))]⟩ (.seq (.seq (.meet false ⟨[(0,.keep),(1,.keep),(5,.keep),(6,.keep),(7,.keep),(24,.sl (.one (.p false false .bool)))],[(100000,.keep)]⟩ .nil) (.meet true ⟨[(0,.keep),(1,.keep),(5,.sl (.one (.own 101000))),(6,.sl (.one (.p false false .bool))),(7,.keep)],[(101000,.ob (.arr false true false (.st 14)))]⟩ (.seq (.seq .nil (.seq (.seq .nil (.seq .nil .nil)) .nil)) .nil))) .nil)) .nil))))) (.seq (.seq .nil (.meet false ⟨[(5,.sl (.one (.own 105000)))],[(105000,.ob (.arr false true false (.st 14)))]⟩ .nil)) .nil)))))
--FN 38 63 [.tmp 4] callees [] ring [] ety ety
def aay:dU:={ aO:=1,pin:=⟨[(0,(.agg [(.p true false (.int .i64)),(.p true false (.int .i64)),(.p true false (.int .i64)),(.p true false (.int .i64)),(.p true false (.int .i64)),(.p true false (.int .i64)),(.p true false (.sl (.int .i64)))]))],[]⟩,aQ:=⟨[(0,(.one (.p false false .bool)))],[]⟩,dL:=1,aY:=[],aU:=[] }
def aec:jJ:=(.seq .nil (.seq (.seq .nil (.seq (.seq .nil (.seq .nil (.seq .nil (.seq .nil .nil)))) .nil)) .nil))
--FN 39 18 [.tmp 2] callees [22] ring [] ety ety
def aaz:dU:={ aO:=1,pin:=⟨[(0,(.agg [(.p true false (.int .i64)),(.p true false (.int .i64)),(.p true false (.int .i64)),(.p true false (.int .i64)),(.p true false (.int .i64)),(.p true false (.int .i64)),(.p true false (.sl (.int .i64)))]))],[]⟩,aQ:=⟨[(0,(.one (.own 60000)))],[(60000,(.arr false true false (.int .i64)))]⟩,dL:=1,aY:=[],aU:=[60000] }
def aed:jJ:=(.seq .nil (.seq (.seq .nil (.seq (.seq (.seq .nil (.meet false ⟨[(1,.keep),(4,.keep),(5,.sl (.one (.p false false .bool)))],[(1,.keep)]⟩ (.seq .nil (.seq .nil (.meet false ⟨[(1,.keep),(4,.keep),(5,.sl (.one (.p false false .bool)))],[(1,.keep)]⟩ (.seq .nil (.seq .nil (.meet false ⟨[(1,.keep),(4,.keep),(5,.sl (.one (.p false false .bool)))],[(1,.keep)]⟩ (.seq .nil (.seq .nil (.meet false ⟨[(1,.keep),(4,.keep),(5,.sl (.one (.p false false .bool)))],[(1,.keep)]⟩ .nil))))))))))) (.seq .nil (.seq (.seq .nil (.meet false ⟨[(1,.keep),(4,.keep),(14,.sl (.one (.p false false .bool)))],[(1,.keep)]⟩ .nil)) (.seq .nil (.seq .nil (.seq .nil (.seq .nil (.seq .nil .nil)))))))) .nil)) .nil))
--FN 40 35 [.tmp 2] callees [14] ring [] ety ety
def aaA:dU:={ aO:=1,pin:=⟨[(0,(.agg [(.p true false (.int .i64)),(.p true false (.int .i64)),(.p true false (.int .i64)),(.p true false (.int .i64)),(.p true false (.int .i64)),(.p true false (.int .i64)),(.p true false (.sl (.int .i64)))]))],[]⟩,aQ:=⟨[(0,(.one (.p false false (.int .i64)))),(1,(.one (.p false false .bool)))],[]⟩,dL:=2,aY:=[],aU:=[] }
def aee:jJ:=(.seq .nil (.seq (.seq .nil (.seq (.seq (.seq .nil (.meet false ⟨[(1,.keep),(6,.sl (.one (.p false false .bool)))],[(1,.keep)]⟩ (.seq .nil (.seq .nil (.meet false ⟨[(1,.keep),(6,.sl (.one (.p false false .bool)))],[(1,.keep)]⟩ (.seq .nil (.seq .nil (.meet false ⟨[(1,.keep),(6,.sl (.one (.p false false .bool)))],[(1,.keep)]⟩ .nil)))))))) (.seq .nil .nil)) .nil)) (.seq (.seq .nil (.seq .nil .nil)) .nil)))
--FN 41 17 [.tmp 2,.tmp 3] callees [22] ring [] ety ety
def aaB:dU:={ aO:=1,pin:=⟨[(0,(.agg [(.p true false (.int .i64)),(.p true false (.int .i64)),(.p true false (.int .i64)),(.p true false (.int .i64))]))],[]⟩,aQ:=⟨[(0,(.one (.own 60000)))],[(60000,(.arr false true false (.int .i64)))]⟩,dL:=1,aY:=[],aU:=[60000] }
def aef:jJ:=(.seq .nil (.seq (.seq (.meet false ⟨[(1,.keep),(10,.sl (.one (.p false false .bool)))],[(1,.keep)]⟩ .nil) (.seq .nil .nil)) .nil))
--FN 44 14 [.tmp 2] callees [] ring [] ety ety
def aaC:dU:={ aO:=1,pin:=⟨[(0,(.agg [(.p true false (.int .i64)),(.p true false (.int .i64)),(.p true false (.int .i64)),(.p true false (.int .i64))]))],[]⟩,aQ:=⟨[(0,(.one (.own 60000)))],[(60000,(.arr false true false (.int .i64)))]⟩,dL:=1,aY:=[],aU:=[60000] }
def aeg:jJ:=(.seq .nil (.seq (.seq (.seq (.seq .nil (.meet false ⟨[(1,.keep),(3,.sl (.one (.p false false .bool)))],[(1,.keep)]⟩ (.seq .nil (.meet false ⟨[(1,.keep),(3,.sl (.one (.p false false .bool)))],[(1,.keep)]⟩ .nil)))) (.seq .nil (.seq .nil (.seq .nil .nil)))) .nil) .nil))
--FN 45 29 [.tmp 2] callees [] ring [] ety ety
def aaD:dU:={ aO:=2,pin:=⟨[(0,(.one (.p true false (.int .i64)))),(1,(.one (.box 50000 0)))],[(50000,(.box [(.p false true .str),(.p false true (.int .i64)),(.p false true (.int .i64)),(.p false true (.sl (.st 6)))]))]⟩,aQ:=⟨[(0,(.one (.p false false .bool)))],[(50000,(.box [(.p false false .str),(.p false false (.int .i64)),(.p false false (.int .i64)),(.p false true (.sl (.st 6)))]))]⟩,dL:=1,aY:=[50000],aU:=[] }
def aeh:jJ:=(.seq .nil .nil)
--FN 46 11 [.tmp 3] callees [22] ring [] ety ety
def aaE:dU:={ aO:=2,pin:=⟨[(0,(.one (.p true false (.sl .bool)))),(1,(.one (.p true false .bool)))],[]⟩,aQ:=⟨[(0,(.one (.p false false (.int .i64))))],[]⟩,dL:=1,aY:=[],aU:=[] }
def aei:jJ:=(.seq .nil (.seq (.seq .nil (.meet true ⟨[],[]⟩ (.loop ⟨[(0,.keep),(1,.keep),(7,.keep),(8,.sl (.one (.p false false (.int .i64))))],[]⟩ (.seq .nil (.seq .nil (.seq (.seq (.seq .nil (.seq .nil (.seq .nil .nil))) .nil) .nil)))))) .nil))
--FN 47 19 [.tmp 4] callees [] ring [] ety ety
def aaF:dU:={ aO:=2,pin:=⟨[(0,(.one (.box 50000 0))),(1,(.one (.p true false (.sl (.int .i64)))))],[(50000,(.box [(.own 50001)])),(50001,(.arr false false true (.int .i64)))]⟩,aQ:=⟨[],[(50000,(.box [(.own 10)])),(10,(.arr false true true (.int .i64)))]⟩,dL:=0,aY:=[50000],aU:=[10] }
def aej:jJ:=.nil
--FN 48 13 [] callees [] ring [] ety ety
def aaG:dU:={ aO:=1,pin:=⟨[(0,(.one (.box 50000 0)))],[(50000,(.box [(.own 50001)])),(50001,(.arr false false true (.int .i64)))]⟩,aQ:=⟨[(0,(.one (.p false false (.int .i64)))),(1,(.one (.p false false .bool)))],[(50000,(.box [(.own 60001)])),(60001,(.arr false false true (.int .i64)))]⟩,dL:=2,aY:=[50000],aU:=[60001] }
def aek:jJ:=(.seq .nil (.seq (.seq .nil (.seq .nil .nil)) (.seq .nil (.seq .nil .nil))))
def YZ:TypeId→Option Ty:=fun t=>(([(2000000,.bool)]:List (Nat×Ty))++Nc).lookup t
--FN 49 38 [.tmp 2,.tmp 3] callees [] ring [] ety YZ
def aaH:dU:={ aO:=2,pin:=⟨[(0,(.one (.p true false (.int .i64)))),(1,(.one (.box 50000 0)))],[(50000,(.box [(.p false true .str),(.p false true (.int .i64)),(.p false true (.int .i64)),(.p false true (.sl (.st 6)))]))]⟩,aQ:=⟨[(0,(.one (.p false false .bool)))],[(50000,(.box [(.p false false .str),(.p false false (.int .i64)),(.p false false (.int .i64)),(.p false true (.sl (.st 6)))]))]⟩,dL:=1,aY:=[50000],aU:=[] }
def ael:jJ:=(.seq .nil .nil)
--FN 51 10 [.tmp 3] callees [22] ring [] ety ety
def aaI:dU:={ aO:=2,pin:=⟨[(0,(.one (.p true false (.sl (.int .i64))))),(1,(.one (.p true false (.int .i64))))],[]⟩,aQ:=⟨[(0,(.one (.p false false .bool)))],[]⟩,dL:=1,aY:=[],aU:=[] }
def aem:jJ:=(.seq .nil .nil)
--FN 10 9 [.tmp 4] callees [26] ring [] ety ety
def aaJ:dU:={ aO:=2,pin:=⟨[(0,(.one (.p true false (.sl (.st 8))))),(1,(.one (.fn 24 [])))],[]⟩,aQ:=⟨[(0,(.one (.p false false .bool)))],[]⟩,dL:=1,aY:=[],aU:=[] }
def aen:jJ:=(.seq .nil .nil)
--FN 23 9 [.tmp 4] callees [32,24] ring [] ety ety
def aaK:dU:={ aO:=2,pin:=⟨[(0,(.one (.p true false (.int .i64)))),(1,(.one (.p true false (.int .i64))))],[]⟩,aQ:=⟨[(0,(.one (.p false false (.int .i64))))],[]⟩,dL:=1,aY:=[],aU:=[] }
def aeo:jJ:=(.seq .nil (.seq (.seq .nil (.seq (.seq .nil (.seq .nil (.seq .nil (.seq .nil .nil)))) .nil)) .nil))
--FN 27 15 [.tmp 4] callees [37] ring [] ety ety
def aaL:dU:={ aO:=3,pin:=⟨[(0,(.one (.p true false (.int .i64)))),(1,(.one (.p true false (.int .i64)))),(2,(.one (.p true false (.int .i64))))],[]⟩,aQ:=⟨[(0,(.one (.p false false (.int .i64)))),(1,(.one (.p false false .bool)))],[]⟩,dL:=2,aY:=[],aU:=[] }
def aep:jJ:=(.seq .nil (.seq (.seq .nil (.seq (.seq .nil (.seq .nil (.seq .nil (.seq .nil (.seq .nil (.seq .nil (.seq (.seq .nil (.meet false ⟨[(0,.keep),(1,.keep),(2,.keep),(10,.keep),(26,.sl (.one (.p false false .bool)))],[]⟩ .nil)) (.seq (.seq (.seq .nil (.seq .nil .nil)) (.seq .nil (.seq (.seq .nil (.meet false ⟨[(0,.keep),(8,.sl (.one (.p false false (.int .i64)))),(9,.sl (.one (.p false false (.int .i64))))],[]⟩ .nil)) (.seq (.seq .nil (.seq .nil .nil)) .nil)))) (.seq .nil (.seq .nil (.seq .nil (.seq .nil (.seq .nil (.seq .nil (.seq .nil (.seq .nil .nil)))))))))))))))) .nil)) .nil))
--FN 28 69 [.tmp 6,.tmp 7] callees [37] ring [] ety ety
def aaM:dU:={ aO:=4,pin:=⟨[(0,(.one (.p true false (.sl (.st 13))))),(1,(.one (.p true false (.int .i64)))),(2,(.one (.p true false (.int .i64)))),(3,(.one (.p true false (.int .i64))))],[]⟩,aQ:=⟨[(0,(.one (.own 106000)))],[(106000,(.arr false true false (.st 13)))]⟩,dL:=1,aY:=[],aU:=[106000] }
def aer:jJ:=(.seq .nil (.seq .nil (.seq .nil (.seq (.seq .nil (.meet false ⟨[(1,.keep),(2,.keep),(3,.keep),(9,.sl (.one (.own 100000))),(10,.sl (.one (.p false false .bool)))],[(100000,.ob (.arr false true false (.st 13)))]⟩ (.loop ⟨[(0,.keep),(1,.keep),(2,.keep),(3,.keep),(9,.sl (.one (.own 100000))),(10,.sl (.one (.p false false .bool))),(11,.sl (.one (.p false false (.int .i64))))],[(100000,.ob (.arr false true false (.st 13)))]⟩ (.seq (.seq .nil .nil) (.seq (.meet false ⟨[(0,.keep),(1,.keep),(2,.keep),(3,.keep),(9,.sl (.one (.own 104000))),(10,.sl (.one (.p false false .bool))),(11,.keep)],[(104000,.ob (.arr false true false (.st 13)))]⟩ (.seq .nil (.seq (.seq (.meet false ⟨[(0,.keep),(1,.keep),(2,.keep),(3,.keep),(9,.keep),(10,.keep),(11,.keep),(12,.keep),(42,.sl (.one (.p false false .bool)))],[(100000,.keep),(12,.keep)]⟩ .nil) (.meet true ⟨[(0,.keep),(1,.keep),(2,.keep),(3,.keep),(9,.sl (.one (.own 103000))),(10,.sl (.one (.p false false .bool))),(11,.keep),(12,.keep)],[(103000,.ob (.arr false true false (.st 13))),(12,.keep)]⟩ (.seq (.seq .nil (.seq (.seq (.meet false ⟨[(0,.keep),(1,.keep),(2,.keep),(3,.keep),(9,.keep),(10,.keep),(11,.keep),(12,.keep),(52,.sl (.one (.p false false .bool)))],[(100000,.keep),(12,.keep)]⟩ .nil) (.seq .nil .nil)) .nil)) .nil))) .nil))) .nil))))) (.seq (.seq .nil (.meet false ⟨[(9,.sl (.one (.own 106000)))],[(106000,.ob (.arr false true false (.st 13)))]⟩ .nil)) .nil)))))
--FN 31 86 [.tmp 8] callees [38] ring [] ety ety
def aaN:dU:={ aO:=2,pin:=⟨[(0,(.one (.p true false (.sl .bool)))),(1,(.one (.p true false .bool)))],[]⟩,aQ:=⟨[(0,(.one (.p false false .bool)))],[]⟩,dL:=1,aY:=[],aU:=[] }
def aes:jJ:=(.seq .nil .nil)
--FN 35 9 [.tmp 4] callees [47] ring [] ety ety
def aaO:dU:={ aO:=1,pin:=⟨[(0,(.agg [(.p true false .str),(.p true false (.int .i64)),(.p true false (.int .i64)),(.p true false (.sl (.st 6)))]))],[]⟩,aQ:=⟨[(0,(.one (.own 10)))],[(10,(.arr false false false .bool))]⟩,dL:=1,aY:=[],aU:=[10] }
def aeu:jJ:=(.seq .nil (.seq .nil (.seq (.meet false ⟨[(1,.keep),(3,.keep),(4,.sl (.one (.box 12 0)))],[(1,.keep),(10,.keep),(12,.ob (.box [(.own 100700)])),(100700,.ob (.arr false false false (.int .i64)))]⟩ .nil) (.seq .nil (.seq (.seq .nil (.meet false ⟨[(3,.keep)],[(10,.ob (.arr false false false .bool))]⟩ (.loop ⟨[(1,.keep),(3,.keep),(4,.keep),(5,.sl (.one (.p false false (.int .i64)))),(6,.sl (.one (.p false false .bool)))],[(1,.keep),(10,.ob (.arr false false false .bool)),(12,.ob (.box [(.own 101003)])),(101003,.ob (.arr false true false (.int .i64)))]⟩ (.seq (.seq .nil .nil) (.seq (.seq (.seq .nil (.meet false ⟨[(1,.keep),(3,.keep),(4,.keep)],[(1,.keep),(10,.ob (.arr false false false .bool)),(12,.ob (.box [(.own 102003)])),(102003,.ob (.arr false true false (.int .i64)))]⟩ (.seq .nil .nil))) .nil) .nil))))) .nil)))))
--FN 36 45 [.tmp 2] callees [48,49,45] ring [] ety ety
def aaP:dU:={ aO:=1,pin:=⟨[(0,(.agg [(.p true false .str),(.p true false (.int .i64)),(.p true false (.int .i64)),(.p true false (.sl (.st 6)))]))],[]⟩,aQ:=⟨[(0,(.one (.fn 51 [1])))],[(1,(.box [(.p false false .str),(.p false false (.int .i64)),(.p false false (.int .i64)),(.p true false (.sl (.st 6)))]))]⟩,dL:=1,aY:=[],aU:=[1] }
def aev:jJ:=(.seq .nil .nil)
--FN 43 4 [.tmp 2] callees [51] ring [] ety ety
def xZ:dU:={ aO:=2,pin:=⟨[(0,(.one (.p true false (.sl (.int .i64))))),(1,(.one (.fn 46 [50000])))],[(50000,(.box [(.p false true .str),(.p false true (.int .i64)),(.p false true (.int .i64)),(.p false true (.sl (.st 6)))]))]⟩,aQ:=⟨[(0,(.one (.p false false (.int .i64))))],[(50000,(.box [(.p false false .str),(.p false false (.int .i64)),(.p false false (.int .i64)),(.p false true (.sl (.st 6)))]))]⟩,dL:=1,aY:=[50000],aU:=[] }
def OV:jJ:=(.seq .nil (.seq (.seq .nil (.meet true ⟨[],[(50000,.ob (.box [(.p false true .str),(.p false true (.int .i64)),(.p false true (.int .i64)),(.p false true (.sl (.st 6)))]))]⟩ (.loop ⟨[(0,.keep),(1,.keep),(7,.keep),(8,.sl (.one (.p false false (.int .i64))))],[(50000,.ob (.box [(.p false true .str),(.p false true (.int .i64)),(.p false true (.int .i64)),(.p false true (.sl (.st 6)))]))]⟩ (.seq .nil (.seq .nil (.seq (.seq (.seq .nil (.seq .nil (.seq .nil .nil))) .nil) .nil)))))) .nil))
--FN 47000050 19 [.tmp 4] callees [46] ring [] ety ety
def x9:dU:={ aO:=2,pin:=⟨[(0,(.one (.p true false (.sl (.int .i64))))),(1,(.one (.fn 51 [50000])))],[(50000,(.box [(.p false true .str),(.p false true (.int .i64)),(.p false true (.int .i64)),(.p false true (.sl (.st 6)))]))]⟩,aQ:=⟨[(0,(.one (.p false false (.int .i64))))],[(50000,(.box [(.p false false .str),(.p false false (.int .i64)),(.p false false (.int .i64)),(.p false true (.sl (.st 6)))]))]⟩,dL:=1,aY:=[50000],aU:=[] }
def OW:jJ:=(.seq .nil (.seq (.seq .nil (.meet true ⟨[],[(50000,.ob (.box [(.p false true .str),(.p false true (.int .i64)),(.p false true (.int .i64)),(.p false true (.sl (.st 6)))]))]⟩ (.loop ⟨[(0,.keep),(1,.keep),(7,.keep),(8,.sl (.one (.p false false (.int .i64))))],[(50000,.ob (.box [(.p false true .str),(.p false true (.int .i64)),(.p false true (.int .i64)),(.p false true (.sl (.st 6)))]))]⟩ (.seq .nil (.seq .nil (.seq (.seq (.seq .nil (.seq .nil (.seq .nil .nil))) .nil) .nil)))))) .nil))
--FN 52000050 19 [.tmp 4] callees [51] ring [] ety ety
def aaQ:dU:={ aO:=2,pin:=⟨[(0,(.one (.box 50000 0))),(1,(.agg [(.p true false (.int .i64)),(.p true false (.int .i64)),(.p true false (.int .i64)),(.p true false (.int .i64)),(.p true false (.int .i64)),(.p true false (.int .i64)),(.p true false (.sl (.int .i64)))]))],[(50000,(.box [(.p false true (.sl (.st 8))),(.p false true (.sl (.st 7))),(.p false true (.int .i64)),(.p false true (.int .i64)),(.p false true (.sl (.int .i64))),(.p false true (.int .i64)),(.p false true (.int .i64)),(.p false true (.int .i64)),(.own 50001),(.own 50002),(.own 50003),(.own 50004),(.own 50005),(.p false true (.int .i64)),(.p false true (.int .i64)),(.p false true (.int .i64))])),(50001,(.ay false true (.st 18) [(3,(.int .i64))])),(50002,(.ay false true (.sl (.int .i64)) [(0,(.int .i64))])),(50003,(.arr false false true (.int .i64))),(50004,(.ay false true (.st 12) [(1,(.int .i64)),(2,(.prod (.int .i64) (.int .i64)))])),(50005,(.arr false false true (.int .i64)))]⟩,aQ:=⟨[],[(50000,(.box [(.p false true (.sl (.st 8))),(.p false true (.sl (.st 7))),(.p false false (.int .i64)),(.p false false (.int .i64)),(.p false true (.sl (.int .i64))),(.p false false (.int .i64)),(.p false false (.int .i64)),(.p false false (.int .i64)),(.own 60004),(.own 50002),(.own 60005),(.own 50004),(.own 50005),(.p false false (.int .i64)),(.p false false (.int .i64)),(.p false false (.int .i64))])),(50002,(.ay false true (.sl (.int .i64)) [(0,(.int .i64))])),(50004,(.ay false true (.st 12) [(1,(.int .i64)),(2,(.prod (.int .i64) (.int .i64)))])),(50005,(.arr false false true (.int .i64))),(60004,(.ay true true (.st 18) [(3,(.int .i64))])),(60005,(.arr false false true (.int .i64)))]⟩,dL:=0,aY:=[50000,50002,50004,50005],aU:=[60004,60005] }
def aew:jJ:=(.seq .nil (.seq .nil (.seq .nil (.seq .nil (.meet true ⟨[],[(50000,.ob (.box [(.p false true (.sl (.st 8))),(.p false true (.sl (.st 7))),(.p false true (.int .i64)),(.p false true (.int .i64)),(.p false true (.sl (.int .i64))),(.p false true (.int .i64)),(.p false true (.int .i64)),(.p false true (.int .i64)),(.own 114004),(.own 50002),(.own 114005),(.own 50004),(.own 50005),(.p false true (.int .i64)),(.p false true (.int .i64)),(.p false true (.int .i64))])),(50002,.ob (.ay false true (.sl (.int .i64)) [(0,(.int .i64))])),(50004,.ob (.ay false true (.st 12) [(1,(.int .i64)),(2,(.prod (.int .i64) (.int .i64)))])),(50005,.ob (.arr false false true (.int .i64))),(114004,.ob (.ay true true (.st 18) [(3,(.int .i64))])),(114005,.ob (.arr false false true (.int .i64)))]⟩ (.seq (.seq .nil .nil) (.meet true ⟨[],[(50000,.ob (.box [(.p false true (.sl (.st 8))),(.p false true (.sl (.st 7))),(.p false true (.int .i64)),(.p false true (.int .i64)),(.p false true (.sl (.int .i64))),(.p false true (.int .i64)),(.p false true (.int .i64)),(.p false true (.int .i64)),(.own 114004),(.own 50002),(.own 114005),(.own 50004),(.own 50005),(.p false true (.int .i64)),(.p false true (.int .i64)),(.p false true (.int .i64))])),(50002,.ob (.ay false true (.sl (.int .i64)) [(0,(.int .i64))])),(50004,.ob (.ay false true (.st 12) [(1,(.int .i64)),(2,(.prod (.int .i64) (.int .i64)))])),(50005,.ob (.arr false false true (.int .i64))),(114004,.ob (.ay true true (.st 18) [(3,(.int .i64))])),(114005,.ob (.arr false false true (.int .i64)))]⟩ (.seq .nil (.seq .nil (.meet true ⟨[],[(50000,.ob (.box [(.p false true (.sl (.st 8))),(.p false true (.sl (.st 7))),(.p false true (.int .i64)),(.p false true (.int .i64)),(.p false true (.sl (.int .i64))),(.p false true (.int .i64)),(.p false true (.int .i64)),(.p false true (.int .i64)),(.own 113004),(.own 50002),(.own 113005),(.own 50004),(.own 50005),(.p false true (.int .i64)),(.p false true (.int .i64)),(.p false true (.int .i64))])),(50002,.ob (.ay false true (.sl (.int .i64)) [(0,(.int .i64))])),(50004,.ob (.ay false true (.st 12) [(1,(.int .i64)),(2,(.prod (.int .i64) (.int .i64)))])),(50005,.ob (.arr false false true (.int .i64))),(113004,.ob (.ay true true (.st 18) [(3,(.int .i64))])),(113005,.ob (.arr false false true (.int .i64)))]⟩ (.seq .nil (.seq .nil (.meet true ⟨[],[(50000,.ob (.box [(.p false true (.sl (.st 8))),(.p false true (.sl (.st 7))),(.p false true (.int .i64)),(.p false true (.int .i64)),(.p false true (.sl (.int .i64))),(.p false true (.int .i64)),(.p false true (.int .i64)),(.p false true (.int .i64)),(.own 112004),(.own 50002),(.own 112005),(.own 50004),(.own 50005),(.p false true (.int .i64)),(.p false true (.int .i64)),(.p false true (.int .i64))])),(50002,.ob (.ay false true (.sl (.int .i64)) [(0,(.int .i64))])),(50004,.ob (.ay false true (.st 12) [(1,(.int .i64)),(2,(.prod (.int .i64) (.int .i64)))])),(50005,.ob (.arr false false true (.int .i64))),(112004,.ob (.ay true true (.st 18) [(3,(.int .i64))])),(112005,.ob (.arr false false true (.int .i64)))]⟩ (.seq .nil (.seq .nil (.meet true ⟨[],[(50000,.ob (.box [(.p false true (.sl (.st 8))),(.p false true (.sl (.st 7))),(.p false true (.int .i64)),(.p false true (.int .i64)),(.p false true (.sl (.int .i64))),(.p false true (.int .i64)),(.p false true (.int .i64)),(.p false true (.int .i64)),(.own 111004),(.own 50002),(.own 111005),(.own 50004),(.own 50005),(.p false true (.int .i64)),(.p false true (.int .i64)),(.p false true (.int .i64))])),(50002,.ob (.ay false true (.sl (.int .i64)) [(0,(.int .i64))])),(50004,.ob (.ay false true (.st 12) [(1,(.int .i64)),(2,(.prod (.int .i64) (.int .i64)))])),(50005,.ob (.arr false false true (.int .i64))),(111004,.ob (.ay true true (.st 18) [(3,(.int .i64))])),(111005,.ob (.arr false false true (.int .i64)))]⟩ (.seq (.seq .nil (.seq (.seq .nil (.seq .nil .nil)) .nil)) (.seq .nil (.meet true ⟨[],[(50000,.ob (.box [(.p false true (.sl (.st 8))),(.p false true (.sl (.st 7))),(.p false true (.int .i64)),(.p false true (.int .i64)),(.p false true (.sl (.int .i64))),(.p false true (.int .i64)),(.p false true (.int .i64)),(.p false true (.int .i64)),(.own 110004),(.own 50002),(.own 110005),(.own 50004),(.own 50005),(.p false true (.int .i64)),(.p false true (.int .i64)),(.p false true (.int .i64))])),(50002,.ob (.ay false true (.sl (.int .i64)) [(0,(.int .i64))])),(50004,.ob (.ay false true (.st 12) [(1,(.int .i64)),(2,(.prod (.int .i64) (.int .i64)))])),(50005,.ob (.arr false false true (.int .i64))),(110004,.ob (.ay true true (.st 18) [(3,(.int .i64))])),(110005,.ob (.arr false false true (.int .i64)))]⟩ (.seq .nil (.seq .nil (.meet true ⟨[],[(50000,.ob (.box [(.p false true (.sl (.st 8))),(.p false true (.sl (.st 7))),(.p false true (.int .i64)),(.p false true (.int .i64)),(.p false true (.sl (.int .i64))),(.p false true (.int .i64)),(.p false true (.int .i64)),(.p false true (.int .i64)),(.own 109004),(.own 50002),(.own 109005),(.own 50004),(.own 50005),(.p false true (.int .i64)),(.p false true (.int .i64)),(.p false true (.int .i64))])),(50002,.ob (.ay false true (.sl (.int .i64)) [(0,(.int .i64))])),(50004,.ob (.ay false true (.st 12) [(1,(.int .i64)),(2,(.prod (.int .i64) (.int .i64)))])),(50005,.ob (.arr false false true (.int .i64))),(109004,.ob (.ay true true (.st 18) [(3,(.int .i64))])),(109005,.ob (.arr false false true (.int .i64)))]⟩ (.seq .nil (.seq (.seq .nil .nil) (.meet true ⟨[],[(50000,.ob (.box [(.p false true (.sl (.st 8))),(.p false true (.sl (.st 7))),(.p false true (.int .i64)),(.p false true (.int .i64)),(.p false true (.sl (.int .i64))),(.p false true (.int .i64)),(.p false true (.int .i64)),(.p false true (.int .i64)),(.own 108004),(.own 50002),(.own 108005),(.own 50004),(.own 50005),(.p false true (.int .i64)),(.p false true (.int .i64)),(.p false true (.int .i64))])),(50002,.ob (.ay false true (.sl (.int .i64)) [(0,(.int .i64))])),(50004,.ob (.ay false true (.st 12) [(1,(.int .i64)),(2,(.prod (.int .i64) (.int .i64)))])),(50005,.ob (.arr false false true (.int .i64))),(108004,.ob (.ay true true (.st 18) [(3,(.int .i64))])),(108005,.ob (.arr false false true (.int .i64)))]⟩ (.seq (.seq .nil (.seq (.seq .nil (.seq .nil .nil)) (.seq .nil (.meet false ⟨[],[(50000,.keep),(50002,.ob (.ay false true (.sl (.int .i64)) [(0,(.int .i64))])),(50004,.keep),(50005,.keep),(50001,.ob (.ay false true (.st 18) [(3,(.int .i64))])),(50003,.keep)]⟩ .nil)))) (.seq .nil (.meet true ⟨[],[(50000,.ob (.box [(.p false true (.sl (.st 8))),(.p false true (.sl (.st 7))),(.p false true (.int .i64)),(.p false true (.int .i64)),(.p false true (.sl (.int .i64))),(.p false true (.int .i64)),(.p false true (.int .i64)),(.p false true (.int .i64)),(.own 107004),(.own 50002),(.own 107005),(.own 50004),(.own 50005),(.p false true (.int .i64)),(.p false true (.int .i64)),(.p false true (.int .i64))])),(50002,.ob (.ay false true (.sl (.int .i64)) [(0,(.int .i64))])),(50004,.ob (.ay false true (.st 12) [(1,(.int .i64)),(2,(.prod (.int .i64) (.int .i64)))])),(50005,.ob (.arr false false true (.int .i64))),(107004,.ob (.ay true true (.st 18) [(3,(.int .i64))])),(107005,.ob (.arr false false true (.int .i64)))]⟩ (.seq (.seq .nil (.seq .nil (.meet false ⟨[],[(50000,.ob (.box [(.p false true (.sl (.st 8))),(.p false true (.sl (.st 7))),(.p false true (.int .i64)),(.p false true (.int .i64)),(.p false true (.sl (.int .i64))),(.p false true (.int .i64)),(.p false true (.int .i64)),(.p false true (.int .i64)),(.own 50001),(.own 50002),(.own 50003),(.own 50004),(.own 50005),(.p false true (.int .i64)),(.p false true (.int .i64)),(.p false true (.int .i64))])),(50002,.keep),(50004,.keep),(50005,.keep),(50001,.ob (.ay false true (.st 18) [(3,(.int .i64))])),(50003,.keep)]⟩ (.seq .nil .nil)))) (.seq .nil (.meet true ⟨[],[(50000,.ob (.box [(.p false true (.sl (.st 8))),(.p false true (.sl (.st 7))),(.p false true (.int .i64)),(.p false true (.int .i64)),(.p false true (.sl (.int .i64))),(.p false true (.int .i64)),(.p false true (.int .i64)),(.p false true (.int .i64)),(.own 106004),(.own 50002),(.own 106005),(.own 50004),(.own 50005),(.p false true (.int .i64)),(.p false true (.int .i64)),(.p false true (.int .i64))])),(50002,.ob (.ay false true (.sl (.int .i64)) [(0,(.int .i64))])),(50004,.ob (.ay false true (.st 12) [(1,(.int .i64)),(2,(.prod (.int .i64) (.int .i64)))])),(50005,.ob (.arr false false true (.int .i64))),(106004,.ob (.ay true true (.st 18) [(3,(.int .i64))])),(106005,.ob (.arr false false true (.int .i64)))]⟩ (.seq (.seq (.seq .nil (.seq .nil .nil)) .nil) (.seq .nil (.meet true ⟨[],[(50000,.ob (.box [(.p false true (.sl (.st 8))),(.p false true (.sl (.st 7))),(.p false true (.int .i64)),(.p false true (.int .i64)),(.p false true (.sl (.int .i64))),(.p false true (.int .i64)),(.p false true (.int .i64)),(.p false true (.int .i64)),(.own 105004),(.own 50002),(.own 50003),(.own 50004),(.own 50005),(.p false true (.int .i64)),(.p false true (.int .i64)),(.p false true (.int .i64))])),(50002,.ob (.ay false true (.sl (.int .i64)) [(0,(.int .i64))])),(50004,.ob (.ay false true (.st 12) [(1,(.int .i64)),(2,(.prod (.int .i64) (.int .i64)))])),(50005,.ob (.arr false false true (.int .i64))),(105004,.ob (.ay true true (.st 18) [(3,(.int .i64))])),(50003,.ob (.arr false false true (.int .i64)))]⟩ (.seq .nil (.seq .nil (.meet true ⟨[],[(50000,.ob (.box [(.p false true (.sl (.st 8))),(.p false true (.sl (.st 7))),(.p false true (.int .i64)),(.p false true (.int .i64)),(.p false true (.sl (.int .i64))),(.p false true (.int .i64)),(.p false true (.int .i64)),(.p false true (.int .i64)),(.own 104004),(.own 50002),(.own 50003),(.own 50004),(.own 50005),(.p false true (.int .i64)),(.p false true (.int .i64)),(.p false true (.int .i64))])),(50002,.ob (.ay false true (.sl (.int .i64)) [(0,(.int .i64))])),(50004,.ob (.ay false true (.st 12) [(1,(.int .i64)),(2,(.prod (.int .i64) (.int .i64)))])),(50005,.ob (.arr false false true (.int .i64))),(104004,.ob (.ay true true (.st 18) [(3,(.int .i64))])),(50003,.ob (.arr false false true (.int .i64)))]⟩ (.seq (.seq .nil (.seq (.seq .nil (.seq .nil .nil)) (.seq .nil (.seq .nil (.meet false ⟨[],[(50000,.keep),(50002,.keep),(50004,.ob (.ay false true (.st 12) [(1,(.int .i64)),(2,(.prod (.int .i64) (.int .i64)))])),(50005,.keep),(303,.keep),(50003,.keep)]⟩ (.seq .nil .nil)))))) (.seq .nil (.meet false ⟨[],[(50000,.keep),(50002,.keep),(50004,.keep),(50005,.ob (.arr false false true (.int .i64))),(50001,.ob (.ay false true (.st 18) [(3,(.int .i64))])),(50003,.keep)]⟩ .nil))))))))))))))))))))))))))))))))))))))))
def Y0:TypeId→Option Ty:=fun t=>(([(1000084,(.prod (.st 3) .bool)),(1000023,(.prod (.st 0) .bool)),(1000059,(.prod (.st 1) (.prod (.st 2) .bool))),(3000276,.bool),(3000215,.bool),(3000189,.bool),(3000021,.bool)]:List (Nat×Ty))++Nc).lookup t
--FN 20 334 [] callees [27,28,29,30,19,31] ring [] ety Y0
def yc:dU:={ aO:=2,pin:=⟨[(0,(.one (.p true false (.sl (.int .i64))))),(1,(.one (.fn 46 [50000])))],[(50000,(.box [(.p false true .str),(.p false true (.int .i64)),(.p false true (.int .i64)),(.p false true (.sl (.st 6)))]))]⟩,aQ:=⟨[(0,(.one (.p false false .bool)))],[(50000,(.box [(.p false false .str),(.p false false (.int .i64)),(.p false false (.int .i64)),(.p false true (.sl (.st 6)))]))]⟩,dL:=1,aY:=[50000],aU:=[] }
def OX:jJ:=(.seq .nil .nil)
--FN 47000042 9 [.tmp 4] callees [47000050,46] ring [] ety ety
def yg:dU:={ aO:=2,pin:=⟨[(0,(.one (.p true false (.sl (.int .i64))))),(1,(.one (.fn 51 [50000])))],[(50000,(.box [(.p false true .str),(.p false true (.int .i64)),(.p false true (.int .i64)),(.p false true (.sl (.st 6)))]))]⟩,aQ:=⟨[(0,(.one (.p false false .bool)))],[(50000,(.box [(.p false false .str),(.p false false (.int .i64)),(.p false false (.int .i64)),(.p false true (.sl (.st 6)))]))]⟩,dL:=1,aY:=[50000],aU:=[] }
def OY:jJ:=(.seq .nil .nil)
--FN 52000042 9 [.tmp 4] callees [52000050,51] ring [] ety ety
def sg6:dU:={ aO:=3,pin:=⟨[(0,(.agg [(.p true false (.sl (.st 8))),(.p true false (.sl (.st 7))),(.p true false (.int .i64)),(.p true false (.int .i64))])),(1,(.one (.p true false (.sl (.int .i64))))),(2,(.agg [(.p true false (.int .i64)),(.p true false (.int .i64))]))],[]⟩,aQ:=⟨[(0,(.agg [(.p false false (.int .i64)),(.p false false (.int .i64)),(.p false false (.int .i64)),(.p true false (.sl (.int .i64))),(.p true false (.sl (.st 12))),(.p false false (.int .i64)),(.p true false (.sl (.st 5))),(.p true false (.sl (.int .i64)))]))],[]⟩,dL:=1,aY:=[],aU:=[] }
def an6:jJ:=(.seq .nil (.seq (.meet false ⟨[(3,.keep),(6,.keep),(7,.sl (.one (.box 23 0)))],[(3,.keep),(6,.keep),(23,.ob (.box [(.p true false (.sl (.st 8))),(.p true false (.sl (.st 7))),(.p true false (.int .i64)),(.p true false (.int .i64)),(.p true false (.sl (.int .i64))),(.p false false (.int .i64)),(.p false false (.int .i64)),(.p false false (.int .i64)),(.own 100700),(.own 100701),(.own 100702),(.own 18),(.own 21),(.p false false (.int .i64)),(.p false false (.int .i64)),(.p false false (.int .i64))])),(18,.ob (.ay false false (.st 12) [(1,(.int .i64)),(2,(.prod (.int .i64) (.int .i64)))])),(21,.ob (.arr false false false (.int .i64))),(100700,.ob (.ay false false (.st 18) [(3,(.int .i64))])),(100701,.ob (.ay false false (.sl (.int .i64)) [(0,(.int .i64))])),(100702,.ob (.arr false false false (.int .i64)))]⟩ .nil) (.seq (.seq .nil (.meet false ⟨[(3,.keep),(6,.keep),(7,.keep)],[(3,.keep),(6,.keep),(23,.ob (.box [(.p true false (.sl (.st 8))),(.p true false (.sl (.st 7))),(.p true false (.int .i64)),(.p true false (.int .i64)),(.p true false (.sl (.int .i64))),(.p false false (.int .i64)),(.p false false (.int .i64)),(.p false false (.int .i64)),(.own 100700),(.own 101004),(.own 100702),(.own 18),(.own 21),(.p false false (.int .i64)),(.p false false (.int .i64)),(.p false false (.int .i64))])),(100700,.keep),(101004,.ob (.ay false false (.sl (.int .i64)) [(0,(.int .i64))])),(100702,.keep),(18,.keep),(21,.keep)]⟩ (.loop ⟨[(3,.keep),(6,.keep),(7,.keep),(8,.sl (.one (.p false false (.int .i64))))],[(3,.keep),(6,.keep),(23,.ob (.box [(.p true false (.sl (.st 8))),(.p true false (.sl (.st 7))),(.p true false (.int .i64)),(.p true false (.int .i64)),(.p true false (.sl (.int .i64))),(.p false false (.int .i64)),(.p false false (.int .i64)),(.p false false (.int .i64)),(.own 100700),(.own 101004),(.own 100702),(.own 18),(.own 21),(.p false false (.int .i64)),(.p false false (.int .i64)),(.p false false (.int .i64))])),(100700,.keep),(101004,.ob (.ay false false (.sl (.int .i64)) [(0,(.int .i64))])),(100702,.keep),(18,.keep),(21,.keep)]⟩ (.seq (.seq .nil .nil) (.seq .nil .nil))))) (.seq .nil (.seq (.meet false ⟨[(6,.keep),(7,.keep)],[(6,.keep),(23,.ob (.box [(.p true false (.sl (.st 8))),(.p true false (.sl (.st 7))),(.p false false (.int .i64)),(.p false false (.int .i64)),(.p true false (.sl (.int .i64))),(.p false false (.int .i64)),(.p false false (.int .i64)),(.p false false (.int .i64)),(.own 103003),(.own 101004),(.own 103005),(.own 18),(.own 21),(.p false false (.int .i64)),(.p false false (.int .i64)),(.p false false (.int .i64))])),(103003,.ob (.ay true false (.st 18) [(3,(.int .i64))])),(101004,.ob (.ay true false (.sl (.int .i64)) [(0,(.int .i64))])),(103005,.ob (.arr false true false (.int .i64))),(18,.ob (.ay true false (.st 12) [(1,(.int .i64)),(2,(.prod (.int .i64) (.int .i64)))])),(21,.ob (.arr false true false (.int .i64)))]⟩ (.loop ⟨[(3,.keep),(6,.keep),(7,.keep)],[(3,.keep),(6,.keep),(23,.ob (.box [(.p true false (.sl (.st 8))),(.p true false (.sl (.st 7))),(.p false false (.int .i64)),(.p false false (.int .i64)),(.p true false (.sl (.int .i64))),(.p false false (.int .i64)),(.p false false (.int .i64)),(.p false false (.int .i64)),(.own 103003),(.own 101004),(.own 103005),(.own 18),(.own 21),(.p false false (.int .i64)),(.p false false (.int .i64)),(.p false false (.int .i64))])),(103003,.ob (.ay true false (.st 18) [(3,(.int .i64))])),(101004,.ob (.ay true false (.sl (.int .i64)) [(0,(.int .i64))])),(103005,.ob (.arr false true false (.int .i64))),(18,.ob (.ay true false (.st 12) [(1,(.int .i64)),(2,(.prod (.int .i64) (.int .i64)))])),(21,.ob (.arr false true false (.int .i64)))]⟩ (.seq (.seq .nil .nil) (.seq (.seq (.seq .nil (.seq .nil .nil)) (.seq .nil (.seq .nil (.seq .nil (.seq .nil (.meet false ⟨[(3,.keep),(6,.keep),(7,.keep)],[(3,.keep),(6,.keep),(23,.ob (.box [(.p true false (.sl (.st 8))),(.p true false (.sl (.st 7))),(.p false false (.int .i64)),(.p false false (.int .i64)),(.p true false (.sl (.int .i64))),(.p false false (.int .i64)),(.p false false (.int .i64)),(.p false false (.int .i64)),(.own 104003),(.own 101004),(.own 104005),(.own 18),(.own 21),(.p false false (.int .i64)),(.p false false (.int .i64)),(.p false false (.int .i64))])),(104003,.ob (.ay true false (.st 18) [(3,(.int .i64))])),(101004,.ob (.ay true false (.sl (.int .i64)) [(0,(.int .i64))])),(104005,.ob (.arr false true false (.int .i64))),(18,.ob (.ay true false (.st 12) [(1,(.int .i64)),(2,(.prod (.int .i64) (.int .i64)))])),(21,.ob (.arr false true false (.int .i64)))]⟩ (.seq .nil .nil))))))) .nil)))) (.seq .nil (.seq (.seq .nil (.meet false ⟨[(6,.keep),(11,.keep)],[(6,.keep),(11,.ob (.box [(.p false false (.int .i64)),(.p false false (.int .i64)),(.p false false (.int .i64)),(.own 103005),(.own 18),(.p false false (.int .i64)),(.own 106008),(.own 21)])),(103005,.keep),(18,.keep),(106008,.ob (.arr false true false (.st 5))),(21,.keep)]⟩ (.loop ⟨[(6,.keep),(7,.keep),(11,.keep),(12,.sl (.one (.p false false (.int .i64))))],[(6,.keep),(23,.keep),(11,.ob (.box [(.p false false (.int .i64)),(.p false false (.int .i64)),(.p false false (.int .i64)),(.own 103005),(.own 18),(.p false false (.int .i64)),(.own 106008),(.own 21)])),(103003,.keep),(101004,.keep),(103005,.keep),(18,.keep),(21,.keep),(106008,.ob (.arr false true false (.st 5)))]⟩ (.seq (.seq .nil .nil) (.seq .nil .nil))))) .nil)))))))
def ab6:TypeId→Option Ty:=fun t=>(([(1000084,(.prod (.st 3) .bool)),(1000023,(.prod (.st 0) .bool)),(1000059,(.prod (.st 1) (.prod (.st 2) .bool))),(3000164,.bool),(3000106,.bool),(3000082,.bool),(3000026,.bool)]:List (Nat×Ty))++Nc).lookup t
--FN 6 194 [.cell 6 52] callees [17,18,19,20,21] ring [] ety ab6
def aaR:dU:={ aO:=3,pin:=⟨[(0,(.agg [(.p true false (.sl (.st 8))),(.p true false (.sl (.st 7))),(.p true false (.int .i64)),(.p true false (.int .i64))])),(1,(.agg [(.p true false .str),(.p true false (.int .i64)),(.p true false (.int .i64)),(.p true false (.sl (.st 6)))])),(2,(.agg [(.p true false (.int .i64)),(.p true false (.int .i64)),(.p true false (.int .i64)),(.p true false (.int .i64)),(.p true false (.int .i64)),(.p true false (.int .i64)),(.p true false (.sl (.int .i64)))]))],[]⟩,aQ:=⟨[(0,(.one (.p false false (.int .i64))))],[]⟩,dL:=1,aY:=[],aU:=[] }
def aey:jJ:=(.seq .nil (.seq (.seq .nil (.seq .nil .nil)) (.seq .nil (.seq (.seq .nil (.seq .nil (.meet false ⟨[(3,.keep),(4,.keep),(5,.keep),(7,.sl (.one (.own 100003)))],[(3,.keep),(4,.keep),(5,.keep),(100003,.ob (.arr false true false (.int .i64)))]⟩ .nil))) (.seq (.seq .nil (.seq .nil .nil)) (.seq (.seq .nil (.seq (.seq (.seq .nil (.meet false ⟨[(3,.keep),(5,.keep),(31,.keep),(32,.sl (.one (.p false false .bool)))],[(3,.keep),(5,.keep)]⟩ (.seq .nil (.seq .nil (.meet false ⟨[(3,.keep),(5,.keep),(31,.keep),(32,.sl (.one (.p false false .bool)))],[(3,.keep),(5,.keep)]⟩ (.seq .nil (.seq .nil (.meet false ⟨[(3,.keep),(5,.keep),(31,.keep),(32,.sl (.one (.p false false .bool)))],[(3,.keep),(5,.keep)]⟩ .nil)))))))) (.meet true ⟨[],[]⟩ (.seq (.seq (.meet false ⟨[(3,.keep),(5,.keep),(10,.sl (.one (.p false false .bool)))],[(3,.keep),(5,.keep)]⟩ .nil) (.seq (.meet false ⟨[(64,.sl (.one (.p false false .bool)))],[]⟩ .nil) (.seq .nil .nil))) (.seq .nil (.meet true ⟨[],[]⟩ (.seq (.seq (.seq .nil (.seq .nil .nil)) (.seq .nil (.seq .nil .nil))) (.seq .nil (.meet true ⟨[],[]⟩ (.seq (.seq .nil (.seq .nil .nil)) (.seq .nil (.meet true ⟨[],[]⟩ (.seq (.seq .nil (.seq .nil .nil)) (.seq .nil (.meet true ⟨[],[]⟩ (.seq (.seq .nil (.seq .nil .nil)) .nil))))))))))))))) .nil)) .nil))))))
--FN 33 110 [.tmp 6] callees [39,40,41,43,47000042,52000042,22] ring [] ety ety
def aaS:dU:={ aO:=2,pin:=⟨[(0,(.agg [(.p true false .str),(.p true false (.int .i64)),(.p true false (.int .i64)),(.p true false (.sl (.st 6)))])),(1,(.agg [(.p true false (.int .i64)),(.p true false (.int .i64)),(.p true false (.int .i64)),(.p true false (.int .i64))]))],[]⟩,aQ:=⟨[(0,(.one (.p false false (.int .i64))))],[]⟩,dL:=1,aY:=[],aU:=[] }
def aez:jJ:=(.seq .nil (.seq (.seq (.seq .nil (.seq .nil (.seq .nil (.seq .nil (.seq .nil (.seq .nil .nil)))))) .nil) .nil))
--FN 34 21 [.tmp 4] callees [22,44,43,47000042,52000042,45,46] ring [] ety ety
def aaT:dU:={ aO:=2,pin:=⟨[(0,(.agg [(.p true false (.sl (.st 8))),(.p true false (.sl (.st 7))),(.p true false (.int .i64)),(.p true false (.int .i64))])),(1,(.agg [(.p true false .str),(.p true false (.int .i64)),(.p true false (.int .i64)),(.p true false (.sl (.st 6)))]))],[]⟩,aQ:=⟨[(0,(.one (.p false false (.int .i64))))],[]⟩,dL:=1,aY:=[],aU:=[] }
def aeA:jJ:=(.seq .nil (.seq (.seq (.seq (.seq .nil (.meet false ⟨[(2,.keep),(3,.keep),(11,.sl (.one (.p false false .bool)))],[(2,.keep),(3,.keep)]⟩ .nil)) (.seq .nil (.seq (.seq .nil (.meet false ⟨[(2,.keep),(3,.keep),(20,.sl (.one (.p false false .bool)))],[(2,.keep),(3,.keep)]⟩ .nil)) (.seq .nil .nil)))) .nil) (.seq (.seq .nil (.meet true ⟨[(3,.keep)],[(3,.keep)]⟩ (.loop ⟨[(2,.keep),(3,.keep),(32,.keep),(33,.keep),(34,.sl (.one (.p false false (.int .i64))))],[(2,.keep),(3,.keep)]⟩ (.seq .nil (.seq .nil (.seq (.seq (.seq .nil (.seq (.seq .nil (.meet true ⟨[(2,.keep),(3,.keep),(6,.keep),(32,.keep),(33,.keep),(34,.keep)],[(2,.keep),(3,.keep),(6,.keep)]⟩ (.loop ⟨[(2,.keep),(3,.keep),(6,.keep),(32,.keep),(33,.keep),(34,.keep),(39,.keep),(40,.keep),(41,.sl (.one (.p false false (.int .i64))))],[(2,.keep),(3,.keep),(6,.keep)]⟩ (.seq .nil (.seq .nil (.seq (.seq (.seq .nil (.seq .nil (.seq .nil (.seq .nil .nil)))) .nil) .nil)))))) (.seq .nil (.seq .nil (.seq .nil .nil))))) .nil) .nil)))))) (.seq (.seq .nil (.seq .nil .nil)) .nil))))
--FN 25 64 [.tmp 4] callees [22,15,33,34,36,35] ring [] ety ety
def sg8:dU:={ aO:=1,pin:=⟨[(0,(.agg [(.p true false (.sl (.st 8))),(.p true false (.sl (.st 7))),(.p true false (.int .i64)),(.p true false (.int .i64))]))],[]⟩,aQ:=⟨[(0,(.one (.p false false (.int .i64))))],[]⟩,dL:=1,aY:=[],aU:=[] }
def an8:jJ:=(.seq .nil (.seq (.seq (.seq (.seq .nil (.meet false ⟨[(1,.keep),(6,.sl (.one (.p false false .bool)))],[(1,.keep)]⟩ (.seq .nil (.seq .nil (.meet false ⟨[(1,.keep),(6,.sl (.one (.p false false .bool)))],[(1,.keep)]⟩ .nil))))) (.seq .nil (.seq .nil (.seq .nil (.seq .nil (.seq .nil (.seq .nil (.seq .nil .nil)))))))) .nil) (.seq (.seq .nil (.meet true ⟨[],[]⟩ (.loop ⟨[(1,.keep),(40,.keep),(41,.keep),(42,.sl (.one (.p false false (.int .i64))))],[(1,.keep)]⟩ (.seq .nil (.seq .nil (.seq (.seq (.seq .nil (.seq .nil (.seq .nil (.seq .nil .nil)))) .nil) .nil)))))) .nil)))
--FN 8 53 [.tmp 2] callees [22,23,25] ring [] ety ety
def sg5:dU:={ aO:=3,pin:=⟨[(0,(.agg [(.p true false (.sl (.st 8))),(.p true false (.sl (.st 7))),(.p true false (.int .i64)),(.p true false (.int .i64))])),(1,(.agg [(.p true false (.int .i64)),(.p true false (.int .i64)),(.p true false (.int .i64))])),(2,(.one (.p true false (.int .i64))))],[]⟩,aQ:=⟨[(0,(.agg [(.p true false (.sl (.st 8))),(.own 60000),(.p false false (.int .i64)),(.p false false (.int .i64))])),(1,(.one (.p false false (.int .i64))))],[(60000,(.arr false true false (.st 7)))]⟩,dL:=2,aY:=[],aU:=[60000] }
def an5:jJ:=(.seq .nil (.seq (.seq .nil (.seq .nil (.seq .nil .nil))) (.seq .nil (.seq (.seq (.seq .nil (.seq .nil (.seq .nil (.seq .nil .nil)))) .nil) (.seq .nil (.seq .nil (.seq .nil (.seq .nil (.seq .nil (.seq .nil (.seq .nil (.seq (.seq .nil (.meet false ⟨[(3,.keep),(4,.keep),(6,.keep),(11,.keep),(12,.keep),(17,.keep)],[(3,.keep),(4,.keep),(6,.keep),(11,.keep),(122,.ob (.arr false true false (.st 6)))]⟩ (.loop ⟨[(3,.keep),(4,.keep),(6,.keep),(11,.keep),(12,.keep),(14,.keep),(17,.keep),(130,.keep),(131,.keep),(132,.sl (.one (.p false false (.int .i64))))],[(3,.keep),(4,.keep),(6,.keep),(11,.keep),(14,.keep),(122,.ob (.arr false true false (.st 6))),(130,.keep)]⟩ (.seq .nil (.seq .nil (.seq (.seq .nil .nil) .nil)))))) (.seq .nil (.seq (.seq (.meet false ⟨[(3,.keep),(4,.keep),(6,.keep),(11,.keep),(167,.sl (.one (.p false false .bool)))],[(3,.keep),(4,.keep),(6,.keep),(11,.keep),(122,.keep)]⟩ .nil) (.seq .nil .nil)) (.seq .nil (.seq .nil .nil))))))))))))))))
--FN 5 180 [.cell 6 39,.tmp 7] callees [8,9,11,10,12,13,14,15,16] ring [] ety ety
def sg4:dU:={ aO:=0,pin:=⟨[],[]⟩,aQ:=⟨[(0,(.one (.p false false .bool)))],[]⟩,dL:=1,aY:=[],aU:=[] }
def an4:jJ:=(.seq .nil (.seq .nil (.seq (.meet false ⟨[(0,.sl (.one (.p false false .bool)))],[]⟩ .nil) .nil)))
--FN 4 34 [.tmp 0] callees [7,5] ring [] ety ety
def sg3:dU:={ aO:=2,pin:=⟨[(0,(.one (.p true false .bool))),(1,(.one (.p true false (.int .u8))))],[]⟩,aQ:=⟨[(0,(.one (.p false false .bool)))],[]⟩,dL:=1,aY:=[],aU:=[] }
def an3:jJ:=(.seq .nil (.seq (.seq .nil (.seq .nil .nil)) (.seq .nil (.seq .nil (.seq .nil (.seq .nil (.seq .nil (.seq (.seq .nil (.meet false ⟨[(0,.keep),(5,.keep),(8,.keep),(9,.sl (.one (.p false false (.int .i64))))],[(8,.keep),(47,.keep)]⟩ .nil)) (.seq .nil (.seq (.seq (.meet false ⟨[(0,.keep),(5,.keep),(10,.keep),(73,.sl (.one (.p false false .bool)))],[(10,.keep),(54,.keep)]⟩ .nil) (.seq .nil .nil)) (.seq .nil (.seq (.seq (.meet false ⟨[(0,.keep),(5,.keep),(12,.keep),(107,.sl (.one (.p false false .bool)))],[(12,.keep)]⟩ .nil) (.seq .nil .nil)) (.seq .nil (.seq (.meet false ⟨[(4,.sl (.one (.p false false .bool)))],[]⟩ .nil) .nil))))))))))))))
--FN 3 147 [.tmp 4] callees [4,5,6] ring [] ety ety
end Go.Fg.Ytncdiffmecbcmaa

