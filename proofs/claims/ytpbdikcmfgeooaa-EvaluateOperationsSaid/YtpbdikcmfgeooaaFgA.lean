/-
  Shapes of the functions of the seat, printed by a program (wip/gen/Infer.lean).
-/
import Derived.Test.YtpbdikcmfgeooaaFwT
import Derived.Test.YtpbdikcmfgeooaaZd
namespace Go.Fg.Ytpbdikcmfgeooaa
open Go.Fw Go.Proofs Go.Fw.Ytpbdikcmfgeooaa
set_option linter.unusedVariables false
structure eP where
  kind:Int
  op:Int
  value:Int
  line:Int
  name:(List UInt8)
  args:(List eP)
def abL:eP:=eP.mk (0:Int) (0:Int) (0:Int) (0:Int) [] []
mutual
def qY:eP→List P
  |⟨y0,y1,y2,y3,y4,y5⟩=>[P.int .i64 y0,P.int .i64 y1,P.int .i64 y2,P.int .i64 y3,P.str ⟨List.toArray y4⟩,P.dW 6 (Bo y5)]
def Bo:List eP→List (List P)
  | []=>[]
  |x::l=>qY x::Bo l
end
theorem Es :∀l,Bo l=List.map qY l
  | []=>rfl
  |x::l=>by rw [Bo,Es l];rfl
theorem SC (x:eP):qY x=[P.int .i64 (eP.kind x),P.int .i64 (eP.op x),P.int .i64 (eP.value x),P.int .i64 (eP.line x),P.str ⟨List.toArray (eP.name x)⟩,P.dW 6 (List.map qY (eP.args x))]:=by
  cases x
  rw [qY]
  simp only [Es]
structure jf where
  kind:Int
  line:Int
  name:(List UInt8)
  exprs:(List eP)
  then':(List jf)
  else':(List jf)
def abM:jf:=jf.mk (0:Int) (0:Int) [] [] [] []
mutual
def qZ:jf→List P
  |⟨y0,y1,y2,y3,y4,y5⟩=>[P.int .i64 y0,P.int .i64 y1,P.str ⟨List.toArray y2⟩,P.dW 6 (List.map qY y3),P.dW 6 (xH y4),P.dW 6 (xH y5)]
def xH:List jf→List (List P)
  | []=>[]
  |x::l=>qZ x::xH l
end
theorem Et :∀l,xH l=List.map qZ l
  | []=>rfl
  |x::l=>by rw [xH,Et l];rfl
theorem SE (x:jf):qZ x=[P.int .i64 (jf.kind x),P.int .i64 (jf.line x),P.str ⟨List.toArray (jf.name x)⟩,P.dW 6 (List.map qY (jf.exprs x)),P.dW 6 (List.map qZ (jf.then' x)),P.dW 6 (List.map qZ (jf.else' x))]:=by
  cases x
  rw [qZ]
  simp only [Et]
structure jS where
  kind:Int
  line:Int
  value:Int
  text:(List UInt8)
def Zz:jS:=jS.mk (0:Int) (0:Int) (0:Int) []
def ZA (x:jS):List P:=[P.int .i64 (jS.kind x),P.int .i64 (jS.line x),P.int .i64 (jS.value x),P.str ⟨List.toArray (jS.text x)⟩]
structure jg where
  kind:Int
  value:Int
  trap:Int
  output:(List Int)
def SG:jg:=jg.mk (0:Int) (0:Int) (0:Int) []
def SH (x:jg):List P:=[P.int .i64 (jg.kind x),P.int .i64 (jg.value x),P.int .i64 (jg.trap x),P.dW 1 (List.map (fun (x:Int)=>[P.int .i64 x]) (jg.output x))]
structure mD where
  name:(List UInt8)
  line:Int
  params:(List (List UInt8))
  body:(List jf)
def abN:mD:=mD.mk [] (0:Int) [] []
def abO (x:mD):List P:=[P.str ⟨List.toArray (mD.name x)⟩,P.int .i64 (mD.line x),P.dW 1 (List.map (fun (x:List UInt8)=>[P.str ⟨x.toArray⟩]) (mD.params x)),P.dW 6 (List.map qZ (mD.body x))]
structure jq where
  name:(List UInt8)
  size:Int
def Xp:jq:=jq.mk [] (0:Int)
def Xq (x:jq):List P:=[P.str ⟨List.toArray (jq.name x)⟩,P.int .i64 (jq.size x)]
def ZB:Nat→Type
  |0=>Unit
  |1=>Unit
  |2=>Unit
  |3=>jq
  |4=>mD
  |5=>jf
  |6=>eP
  |7=>Unit
  |8=>Unit
  |9=>jg
  |10=>Unit
  |11=>Unit
  |12=>Unit
  |13=>jS
  |14=>Unit
  |15=>Unit
  |16=>Unit
  |17=>Unit
  |18=>Unit
  |19=>Unit
  |20=>Unit
  |_=>Unit
def reF:Nat→List Ty
  |0=>[]
  |1=>[]
  |2=>[]
  |3=>[.str,(.int .i64)]
  |4=>[.str,(.int .i64),(.sl .str),(.sl (.st 5))]
  |5=>[(.int .i64),(.int .i64),.str,(.sl (.st 6)),(.sl (.st 5)),(.sl (.st 5))]
  |6=>[(.int .i64),(.int .i64),(.int .i64),(.int .i64),.str,(.sl (.st 6))]
  |7=>[]
  |8=>[]
  |9=>[(.int .i64),(.int .i64),(.int .i64),(.sl (.int .i64))]
  |10=>[]
  |11=>[]
  |12=>[]
  |13=>[(.int .i64),(.int .i64),(.int .i64),.str]
  |14=>[]
  |15=>[]
  |16=>[]
  |17=>[]
  |18=>[]
  |19=>[]
  |20=>[]
  |_=>[]
def aiq:(n:Nat)→ZB n
  |0=>()
  |1=>()
  |2=>()
  |3=>Xp
  |4=>abN
  |5=>abM
  |6=>abL
  |7=>()
  |8=>()
  |9=>SG
  |10=>()
  |11=>()
  |12=>()
  |13=>Zz
  |14=>()
  |15=>()
  |16=>()
  |17=>()
  |18=>()
  |19=>()
  |20=>()
  |_+21=>()
def abP:(n:Nat)→ZB n→List (TP ZB)
  |0,x=>[]
  |1,x=>[]
  |2,x=>[]
  |3,x=>[⟨.str,jq.name x⟩,⟨(.int .i64),jq.size x⟩]
  |4,x=>[⟨.str,mD.name x⟩,⟨(.int .i64),mD.line x⟩,⟨(.sl .str),mD.params x⟩,⟨(.sl (.st 5)),mD.body x⟩]
  |5,x=>[⟨(.int .i64),jf.kind x⟩,⟨(.int .i64),jf.line x⟩,⟨.str,jf.name x⟩,⟨(.sl (.st 6)),jf.exprs x⟩,⟨(.sl (.st 5)),jf.then' x⟩,⟨(.sl (.st 5)),jf.else' x⟩]
  |6,x=>[⟨(.int .i64),eP.kind x⟩,⟨(.int .i64),eP.op x⟩,⟨(.int .i64),eP.value x⟩,⟨(.int .i64),eP.line x⟩,⟨.str,eP.name x⟩,⟨(.sl (.st 6)),eP.args x⟩]
  |7,x=>[]
  |8,x=>[]
  |9,x=>[⟨(.int .i64),jg.kind x⟩,⟨(.int .i64),jg.value x⟩,⟨(.int .i64),jg.trap x⟩,⟨(.sl (.int .i64)),jg.output x⟩]
  |10,x=>[]
  |11,x=>[]
  |12,x=>[]
  |13,x=>[⟨(.int .i64),jS.kind x⟩,⟨(.int .i64),jS.line x⟩,⟨(.int .i64),jS.value x⟩,⟨.str,jS.text x⟩]
  |14,x=>[]
  |15,x=>[]
  |16,x=>[]
  |17,x=>[]
  |18,x=>[]
  |19,x=>[]
  |20,x=>[]
  |_+21,_=>[]
def af0:(n:Nat)→List (TP ZB)→ZB n
  |0,ws=>()
  |1,ws=>()
  |2,ws=>()
  |3,ws=>jq.mk (TP.get .str [] ws 0) (TP.get (.int .i64) (0:Int) ws 1)
  |4,ws=>mD.mk (TP.get .str [] ws 0) (TP.get (.int .i64) (0:Int) ws 1) (TP.get (.sl .str) [] ws 2) (TP.get (.sl (.st 5)) [] ws 3)
  |5,ws=>jf.mk (TP.get (.int .i64) (0:Int) ws 0) (TP.get (.int .i64) (0:Int) ws 1) (TP.get .str [] ws 2) (TP.get (.sl (.st 6)) [] ws 3) (TP.get (.sl (.st 5)) [] ws 4) (TP.get (.sl (.st 5)) [] ws 5)
  |6,ws=>eP.mk (TP.get (.int .i64) (0:Int) ws 0) (TP.get (.int .i64) (0:Int) ws 1) (TP.get (.int .i64) (0:Int) ws 2) (TP.get (.int .i64) (0:Int) ws 3) (TP.get .str [] ws 4) (TP.get (.sl (.st 6)) [] ws 5)
  |7,ws=>()
  |8,ws=>()
  |9,ws=>jg.mk (TP.get (.int .i64) (0:Int) ws 0) (TP.get (.int .i64) (0:Int) ws 1) (TP.get (.int .i64) (0:Int) ws 2) (TP.get (.sl (.int .i64)) [] ws 3)
  |10,ws=>()
  |11,ws=>()
  |12,ws=>()
  |13,ws=>jS.mk (TP.get (.int .i64) (0:Int) ws 0) (TP.get (.int .i64) (0:Int) ws 1) (TP.get (.int .i64) (0:Int) ws 2) (TP.get .str [] ws 3)
  |14,ws=>()
  |15,ws=>()
  |16,ws=>()
  |17,ws=>()
  |18,ws=>()
  |19,ws=>()
  |20,ws=>()
  |_+21,_=>()
def aep:(n:Nat)→ZB n→List P
  |0,x=>[]
  |1,x=>[]
  |2,x=>[]
  |3,x=>Xq x
  |4,x=>abO x
  |5,x=>qZ x
  |6,x=>qY x
  |7,x=>[]
  |8,x=>[]
  |9,x=>SH x
  |10,x=>[]
  |11,x=>[]
  |12,x=>[]
  |13,x=>ZA x
  |14,x=>[]
  |15,x=>[]
  |16,x=>[]
  |17,x=>[]
  |18,x=>[]
  |19,x=>[]
  |20,x=>[]
  |_+21,_=>[]
theorem af2 :∀n,(reF n).all Ty.word=true
  |0=>rfl
  |1=>rfl
  |2=>rfl
  |3=>rfl
  |4=>rfl
  |5=>rfl
  |6=>rfl
  |7=>rfl
  |8=>rfl
  |9=>rfl
  |10=>rfl
  |11=>rfl
  |12=>rfl
  |13=>rfl
  |14=>rfl
  |15=>rfl
  |16=>rfl
  |17=>rfl
  |18=>rfl
  |19=>rfl
  |20=>rfl
  |_+21=>rfl
theorem aer :∀(n:Nat) (x:ZB n),(abP n x).map (·.t)=reF n
  |0,x=>rfl
  |1,x=>rfl
  |2,x=>rfl
  |3,x=>rfl
  |4,x=>rfl
  |5,x=>rfl
  |6,x=>rfl
  |7,x=>rfl
  |8,x=>rfl
  |9,x=>rfl
  |10,x=>rfl
  |11,x=>rfl
  |12,x=>rfl
  |13,x=>rfl
  |14,x=>rfl
  |15,x=>rfl
  |16,x=>rfl
  |17,x=>rfl
  |18,x=>rfl
  |19,x=>rfl
  |20,x=>rfl
  |_+21,_=>rfl
theorem aes :∀(n:Nat) (ws:List (TP ZB)),ws.map (·.t)=reF n→abP n (af0 n ws)=ws
  |0,ws,h=>by
    have e:=dL h
    subst e
    rfl
  |1,ws,h=>by
    have e:=dL h
    subst e
    rfl
  |2,ws,h=>by
    have e:=dL h
    subst e
    rfl
  |3,ws,h=>by
    obtain ⟨x0,ws0,e0,h0⟩:=bH h
    subst e0
    obtain ⟨x1,ws1,e1,h1⟩:=bH h0
    subst e1
    have e:=dL h1
    subst e
    rfl
  |4,ws,h=>by
    obtain ⟨x0,ws0,e0,h0⟩:=bH h
    subst e0
    obtain ⟨x1,ws1,e1,h1⟩:=bH h0
    subst e1
    obtain ⟨x2,ws2,e2,h2⟩:=bH h1
    subst e2
    obtain ⟨x3,ws3,e3,h3⟩:=bH h2
    subst e3
    have e:=dL h3
    subst e
    rfl
  |5,ws,h=>by
    obtain ⟨x0,ws0,e0,h0⟩:=bH h
    subst e0
    obtain ⟨x1,ws1,e1,h1⟩:=bH h0
    subst e1
    obtain ⟨x2,ws2,e2,h2⟩:=bH h1
    subst e2
    obtain ⟨x3,ws3,e3,h3⟩:=bH h2
    subst e3
    obtain ⟨x4,ws4,e4,h4⟩:=bH h3
    subst e4
    obtain ⟨x5,ws5,e5,h5⟩:=bH h4
    subst e5
    have e:=dL h5
    subst e
    rfl
  |6,ws,h=>by
    obtain ⟨x0,ws0,e0,h0⟩:=bH h
    subst e0
    obtain ⟨x1,ws1,e1,h1⟩:=bH h0
    subst e1
    obtain ⟨x2,ws2,e2,h2⟩:=bH h1
    subst e2
    obtain ⟨x3,ws3,e3,h3⟩:=bH h2
    subst e3
    obtain ⟨x4,ws4,e4,h4⟩:=bH h3
    subst e4
    obtain ⟨x5,ws5,e5,h5⟩:=bH h4
    subst e5
    have e:=dL h5
    subst e
    rfl
  |7,ws,h=>by
    have e:=dL h
    subst e
    rfl
  |8,ws,h=>by
    have e:=dL h
    subst e
    rfl
  |9,ws,h=>by
    obtain ⟨x0,ws0,e0,h0⟩:=bH h
    subst e0
    obtain ⟨x1,ws1,e1,h1⟩:=bH h0
    subst e1
    obtain ⟨x2,ws2,e2,h2⟩:=bH h1
    subst e2
    obtain ⟨x3,ws3,e3,h3⟩:=bH h2
    subst e3
    have e:=dL h3
    subst e
    rfl
  |10,ws,h=>by
    have e:=dL h
    subst e
    rfl
  |11,ws,h=>by
    have e:=dL h
    subst e
    rfl
  |12,ws,h=>by
    have e:=dL h
    subst e
    rfl
  |13,ws,h=>by
    obtain ⟨x0,ws0,e0,h0⟩:=bH h
    subst e0
    obtain ⟨x1,ws1,e1,h1⟩:=bH h0
    subst e1
    obtain ⟨x2,ws2,e2,h2⟩:=bH h1
    subst e2
    obtain ⟨x3,ws3,e3,h3⟩:=bH h2
    subst e3
    have e:=dL h3
    subst e
    rfl
  |14,ws,h=>by
    have e:=dL h
    subst e
    rfl
  |15,ws,h=>by
    have e:=dL h
    subst e
    rfl
  |16,ws,h=>by
    have e:=dL h
    subst e
    rfl
  |17,ws,h=>by
    have e:=dL h
    subst e
    rfl
  |18,ws,h=>by
    have e:=dL h
    subst e
    rfl
  |19,ws,h=>by
    have e:=dL h
    subst e
    rfl
  |20,ws,h=>by
    have e:=dL h
    subst e
    rfl
  |_+21,ws,h=>by have e:=dL h;subst e;rfl
theorem aeu :∀(n:Nat) (x:ZB n),aep n x=(abP n x).map fun w=>Hf (kR reF) (kQ reF aep (kR reF)) w.t w.x
  |0,x=>by kernel_rfl
  |1,x=>by kernel_rfl
  |2,x=>by kernel_rfl
  |3,x=>by kernel_rfl
  |4,x=>by kernel_rfl
  |5,x=>(SE x).trans (by kernel_rfl)
  |6,x=>(SC x).trans (by kernel_rfl)
  |7,x=>by kernel_rfl
  |8,x=>by kernel_rfl
  |9,x=>by kernel_rfl
  |10,x=>by kernel_rfl
  |11,x=>by kernel_rfl
  |12,x=>by kernel_rfl
  |13,x=>by kernel_rfl
  |14,x=>by kernel_rfl
  |15,x=>by kernel_rfl
  |16,x=>by kernel_rfl
  |17,x=>by kernel_rfl
  |18,x=>by kernel_rfl
  |19,x=>by kernel_rfl
  |20,x=>by kernel_rfl
  |_+21,_=>rfl
def reG:Nat→Option ((e:Ty)×List (D ZB e))
  |_=>none
instance re:RE where
  C:=ZB
  F:=reF
  dflt:=aiq
  un:=abP
  ro:=af0
  er:=aep
  Fwd:=af2
  acT:=aer
  acU:=aes
  acV:=aeu
  G:=reG
theorem mixed:Fit Try.prog:=⟨Fw.Ytpbdikcmfgeooaa.aen,fun _ _ _ _ h=>h.elim⟩
def air:List (Nat×Ty):=[(3,(.int .i64)),(5,(.int .u8)),(9,.str),(40,(.st 9)),(59,(.sl (.mp false .str (.int .i64)))),(79,(.st 4)),(82,(.st 3)),(102,(.st 13)),(113,(.st 5)),(116,(.st 6)),(4000059,(.mp false .str (.int .i64))),(4000061,(.mp false .str (.sl (.int .i64))))]
def ety:TypeId→Option Ty:=fun t=>air.lookup t
def kS (l:List Nat) (r:List (Nat×Md)):List (Nat×Md):=l.map (fun n=>(n,.keep))++r
def kO (l:List Nat) (r:List (Nat×Mo)):List (Nat×Mo):=l.map (fun n=>(n,.keep))++r
def lS (l r:List (Nat×Md)):=l++r
def lO (l r:List (Nat×Mo)):=l++r
abbrev q0:iL:=.p false false (.int .i64)
abbrev q1:iL:=.p false true (.int .i64)
abbrev q2:iy:=.box [(.p false true (.sl (.st 13))),q0,(.p false false .bool),q0]
abbrev q3:iL:=.p true false (.int .i64)
abbrev q4:kC:=.one (.p false false .bool)
abbrev q6:iy:=.box [(.p false true (.sl (.st 13))),q1,(.p false true .bool),q1]
abbrev q8:iy:=.arr false false true .str
abbrev q10:iy:=.arr false false true (.int .i64)
abbrev q11:iL:=.p false true (.sl (.mp false .str (.int .i64)))
abbrev q12:iL:=.p false false .str
abbrev q13:kC:=.one (.box 50000 0)
abbrev q14:iL:=.p true false (.sl (.int .i64))
abbrev q16:iL:=.p true true (.sl (.mp false .str (.int .i64)))
abbrev NK:iL:=.p false true (.sl (.int .i64))
abbrev q19:iL:=.p false true (.sl (.sl (.mp false .str (.int .i64))))
abbrev q20:iL:=.p false true (.sl (.mp false .str (.sl (.int .i64))))
abbrev q22:kC:=.one q0
abbrev q23:iy:=.arr false false true (.st 4)
abbrev q24:kC:=.agg [q0,q0,q0,q0,q12,(.p false true (.sl (.st 6)))]
abbrev q25:iL:=.p true false .str
abbrev SI:iy:=.arr false true true (.int .i64)
abbrev ZC:iy:=.arr false false true (.st 6)
abbrev q29:iy:=.box [q0,q0,q0,q0,q12,(.p false true (.sl (.st 6)))]
abbrev q30:iL:=.p true true (.sl (.st 4))
abbrev Xz:iy:=.arr false true true .str
abbrev XA:iy:=.arr false false true (.st 5)
abbrev q35:iy:=.arr false false false (.int .i64)
abbrev XB:iL:=.p false true (.sl (.st 4))
abbrev q5:iy:=.box [XB,q11,q19,NK,q20,NK,q1,q1,q1,q1,q1,q1,q1,(.own 50001)]
abbrev q7:iy:=.box [(.p false true (.sl (.st 3))),XB,(.own 50001),q1,q1]
abbrev q9:iy:=.box [(.p false true (.sl (.st 3))),XB,(.own 50001),q0,q0]
abbrev q38:iL:=.p true true (.sl (.int .i64))
abbrev ZE:iL:=.p true false (.sl (.st 5))
abbrev q40:iL:=.p true true (.sl (.st 3))
abbrev zH:kC:=.one q3
abbrev q43:iL:=.p true true (.sl (.sl (.mp false .str (.int .i64))))
abbrev q44:iL:=.p true true (.sl (.mp false .str (.sl (.int .i64))))
abbrev q21:iy:=.box [q30,q16,q43,q38,q44,q38,q0,q0,q0,q0,q0,q0,q0,(.own 60003)]
abbrev q45:iy:=.box [q11,(.own 50003)]
abbrev q46:iy:=.arr false false false (.mp false .str (.int .i64))
abbrev q48:iy:=.arr false true false .str
abbrev q49:iy:=.arr false false false (.st 13)
abbrev q50:iy:=.box [q40,q30,(.own 100002),q0,q0]
abbrev q51:iy:=.box [q40,q30,(.own 100002),q1,q1]
abbrev q52:iy:=.box [q16,(.own 50003)]
abbrev q53:kC:=.one (.own 100001)
abbrev q54:iy:=.arr false true true (.st 6)
abbrev q55:iL:=.p true false (.sl (.st 6))
abbrev q32:kC:=.agg [q3,q3,q3,q3,q25,q55]
abbrev Qm:kC:=.one q25
abbrev q57:kC:=.one (.own 100000)
abbrev q58:iy:=.arr false false false (.st 3)
abbrev q59:iL:=.p true false (.sl .str)
abbrev q60:iy:=.arr false false false (.sl (.mp false .str (.int .i64)))
abbrev q61:iy:=.arr false false false (.mp false .str (.sl (.int .i64)))
abbrev q62:iy:=.arr false false false .str
abbrev q63:iL:=.p true false (.sl (.st 4))
abbrev q33:kC:=.agg [(.p true false (.sl (.st 3))),q63]
abbrev q66:iy:=.box [q30,q16,q43,q38,q44,q38,q1,q1,q1,q1,q1,q1,q1,(.own 100003)]
abbrev q67:iy:=.box [XB,q11,q19,NK,q20,NK,q0,q0,q0,q0,q0,q0,q0,(.own 102003)]
abbrev q68:iy:=.box [XB,q11,q19,NK,q20,NK,q1,q1,q1,q1,q1,q1,q1,(.own 100004)]
abbrev q69:iy:=.box [q30,q16,q43,q38,q44,q38,q1,q1,q1,q1,q1,q1,q1,(.own 100004)]
abbrev q70:iy:=.box [XB,q11,q19,NK,q20,NK,q0,q0,q0,q0,q0,q0,q0,(.own 50001)]
abbrev q71:kC:=.one (.box 50002 0)
abbrev q73:iy:=.box [q63,(.own 14),(.own 102003),(.own 102004),(.own 15)]
abbrev q74:kC:=.one (.p true false (.int .u8))
abbrev q75:kC:=.one q14
abbrev q76:iy:=.arr false true false (.st 4)
abbrev j0:gG:=.seq .nil .nil
abbrev j1:gG:=.seq .nil j0
abbrev j3:JT:=⟨kS [0,1,5,6,7] [],lO [(50000,.ob q50)] (kO [100001,7] [(100002,.ob Xz),(101003,.keep)])⟩
abbrev j4:JT:=⟨kS [0,3,4] [],lO [(50000,.ob q7),(50001,.ob q8)] (kO [3,4] [])⟩
abbrev j6:JT:=⟨kS [0,3,4] [],lO [(50000,.ob q9),(50001,.ob q8)] (kO [3,4] [])⟩
abbrev j8:gG:=.seq .nil j1
abbrev j9:JT:=⟨kS [0,1,6] [(9,.sl zH),(10,.keep)],kO [6,10] []⟩
abbrev j11:gG:=.seq j1 .nil
abbrev j2:gG:=.seq .nil j11
abbrev j15:JT:=⟨kS [0,2,3] [],[(50000,.ob q2),(2,.keep),(3,.ob (.box [q12,q0,(.own 100003),.bg])),(100003,.ob q62)]⟩
abbrev j16:JT:=⟨kS [0,2,3,4,5] [(6,.sl (.one (.own 101004)))],lO [(50000,.ob q2)] (kO [2,3,4] [(101004,.ob ZC)])⟩
abbrev j17:gG:=.seq (.seq .nil (.seq (.seq .nil j8) .nil)) .nil
abbrev j18:gG:=.seq j0 .nil
abbrev j19:gG:=.seq .nil (.seq (.meet false ⟨[(2,.sl q4)],[]⟩ .nil) .nil)
abbrev j20:gG:=.seq .nil (.seq .nil (.seq .nil (.seq .nil (.seq .nil j8))))
abbrev j21:JT:=⟨kS [0,2,3] [],[(50000,.ob q2),(2,.keep),(3,.ob q29)]⟩
abbrev j7:gG:=.seq .nil (.seq .nil (.seq (.meet false ⟨kS [2,3] [],[(50000,.ob q2),(2,.keep),(3,.ob q29)]⟩ (.loop j21 (.seq j0 j18))) .nil))
abbrev j14:gG:=.seq .nil (.seq .nil (.seq (.loop j21 (.seq j2 .nil)) .nil))
abbrev j23:gG:=.seq j11 .nil
abbrev j5:gG:=.seq (.seq .nil (.meet true ⟨[],[]⟩ (.loop ⟨kS [0,1] [(5,.sl q22)],[]⟩ (.seq j0 j23)))) .nil
abbrev j12:gG:=.seq .nil (.seq (.seq .nil (.meet true ⟨[],[]⟩ (.loop ⟨kS [1,2] [(5,.sl q22)],[(2,.keep)]⟩ (.seq j0 j23)))) .nil)
abbrev j24:JT:=⟨kS [0,2,5] [(6,.sl q22)],[(100000,.keep)]⟩
abbrev j25:gG:=.seq .nil j2
abbrev j26:JT:=⟨[],[(50000,.ob q9),(50001,.ob q8)]⟩
def aiA:b_:={ bf:=1,pin:=⟨[(0,(.one (.p true false .bool)))],[]⟩,aF:=⟨[(0,q22)],[]⟩,bZ:=1,aK:=[],aN:=[] }
def aiB:gG:=j2
def aiC:b_:={ bf:=1,pin:=⟨[(0,(.one (.p true false .bool)))],[]⟩,aF:=⟨[(0,q22)],[]⟩,bZ:=1,aK:=[],aN:=[] }
def aiD:gG:=j2
def aiE:b_:={ bf:=2,pin:=⟨[(0,q33),(1,Qm)],[]⟩,aF:=⟨[(0,q22)],[]⟩,bZ:=1,aK:=[],aN:=[] }
def aiF:gG:=j12
def aiG:b_:={ bf:=2,pin:=⟨[(0,q33),(1,Qm)],[]⟩,aF:=⟨[(0,q22)],[]⟩,bZ:=1,aK:=[],aN:=[] }
def aiH:gG:=j12
def af_:b_:={ bf:=1,pin:=⟨[(0,(.one ZE))],[]⟩,aF:=⟨[(0,q22)],[]⟩,bZ:=1,aK:=[],aN:=[] }
def aiI:gG:=(.seq .nil (.seq .nil (.seq (.seq .nil (.meet false ⟨[(3,.sl q22)],[]⟩ (.loop ⟨[(0,.keep),(3,.sl q22),(4,.sl q22)],[]⟩ (.seq j0 j0)))) .nil)))
def aiJ:b_:={ bf:=2,pin:=⟨[(0,(.one q59)),(1,Qm)],[]⟩,aF:=⟨[(0,q4)],[]⟩,bZ:=1,aK:=[],aN:=[] }
def aiK:gG:=(.seq .nil j5)
def aiL:b_:={ bf:=2,pin:=⟨[(0,q33),(1,Qm)],[]⟩,aF:=⟨[(0,q22)],[]⟩,bZ:=1,aK:=[],aN:=[] }
def aiM:gG:=(.seq .nil (.seq (.seq .nil (.seq .nil j23)) j11))
def aiN:b_:={ bf:=3,pin:=⟨[(0,q13),(1,zH),(2,zH)],[(50000,q5),(50001,q10)]⟩,aF:=⟨[(0,q4)],[(50000,q70),(50001,q10)]⟩,bZ:=1,aK:=[50000,50001],aN:=[] }
def aiO:gG:=j1
def aiP:b_:={ bf:=1,pin:=⟨[(0,q13)],[(50000,q6)]⟩,aF:=⟨[(0,(.agg [q0,q0,q0,q12]))],[(50000,q2)]⟩,bZ:=1,aK:=[50000],aN:=[] }
def aiQ:gG:=j0
def aga:b_:={ bf:=2,pin:=⟨[(0,(.one (.own 55000))),(1,(.one ZE))],[(55000,q8)]⟩,aF:=⟨[(0,q57)],[(100000,Xz)]⟩,bZ:=1,aK:=[],aN:=[100000] }
def aiR:gG:=(.seq .nil (.seq (.seq .nil (.meet false ⟨[(0,.sl q57)],[(100000,.ob Xz)]⟩ (.loop ⟨[(0,.sl q57),(1,.keep),(5,.sl q22)],[(100000,.ob Xz)]⟩ (.seq j0 (.seq (.seq (.seq (.seq .nil (.meet false ⟨lS [(0,.sl (.one (.own 101000)))] (kS [1,5] []),[(101000,.ob Xz)]⟩ .nil)) .nil) .nil) .nil))))) .nil))
def agb:b_:={ bf:=1,pin:=⟨[(0,q32)],[]⟩,aF:=⟨[(0,q22)],[]⟩,bZ:=1,aK:=[],aN:=[] }
def aiS:gG:=(.seq .nil (.seq .nil (.seq (.seq .nil (.meet false ⟨[(3,.sl q22)],[]⟩ (.loop ⟨[(1,.keep),(3,.sl q22),(4,.sl q22)],[(1,.keep)]⟩ (.seq j0 j0)))) .nil)))
def aiT:b_:={ bf:=3,pin:=⟨[(0,q13),(1,zH),(2,zH)],[(50000,q7),(50001,q8)]⟩,aF:=⟨[],[(50000,q9),(50001,q8)]⟩,bZ:=0,aK:=[50000,50001],aN:=[] }
def aiU:gG:=(.seq .nil (.meet false ⟨[],[(50000,.ob (.box [(.p false true (.sl (.st 3))),XB,(.own 50001),(.p true true (.int .i64)),(.p true true (.int .i64))])),(50001,.keep)]⟩ .nil))
def aiV:b_:={ bf:=2,pin:=⟨[(0,q13),(1,Qm)],[(50000,q7),(50001,q8)]⟩,aF:=⟨[(0,q22)],[(50000,q9),(50001,q8)]⟩,bZ:=1,aK:=[50000,50001],aN:=[] }
def aiW:gG:=j2
def aex:b_:={ bf:=1,pin:=⟨[(0,(.one q59))],[]⟩,aF:=⟨[(0,(.one (.own 60000)))],[(60000,q48)]⟩,bZ:=1,aK:=[],aN:=[60000] }
def aiX:gG:=j2
def agc:b_:={ bf:=1,pin:=⟨[(0,(.one ZE))],[]⟩,aF:=⟨[(0,q57)],[(100000,q48)]⟩,bZ:=1,aK:=[],aN:=[100000] }
def aiY:gG:=(.seq .nil (.seq .nil (.seq (.seq .nil (.meet false ⟨[(3,.sl q57)],[(100000,.ob q48)]⟩ (.loop ⟨lS [(3,.sl q57)] (kS [6,7] [(8,.sl q22)]),[(100000,.ob q48)]⟩ (.seq .nil (.seq .nil (.seq (.seq (.seq .nil (.seq (.seq .nil (.meet false ⟨lS [(3,.sl (.one (.own 101000)))] (kS [5,6,7,8] []),[(101000,.ob q48),(5,.keep)]⟩ .nil)) .nil)) .nil) .nil)))))) .nil)))
def aiZ:b_:={ bf:=1,pin:=⟨[(0,q74)],[]⟩,aF:=⟨[(0,q4)],[]⟩,bZ:=1,aK:=[],aN:=[] }
def ai0:gG:=j19
def ai1:b_:={ bf:=1,pin:=⟨[(0,q74)],[]⟩,aF:=⟨[(0,q4)],[]⟩,bZ:=1,aK:=[],aN:=[] }
def ai2:gG:=j19
def ai3:b_:={ bf:=1,pin:=⟨[(0,Qm)],[]⟩,aF:=⟨[(0,q22),(1,q4)],[]⟩,bZ:=2,aK:=[],aN:=[] }
def ai4:gG:=(.seq .nil (.seq .nil (.seq (.seq .nil (.meet true ⟨[(4,.sl q22)],[]⟩ (.loop ⟨[(0,.keep),(4,.sl q22),(5,.sl q22)],[]⟩ (.seq j0 (.seq (.seq j2 .nil) .nil))))) .nil)))
def ai5:b_:={ bf:=2,pin:=⟨[(0,q13),(1,Qm)],[(50000,q6)]⟩,aF:=⟨[(0,q4)],[(50000,q2)]⟩,bZ:=1,aK:=[50000],aN:=[] }
def ai6:gG:=(.seq .nil (.seq .nil (.seq (.meet false ⟨[(4,.sl q4)],[(50000,.keep)]⟩ .nil) .nil)))
def ai7:b_:={ bf:=2,pin:=⟨[(0,q13),(1,zH)],[(50000,q6)]⟩,aF:=⟨[(0,(.agg [q0,q0,q0,q12]))],[(50000,q2)]⟩,bZ:=1,aK:=[50000],aN:=[] }
def ai8:gG:=(.seq .nil (.seq .nil (.seq (.seq (.meet false ⟨kS [0,4,5] [(17,.sl q4)],kO [50000,4,5] []⟩ .nil) j18) j0)))
def ai9:b_:={ bf:=4,pin:=⟨[(0,q13),(1,q32),(2,zH),(3,zH)],[(50000,q7),(50001,q8)]⟩,aF:=⟨[],[(50000,q9),(50001,q8)]⟩,bZ:=0,aK:=[50000,50001],aN:=[] }
def ai_:gG:=(.seq .nil (.seq .nil (.seq (.seq .nil (.meet false j26 (.seq .nil (.seq (.meet false ⟨kS [0,5] [(20,.sl q4)],kO [50000,50001,5] []⟩ .nil) (.meet false j26 .nil))))) .nil)))
def aja:b_:={ bf:=3,pin:=⟨[(0,q13),(1,Qm),(2,zH)],[(50000,q7),(50001,q8)]⟩,aF:=⟨[(0,(.agg [q0,q0,q0,q0,q12,.bg]))],[(50000,q9),(50001,q8)]⟩,bZ:=1,aK:=[50000,50001],aN:=[] }
def ajb:gG:=(.seq .nil (.seq .nil (.seq (.seq .nil (.meet false ⟨kS [1,2,6] [(7,.sl q22)],kO [50000,50001,6] []⟩ .nil)) .nil)))
def agd:b_:={ bf:=2,pin:=⟨[(0,q13),(1,q32)],[(50000,q7),(50001,q8)]⟩,aF:=⟨[(0,(.agg [q0,q0,q0,q0,q12,(.own 60002)]))],[(50000,q9),(50001,q8),(60002,q54)]⟩,bZ:=1,aK:=[50000,50001],aN:=[60002] }
def ajc:gG:=(.seq .nil (.seq (.seq .nil (.seq (.seq .nil (.seq j0 (.seq .nil (.meet true j4 (.seq .nil (.seq .nil (.meet true j4 (.seq .nil (.seq .nil (.meet true j4 (.seq (.seq .nil (.seq (.seq .nil (.meet true j6 (.seq .nil (.seq .nil (.meet true j6 (.seq .nil (.seq .nil (.seq (.seq .nil (.meet false j6 .nil)) (.seq (.seq .nil (.meet false j6 .nil)) .nil))))))))) .nil)) (.seq .nil (.meet false j4 (.seq (.seq .nil (.meet false j4 .nil)) .nil)))))))))))))) .nil)) j0))
def agf:b_:={ bf:=2,pin:=⟨[(0,q13),(1,(.one q55))],[(50000,q7),(50001,q8)]⟩,aF:=⟨[(0,(.one (.own 100002)))],[(50000,q9),(50001,q8),(100002,q54)]⟩,bZ:=1,aK:=[50000,50001],aN:=[100002] }
def ajd:gG:=(.seq .nil (.seq .nil (.seq (.seq .nil (.meet false ⟨[(5,.sl (.one (.own 100002)))],[(50000,.ob q7),(50001,.ob q8),(100002,.ob q54)]⟩ (.loop ⟨kS [0,1] [(5,.sl (.one (.own 100002))),(6,.sl q22)],[(50000,.ob q7),(50001,.ob q8),(100002,.ob q54)]⟩ (.seq j0 j0)))) .nil)))
def aje:b_:={ bf:=1,pin:=⟨[(0,q13)],[(50000,q5),(50001,q10)]⟩,aF:=⟨[(0,q4)],[(50000,q70),(50001,q10)]⟩,bZ:=1,aK:=[50000,50001],aN:=[] }
def ajf:gG:=(.seq .nil (.seq j1 j0))
def ajg:b_:={ bf:=2,pin:=⟨[(0,Qm),(1,(.one q59))],[]⟩,aF:=⟨[(0,q4)],[]⟩,bZ:=1,aK:=[],aN:=[] }
def ajh:gG:=(.seq .nil j5)
def aji:b_:={ bf:=5,pin:=⟨[(0,zH),(1,zH),(2,zH),(3,q32),(4,q32)],[]⟩,aF:=⟨[(0,(.agg [q0,q0,q0,q0,q12,(.own 16)]))],[(16,(.arr false true false (.st 6)))]⟩,bZ:=1,aK:=[],aN:=[16] }
def ajj:gG:=j0
def ajk:b_:={ bf:=3,pin:=⟨[(0,q13),(1,(.one q59)),(2,q75)],[(50000,q6)]⟩,aF:=⟨[(0,q22),(1,q22)],[(50000,q2)]⟩,bZ:=2,aK:=[50000],aN:=[] }
def ajl:gG:=(.seq .nil (.seq (.seq .nil (.meet true ⟨[],[(50000,.ob q6)]⟩ (.loop ⟨kS [0,1,2] [(8,.sl q22)],[(50000,.ob q6)]⟩ (.seq j0 (.seq (.seq j2 .nil) .nil))))) .nil))
def sg8:b_:={ bf:=3,pin:=⟨[(0,zH),(1,zH),(2,zH)],[]⟩,aF:=⟨[(0,q22),(1,q4)],[]⟩,bZ:=2,aK:=[],aN:=[] }
def an8:gG:=(.seq .nil (.seq (.seq .nil (.seq (.seq .nil (.seq .nil (.seq .nil (.seq .nil (.seq .nil (.seq .nil j20)))))) .nil)) (.seq j1 j17)))
def sg9:b_:={ bf:=3,pin:=⟨[(0,zH),(1,zH),(2,zH)],[]⟩,aF:=⟨[(0,q22),(1,q4)],[]⟩,bZ:=2,aK:=[],aN:=[] }
def an9:gG:=(.seq .nil (.seq (.seq .nil (.seq (.seq .nil (.seq .nil (.seq .nil (.seq .nil (.seq .nil (.seq .nil (.seq (.seq .nil (.meet false ⟨kS [0,1,2,10] [(26,.sl q4)],[]⟩ .nil)) (.seq (.seq j1 (.seq .nil (.seq (.seq .nil (.meet false ⟨[(0,.keep),(8,.sl q22),(9,.sl q22)],[]⟩ .nil)) j11))) j20)))))))) .nil)) .nil))
def ajm:b_:={ bf:=2,pin:=⟨[(0,zH),(1,zH)],[]⟩,aF:=⟨[(0,q22)],[]⟩,bZ:=1,aK:=[],aN:=[] }
def ajn:gG:=(.seq .nil j17)
def ajo:b_:={ bf:=2,pin:=⟨[(0,zH),(1,zH)],[]⟩,aF:=⟨[(0,q22)],[]⟩,bZ:=1,aK:=[],aN:=[] }
def ajp:gG:=(.seq .nil j17)
def agh:b_:={ bf:=3,pin:=⟨[(0,q13),(1,zH),(2,q75)],[(50000,q5),(50001,q10)]⟩,aF:=⟨[(0,q22),(1,q4)],[(50000,(.box [q30,q16,q43,q38,q44,q38,q0,q0,q0,q0,q0,q0,q0,(.own 60001)])),(60001,SI)]⟩,bZ:=2,aK:=[50000],aN:=[60001] }
def ajq:gG:=(.seq .nil (.seq j1 (.seq .nil (.seq .nil j8))))
def agi:b_:={ bf:=3,pin:=⟨[(0,q13),(1,q71),(2,(.one ZE))],[(50000,q5),(50002,q45),(50001,q10),(50003,q10)]⟩,aF:=⟨[(0,q22),(1,q4),(2,q4)],[(50000,q21),(50002,q52),(50003,SI),(60003,SI)]⟩,bZ:=3,aK:=[50000,50002,50003],aN:=[60003] }
def ajr:gG:=(.seq .nil (.seq (.seq .nil (.meet true ⟨[],[(50000,.ob q66),(50002,.ob q52),(50003,.ob SI),(100003,.ob SI)]⟩ (.loop ⟨kS [0,1,11,12] [(13,.sl q22)],[(50000,.ob q66),(50002,.ob q52),(50003,.ob SI),(100003,.ob SI)]⟩ (.seq .nil (.seq .nil (.seq (.seq (.seq .nil (.seq .nil (.seq (.meet false ⟨kS [0,1,6,7,8,11,12,13] [(29,.sl q4)],kO [50000,50002,50003,21] []⟩ .nil) j0))) .nil) .nil)))))) .nil))
def agj:b_:={ bf:=3,pin:=⟨[(0,q13),(1,q71),(2,(.agg [q3,q3,q25,q55,ZE,ZE]))],[(50000,q5),(50002,q45),(50001,q10),(50003,q10)]⟩,aF:=⟨[(0,q22),(1,q4),(2,q4)],[(50000,q21),(50002,q52),(50003,SI),(60003,SI)]⟩,bZ:=3,aK:=[50000,50002,50003],aN:=[60003] }
def ajs:gG:=(.seq .nil (.seq j1 (.seq .nil (.seq j1 (.seq (.seq .nil (.seq .nil (.seq (.seq .nil (.meet true ⟨[],[(50000,.ob (.box [XB,q11,q19,NK,q20,NK,q0,q0,q0,q0,q0,q0,q0,(.own 103003)])),(50002,.keep),(50003,.ob q10),(103003,.ob q10)]⟩ (.seq .nil (.seq .nil (.meet true ⟨[],[(50000,.ob q67),(50002,.keep),(50003,.ob q10),(102003,.ob q10)]⟩ (.seq j1 (.seq .nil (.seq (.seq .nil (.seq (.seq (.meet false ⟨kS [0,9,10,13] [(101,.sl q4)],kO [50000,50002,50003,22,1022] []⟩ .nil) j0) .nil)) (.seq .nil (.seq j11 (.seq .nil (.seq .nil (.seq .nil (.seq .nil (.seq .nil (.meet true ⟨[],lO [(50000,.ob (.box [XB,q11,q19,NK,q20,NK,q0,q0,q0,q0,q0,q0,q0,(.own 101003)]))] (kO [50002,50003] [(101003,.ob q10)])⟩ j23)))))))))))))))) .nil))) .nil)))))
def agk:b_:={ bf:=3,pin:=⟨[(0,q13),(1,q71),(2,(.one q55))],[(50000,q5),(50002,q45),(50001,q10),(50003,q10)]⟩,aF:=⟨[(0,(.one (.own 60003))),(1,q4)],[(50000,(.box [XB,q11,q19,NK,q20,NK,q0,q0,q0,q0,q0,q0,q0,(.own 60004)])),(50002,q45),(50003,q10),(60003,q35),(60004,q10)]⟩,bZ:=2,aK:=[50000,50002,50003],aN:=[60003,60004] }
def ajt:gG:=(.seq .nil (.seq .nil (.seq (.seq .nil (.meet true ⟨[(8,.sl (.one (.own 100003)))],[(50000,.ob q68),(50002,.ob q45),(50003,.ob q10),(100003,.ob q35),(100004,.ob q10)]⟩ (.loop ⟨kS [0,1] (lS [(8,.sl (.one (.own 100003)))] (kS [16,17] [(18,.sl q22)])),[(50000,.ob q68),(50002,.ob q45),(50003,.ob q10),(100003,.ob q35),(100004,.ob q10)]⟩ (.seq .nil (.seq .nil (.seq (.seq j25 .nil) .nil)))))) .nil)))
def agl:b_:={ bf:=4,pin:=⟨[(0,q13),(1,q71),(2,(.agg [q3,q3,q25,q55,ZE,ZE])),(3,zH)],[(50000,q5),(50002,q45),(50001,q10),(50003,q10)]⟩,aF:=⟨[(0,q22),(1,q4),(2,q4)],[(50000,q21),(50002,q52),(50003,SI),(60003,SI)]⟩,bZ:=3,aK:=[50000,50002,50003],aN:=[60003] }
def aju:gG:=(.seq .nil (.seq (.meet true ⟨[],[(50000,.ob q69),(50002,.ob q52),(50003,.ob SI),(100004,.ob SI)]⟩ (.loop ⟨kS [0,1] [(3,.sl zH),(6,.keep)],[(50000,.ob q69),(50002,.ob q52),(50003,.ob SI),(6,.keep),(100004,.ob SI)]⟩ (.seq j0 (.seq (.seq (.seq .nil (.seq (.meet false ⟨kS [0,1,6,8,9,10] [(26,.sl q4)],kO [50000,50002,50003,6,18] []⟩ .nil) j0)) (.seq j1 j8)) .nil)))) .nil))
def agm:b_:={ bf:=3,pin:=⟨[(0,q13),(1,q71),(2,q32)],[(50000,q5),(50002,q45),(50001,q10),(50003,q10)]⟩,aF:=⟨[(0,q22),(1,q4)],[(50000,(.box [XB,q11,q19,NK,q20,NK,q0,q0,q0,q0,q0,q0,q0,(.own 60003)])),(50002,q45),(50003,q10),(60003,q10)]⟩,bZ:=2,aK:=[50000,50002,50003],aN:=[60003] }
def ajv:gG:=(.seq .nil (.seq j1 (.seq (.seq (.meet false ⟨kS [0,1,5] [(26,.sl q4)],kO [50000,50002,50003,5,50001] []⟩ .nil) (.seq (.seq .nil (.seq (.seq (.meet false ⟨kS [0,1,5,8,9] [(45,.sl q4)],kO [50000,50002,50003,5,34] []⟩ .nil) (.meet false ⟨[(8,.sl q22),(9,.sl q4)],[(50000,.ob q67),(50002,.ob q45),(50003,.ob q10),(102003,.ob q10)]⟩ .nil)) .nil)) .nil)) (.seq .nil (.seq j1 (.seq (.seq .nil (.seq (.seq .nil (.seq .nil (.seq .nil (.seq .nil (.seq .nil (.seq .nil (.seq .nil (.seq (.seq .nil (.seq (.seq (.meet false ⟨kS [0,10,12] [(124,.sl q4)],kO [50000,50002,50003,65,1065] []⟩ .nil) j0) .nil)) (.seq .nil (.seq .nil (.seq .nil (.seq (.seq .nil (.seq (.meet false ⟨[(6,.sl q22),(7,.sl q4)],lO [(50000,.ob (.box [XB,q11,q19,NK,q20,NK,q0,q0,q0,q0,q0,q0,q0,(.own 1065)]))] (kO [50002,50003] [(1065,.ob q10)])⟩ .nil) .nil)) (.seq .nil (.seq .nil (.seq .nil (.seq (.seq (.seq (.meet false ⟨kS [0,10] [(211,.sl q4)],kO [50000,50002,50003,65,1065] []⟩ .nil) j0) .nil) (.seq .nil (.seq .nil (.seq .nil (.seq (.seq j1 j1) .nil)))))))))))))))))))) .nil)) .nil))))))
def ajw:b_:={ bf:=1,pin:=⟨[(0,q13)],[(50000,q6)]⟩,aF:=⟨[(0,q22),(1,q22)],[(50000,q2)]⟩,bZ:=2,aK:=[50000],aN:=[] }
def ajx:gG:=(.seq .nil (.seq (.seq (.meet false ⟨[(0,.keep),(13,.sl q4)],[(50000,.ob q6)]⟩ .nil) j0) j11))
def ajy:b_:={ bf:=1,pin:=⟨[(0,(.agg [q25,q3,q59,ZE]))],[]⟩,aF:=⟨[(0,(.one (.own 8)))],[(8,q48)]⟩,bZ:=1,aK:=[],aN:=[8] }
def ajz:gG:=j0
def agn:b_:={ bf:=2,pin:=⟨[(0,q13),(1,(.one ZE))],[(50000,q7),(50001,q8)]⟩,aF:=⟨[(0,q53)],[(50000,q50),(100001,(.arr false true true (.st 5))),(100002,Xz)]⟩,bZ:=1,aK:=[50000],aN:=[100001,100002] }
def ajA:gG:=(.seq .nil (.seq .nil (.seq (.seq .nil (.meet false ⟨[(5,.sl q53)],[(50000,.ob q51),(100001,.ob (.arr false true true (.st 5))),(100002,.ob Xz)]⟩ (.loop ⟨kS [0,1] [(5,.sl q53),(6,.sl q22)],[(50000,.ob q51),(100001,.ob (.arr false true true (.st 5))),(100002,.ob Xz)]⟩ (.seq j0 (.seq (.seq (.seq .nil (.seq .nil (.seq (.seq .nil (.meet false ⟨kS [0,1,5,6,7] [(8,.sl (.one (.own 101003)))],lO [(50000,.ob q51)] (kO [100001,7] [(101003,.ob q54),(100002,.ob Xz)])⟩ (.loop ⟨kS [0,1,5,6,7] [(8,.sl (.one (.own 101003))),(9,.sl q22)],lO [(50000,.ob q51)] (kO [100001,7] [(101003,.ob q54),(100002,.ob Xz)])⟩ (.seq j0 (.seq (.seq (.seq (.seq .nil (.meet false ⟨kS [0,1,5,6,7,8,9] [],lO [(50000,.ob q51)] (kO [100001,7,101003] [(100002,.ob Xz)])⟩ .nil)) .nil) .nil) .nil))))) (.seq .nil (.seq .nil (.seq (.seq .nil (.seq (.seq .nil (.meet false ⟨kS [0,1,5,6,7] [],lO [(50000,.ob (.box [q40,q30,(.own 110003),q0,q0]))] (kO [100001,7] [(110003,.ob Xz),(101003,.keep)])⟩ (.seq (.seq (.seq .nil (.meet false j3 .nil)) .nil) (.seq (.seq .nil (.meet false ⟨kS [0,1,5,6,7,10] [(80,.sl q4)],kO [50000,100001,7,100002,101003] []⟩ .nil)) (.meet false j3 (.seq (.seq .nil (.meet false j3 (.seq .nil (.seq (.meet false ⟨kS [0,1,5,6,7] [(108,.sl q4)],kO [50000,100001,7,100002,101003] []⟩ .nil) (.meet false j3 .nil))))) .nil)))))) .nil)) j0)))))) .nil) .nil))))) .nil)))
def ajB:b_:={ bf:=1,pin:=⟨[(0,(.agg [q25,q3,q59,ZE]))],[]⟩,aF:=⟨[(0,(.one (.own 9)))],[(9,q48)]⟩,bZ:=1,aK:=[],aN:=[9] }
def ajC:gG:=j0
def ajD:b_:={ bf:=2,pin:=⟨[(0,q13),(1,Qm)],[(50000,q6)]⟩,aF:=⟨[(0,q4)],[(50000,q2)]⟩,bZ:=1,aK:=[50000],aN:=[] }
def ajE:gG:=(.seq .nil (.seq (.seq .nil j18) .nil))
def ajF:b_:={ bf:=2,pin:=⟨[(0,q13),(1,Qm)],[(50000,q6)]⟩,aF:=⟨[],[(50000,q2)]⟩,bZ:=0,aK:=[50000],aN:=[] }
def ajG:gG:=(.seq .nil (.meet false ⟨[],[(50000,.ob q2)]⟩ .nil))
def ajH:b_:={ bf:=1,pin:=⟨[(0,Qm)],[]⟩,aF:=⟨[(0,q4)],[]⟩,bZ:=1,aK:=[],aN:=[] }
def ajI:gG:=j0
def ajJ:b_:={ bf:=1,pin:=⟨[(0,Qm)],[]⟩,aF:=⟨[(0,q4)],[]⟩,bZ:=1,aK:=[],aN:=[] }
def ajK:gG:=(.seq .nil (.seq (.seq (.meet false ⟨[(0,.keep),(21,.sl q4)],[]⟩ .nil) j0) (.seq (.seq .nil (.meet true ⟨[],[]⟩ (.loop ⟨[(0,.keep),(3,.sl q22)],[]⟩ (.seq j0 (.seq (.seq (.seq (.meet false ⟨kS [0,3] [(45,.sl q4)],[]⟩ .nil) j0) .nil) .nil))))) .nil)))
def ajL:b_:={ bf:=1,pin:=⟨[(0,Qm)],[]⟩,aF:=⟨[(0,q4)],[]⟩,bZ:=1,aK:=[],aN:=[] }
def ajM:gG:=j0
def agp:b_:={ bf:=1,pin:=⟨[(0,q13)],[(50000,q6)]⟩,aF:=⟨[(0,q24)],[(50000,q2)]⟩,bZ:=1,aK:=[50000],aN:=[] }
def ajN:gG:=j7
def agq:b_:={ bf:=1,pin:=⟨[(0,q13)],[(50000,q6)]⟩,aF:=⟨[(0,q24)],[(50000,q2)]⟩,bZ:=1,aK:=[50000],aN:=[] }
def ajO:gG:=j7
def agr:b_:={ bf:=1,pin:=⟨[(0,q13)],[(50000,q6)]⟩,aF:=⟨[(0,q24)],[(50000,q2)]⟩,bZ:=1,aK:=[50000],aN:=[] }
def ajP:gG:=(.seq .nil (.seq .nil (.seq j8 .nil)))
def ags:b_:={ bf:=1,pin:=⟨[(0,q13)],[(50000,q6)]⟩,aF:=⟨[(0,q24)],[(50000,q2)]⟩,bZ:=1,aK:=[50000],aN:=[] }
def ajQ:gG:=j14
def agt:b_:={ bf:=1,pin:=⟨[(0,q13)],[(50000,q6)]⟩,aF:=⟨[(0,q24)],[(50000,q2)]⟩,bZ:=1,aK:=[50000],aN:=[] }
def ajR:gG:=j14
def agu:b_:={ bf:=1,pin:=⟨[(0,q13)],[(50000,q6)]⟩,aF:=⟨[(0,q24)],[(50000,q2)]⟩,bZ:=1,aK:=[50000],aN:=[] }
def ajS:gG:=(.seq .nil (.seq j8 .nil))
def agv:b_:={ bf:=1,pin:=⟨[(0,q13)],[(50000,q6)]⟩,aF:=⟨[(0,q24)],[(50000,q2)]⟩,bZ:=1,aK:=[50000],aN:=[] }
def ajT:gG:=(.seq .nil (.seq .nil (.seq .nil (.seq (.meet false ⟨kS [2,4] [],[(50000,.ob q2),(2,.keep),(4,.ob q29)]⟩ (.loop ⟨kS [0,2,3,4] [],lO [(50000,.ob q2)] (kO [2,3] [(4,.ob q29)])⟩ (.seq j0 (.seq (.seq .nil (.seq .nil (.seq .nil (.seq (.seq .nil (.meet false ⟨kS [0,2,3,4,5] [(6,.sl (.one (.own 103004)))],lO [(50000,.ob q2)] (kO [2,3,4] [(103004,.ob ZC)])⟩ (.seq (.seq .nil (.seq (.meet false j16 (.loop j16 j18)) .nil)) .nil))) (.seq (.meet false ⟨kS [0,2,3,4,5,6] [(47,.sl q4)],kO [50000,2,3,4,103004] []⟩ .nil) (.meet false ⟨kS [0,2,3,4] [],kO [50000,2,3] [(4,.ob (.box [q0,q0,q0,q0,q12,(.own 105004)])),(105004,.ob ZC)]⟩ .nil)))))) .nil)))) .nil))))
def agw:b_:={ bf:=1,pin:=⟨[(0,q13)],[(50000,q6)]⟩,aF:=⟨[(0,q24)],[(50000,q2)]⟩,bZ:=1,aK:=[50000],aN:=[] }
def ajU:gG:=(.seq .nil (.seq .nil (.seq (.seq (.seq .nil (.seq .nil (.seq .nil (.seq j0 (.seq .nil (.seq (.seq .nil (.seq j2 .nil)) (.seq .nil j8))))))) .nil) j8)))
def ajV:b_:={ bf:=1,pin:=⟨[(0,q33)],[]⟩,aF:=⟨[(0,(.agg [(.own 60000),(.own 60001)])),(1,q22),(2,q22)],[(60000,(.arr false true false (.st 3))),(60001,q76)]⟩,bZ:=3,aK:=[],aN:=[60000,60001] }
def ajW:gG:=(.seq .nil (.seq (.seq (.meet false ⟨kS [1,2] [(20,.sl q4)],kO [1,2] []⟩ .nil) j0) (.seq (.seq (.meet false ⟨kS [1,2] [(42,.sl q4)],kO [1,2] []⟩ .nil) j0) (.seq (.seq .nil (.meet true ⟨kS [1,2] [],kO [1,2] []⟩ (.loop ⟨kS [1,2] [(5,.sl q22)],kO [1,2] []⟩ (.seq j0 j23)))) (.seq (.seq .nil (.meet true ⟨kS [1,2] [],kO [1,2] []⟩ (.loop ⟨kS [1,2] [(6,.sl q22)],kO [1,2] []⟩ (.seq j0 (.seq (.seq (.seq (.meet false ⟨kS [1,2,6] [(89,.sl q4)],kO [1,2] []⟩ .nil) j0) .nil) .nil))))) (.seq .nil (.seq (.seq .nil (.meet true ⟨[(2,.keep)],[(2,.ob (.box [(.own 99),(.own 107003)])),(99,.keep),(107003,.ob q76)]⟩ (.loop ⟨kS [1,2] [(7,.sl q22)],[(1,.keep),(2,.ob (.box [(.own 99),(.own 107003)])),(99,.keep),(107003,.ob q76)]⟩ (.seq j0 (.seq (.seq (.seq .nil (.seq (.seq (.meet false ⟨kS [1,2,7,8] [(128,.sl q4)],kO [1,2,8,99,107003] []⟩ .nil) j0) (.seq (.seq .nil (.meet true ⟨kS [1,2,7,8] [],kO [1,2,8,99,107003] []⟩ (.loop ⟨kS [1,2,7,8] [(9,.sl q22)],kO [1,2,8,99,107003] []⟩ (.seq j0 (.seq (.seq (.seq (.meet false ⟨kS [1,2,7,8,9] [(158,.sl q4)],kO [1,2,8,99,107003] []⟩ .nil) j0) .nil) .nil))))) j25))) .nil) .nil))))) .nil)))))))
def ajX:b_:={ bf:=1,pin:=⟨[(0,q33)],[]⟩,aF:=⟨[(0,(.agg [q63,(.own 14),(.own 102003),(.own 102004),(.own 15)]))],[(14,q46),(102003,q60),(102004,q35),(15,q61)]⟩,bZ:=1,aK:=[],aN:=[14,102003,102004,15] }
def ajY:gG:=(.seq .nil (.seq .nil (.seq (.seq .nil (.meet false ⟨kS [1,2,3] [],kO [1,2,3,14] [(15,.ob q61)]⟩ (.loop ⟨kS [1,2,3,18,19] [(20,.sl q22)],kO [1,2,3,14] [(15,.ob q61)]⟩ (.seq .nil (.seq .nil j18))))) (.seq (.seq .nil (.meet false ⟨kS [2,3] [],[(2,.keep),(3,.ob q73),(14,.ob q46),(102003,.ob q60),(102004,.ob q35),(15,.keep)]⟩ (.loop ⟨kS [2,3,34,35] [(36,.sl q22)],[(2,.keep),(3,.ob q73),(14,.ob q46),(102003,.ob q60),(102004,.ob q35),(15,.keep)]⟩ (.seq .nil (.seq .nil (.seq (.seq (.seq .nil (.seq .nil (.seq .nil (.seq .nil (.seq (.seq .nil (.meet false ⟨kS [2,3,8,9,34,35,36] [],kO [2,3,47] (lO [(48,.ob q46)] (kO [14,102003,102004,15] []))⟩ (.loop ⟨kS [2,3,8,9,34,35,36,49,50] [(51,.sl q22)],kO [2,3,47] (lO [(48,.ob q46)] (kO [14,102003,102004,15] []))⟩ (.seq .nil (.seq .nil j18))))) .nil))))) .nil) .nil)))))) .nil))))
def ajZ:b_:={ bf:=3,pin:=⟨[(0,Qm),(1,zH),(2,zH)],[]⟩,aF:=⟨[(0,(.agg [q0,q0,q0,q12])),(1,q22),(2,q4)],[]⟩,bZ:=3,aK:=[],aN:=[] }
def aj0:gG:=(.seq .nil (.seq .nil (.seq .nil (.seq (.seq (.seq .nil (.seq (.seq (.meet false j9 (.loop j9 (.seq (.seq (.meet false ⟨kS [0,1,6,9,10] [(43,.sl q4)],kO [6,10] []⟩ .nil) .nil) .nil))) (.seq .nil (.seq (.seq .nil (.meet false ⟨kS [6,9,10] [],[(6,.keep),(10,.ob (.box [q0,q3,q0,q12]))]⟩ .nil)) (.seq (.meet false ⟨[(6,.keep),(7,.sl zH),(8,.sl q4)],[(6,.ob (.box [q0,q3,q0,q12]))]⟩ .nil) .nil)))) (.seq .nil (.seq (.seq (.meet false j9 (.loop j9 (.seq (.seq (.meet false ⟨kS [0,1,6,9,10] [(80,.sl q4)],kO [6,10] []⟩ .nil) .nil) .nil))) (.seq .nil (.seq .nil (.seq .nil (.seq (.seq (.meet false ⟨kS [6,9,10,12] [(124,.sl q4)],kO [6,10] []⟩ .nil) (.meet false ⟨kS [6,9,10] [(12,.sl q4)],kO [6,10] []⟩ .nil)) .nil))))) .nil)))) .nil) (.seq (.seq .nil (.meet true ⟨[(6,.keep)],[(6,.keep)]⟩ (.loop ⟨kS [0,1,6,10] [(13,.sl q22)],kO [6,10] []⟩ (.seq j0 (.seq (.seq (.seq (.meet false ⟨kS [0,1,6,10,13] [(146,.sl q4)],kO [6,10] []⟩ .nil) j18) .nil) .nil))))) .nil)))))
def aj1:b_:={ bf:=1,pin:=⟨[(0,q13)],[(50000,q6)]⟩,aF:=⟨[(0,(.agg [q12,q0]))],[(50000,q2)]⟩,bZ:=1,aK:=[50000],aN:=[] }
def aj2:gG:=(.seq .nil (.seq .nil (.seq (.seq .nil (.meet false ⟨kS [0,2,3] [],[(50000,.ob q2),(2,.keep),(3,.ob (.box [q12,q0]))]⟩ (.seq (.seq .nil (.seq (.seq (.meet false ⟨kS [0,2,3,4] [(34,.sl q4)],kO [50000,2,3,4] []⟩ .nil) (.meet false ⟨kS [0,2,3,4] [],lO [(50000,.ob q2)] (kO [2,3,4] [])⟩ .nil)) .nil)) .nil))) j0)))
def aj3:b_:={ bf:=1,pin:=⟨[(0,q13)],[(50000,q6)]⟩,aF:=⟨[(0,q24)],[(50000,q2)]⟩,bZ:=1,aK:=[50000],aN:=[] }
def aj6:gG:=j8
def aj7:b_:={ bf:=3,pin:=⟨[(0,q33),(1,q75),(2,(.agg [q3,q3]))],[]⟩,aF:=⟨[(0,(.agg [q0,q0,q0,(.own 26)])),(1,q22)],[(26,(.arr false true false (.int .i64)))]⟩,bZ:=2,aK:=[],aN:=[26] }
def aj8:gG:=(.seq .nil (.seq .nil (.seq (.meet false ⟨[(6,.keep),(8,.sl (.one (.box 23 0)))],[(6,.keep),(23,.ob (.box [q63,(.p false false (.sl (.mp false .str (.int .i64)))),(.p false false (.sl (.sl (.mp false .str (.int .i64))))),(.p false false (.sl (.int .i64))),(.p false false (.sl (.mp false .str (.sl (.int .i64))))),q14,q0,q0,q0,q0,q0,q0,q0,(.own 100700)])),(100700,.ob q35)]⟩ .nil) (.seq (.seq .nil (.seq .nil (.meet false ⟨kS [6,8] [],[(6,.keep),(23,.ob (.box [q63,(.p true false (.sl (.mp false .str (.int .i64)))),(.p true false (.sl (.sl (.mp false .str (.int .i64))))),q14,(.p true false (.sl (.mp false .str (.sl (.int .i64))))),q14,q0,q0,q0,q0,q0,q0,q0,(.own 26)])),(26,.keep)]⟩ .nil))) .nil))))
def aj9:b_:={ bf:=1,pin:=⟨[(0,Qm)],[]⟩,aF:=⟨[(0,(.one (.own 60000))),(1,q22),(2,q22)],[(60000,q49)]⟩,bZ:=3,aK:=[],aN:=[60000] }
def aj_:gG:=(.seq .nil (.seq j1 (.seq .nil (.seq (.seq .nil (.meet true ⟨[(2,.sl q57),(5,.sl q22)],[(100000,.ob q49)]⟩ (.loop ⟨[(0,.keep),(2,.sl q57),(5,.sl q22),(6,.sl q22)],[(100000,.ob q49)]⟩ (.seq j0 (.seq (.seq (.seq .nil (.meet true ⟨[(0,.keep),(2,.sl (.one (.own 107000))),(5,.sl q22),(6,.sl q22)],[(107000,.ob q49)]⟩ (.seq .nil (.seq (.meet false ⟨kS [0,2,5,6] [(42,.sl q4)],[(100000,.keep)]⟩ .nil) (.meet true ⟨[(0,.keep),(2,.sl (.one (.own 106000))),(5,.keep),(6,.sl q22)],[(106000,.ob q49)]⟩ (.seq .nil (.seq .nil (.meet true ⟨[(0,.keep),(2,.sl (.one (.own 105000))),(5,.keep),(6,.sl q22)],[(105000,.ob q49)]⟩ (.seq (.meet false j24 (.loop j24 (.seq (.seq (.meet false ⟨kS [0,2,5,6] [(69,.sl q4)],[(100000,.keep)]⟩ .nil) .nil) .nil))) j2))))))))) .nil) .nil))))) .nil))))
def agx:b_:={ bf:=1,pin:=⟨[(0,q13)],[(50000,q6)]⟩,aF:=⟨[(0,q53)],[(50000,q2),(100001,XA)]⟩,bZ:=1,aK:=[50000],aN:=[100001] }
def akb:gG:=(.seq .nil (.seq .nil (.seq .nil (.seq (.meet false ⟨[(3,.sl q53)],[(50000,.ob q2),(100001,.ob XA)]⟩ (.loop ⟨[(0,.keep),(3,.sl q53)],[(50000,.ob q2),(100001,.ob XA)]⟩ (.seq (.seq (.meet false ⟨kS [0,3] [(15,.sl q4)],[(50000,.ob q2),(100001,.keep)]⟩ .nil) .nil) .nil))) .nil))))
def agy:b_:={ bf:=1,pin:=⟨[(0,q13)],[(50000,q6)]⟩,aF:=⟨[(0,(.agg [q0,q0,q12,(.own 107003),(.own 107004),(.own 107005)]))],[(50000,q2),(107003,ZC),(107004,XA),(107005,XA)]⟩,bZ:=1,aK:=[50000],aN:=[107003,107004,107005] }
def akc:gG:=(.seq .nil (.seq .nil (.seq (.seq (.seq .nil (.meet false ⟨kS [2,3] [],[(50000,.ob q2),(2,.keep),(3,.ob (.box [q0,q0,q12,(.own 107003),(.own 107004),(.own 107005)])),(107003,.ob ZC),(107004,.ob XA),(107005,.ob XA)]⟩ (.seq j0 (.seq .nil (.meet false ⟨kS [2,3] [],[(50000,.ob q2),(2,.keep),(3,.ob (.box [q0,q0,q12,(.own 106003),(.own 106004),(.own 106005)])),(106003,.ob ZC),(106004,.ob XA),(106005,.ob XA)]⟩ (.seq (.seq .nil (.seq .nil (.seq .nil (.meet false ⟨kS [2,3] [],lO [(50000,.ob q2),(2,.keep),(3,.ob (.box [q0,q0,q12,(.own 50),(.own 54),(.own 100005)]))] (kO [50,54] [(100005,.ob XA)])⟩ .nil)))) (.seq .nil (.meet false ⟨kS [2,3] [],[(50000,.ob q2),(2,.keep),(3,.ob (.box [q0,q0,q12,(.own 105003),(.own 105004),.bg])),(105003,.ob ZC),(105004,.ob XA)]⟩ (.seq .nil (.seq .nil (.meet false ⟨kS [2,3] [],[(50000,.ob q2),(2,.keep),(3,.ob (.box [q0,q0,q12,(.own 104003),.bg,.bg])),(104003,.ob ZC)]⟩ (.seq .nil (.seq .nil (.meet false ⟨kS [2,3] [],[(50000,.ob q2),(2,.keep),(3,.ob (.box [q0,q0,q12,(.own 103003),.bg,.bg])),(103003,.ob ZC)]⟩ (.seq .nil (.seq .nil (.meet false ⟨kS [2,3] [],[(50000,.ob q2),(2,.keep),(3,.ob (.box [q0,q0,q12,(.own 102003),.bg,.bg])),(102003,.ob ZC)]⟩ (.seq .nil (.seq .nil (.seq (.seq .nil (.meet false ⟨kS [0,2,3] [],[(50000,.ob q2),(2,.keep),(3,.ob (.box [q0,q0,q12,(.own 101003),.bg,.bg])),(101003,.ob ZC)]⟩ j0)) .nil)))))))))))))))))))) .nil) .nil)))
def akd:b_:={ bf:=1,pin:=⟨[(0,q13)],[(50000,q6)]⟩,aF:=⟨[(0,(.agg [q12,q0,(.own 102003),(.own 34)]))],[(50000,q2),(102003,q62),(34,XA)]⟩,bZ:=1,aK:=[50000],aN:=[102003,34] }
def ake:gG:=(.seq .nil (.seq .nil (.seq .nil (.seq (.seq .nil (.meet false ⟨kS [0,2,3] [],[(50000,.ob q2),(2,.keep),(3,.ob (.box [q12,q0,(.own 102003),.bg])),(102003,.ob q62)]⟩ (.seq (.seq .nil (.seq (.meet false j15 (.loop j15 j18)) .nil)) .nil))) j0))))
def akf:b_:={ bf:=1,pin:=⟨[(0,q13)],[(50000,q6)]⟩,aF:=⟨[(0,(.agg [(.own 100003),(.own 100004)]))],[(50000,q2),(100003,q58),(100004,q23)]⟩,bZ:=1,aK:=[50000],aN:=[100003,100004] }
def akg:gG:=(.seq .nil (.seq .nil (.seq (.meet false ⟨kS [2,3] [],[(50000,.ob q6),(2,.keep),(3,.ob (.box [(.own 100003),(.own 100004)])),(100003,.ob q58),(100004,.ob q23)]⟩ (.loop ⟨kS [0,2,3] [],[(50000,.ob q6),(2,.keep),(3,.ob (.box [(.own 100003),(.own 100004)])),(100003,.ob q58),(100004,.ob q23)]⟩ (.seq (.seq (.meet false ⟨kS [0,2,3] [(16,.sl q4)],lO [(50000,.ob q6)] (kO [2,3,100003,100004] [])⟩ .nil) .nil) (.meet false ⟨kS [0,2,3] [],[(50000,.ob q2),(2,.keep),(3,.ob (.box [(.own 102003),(.own 102004)])),(102003,.ob q58),(102004,.ob q23)]⟩ (.seq j1 j8))))) .nil)))
def akh:b_:={ bf:=1,pin:=⟨[(0,Qm)],[]⟩,aF:=⟨[(0,(.agg [(.own 60000),(.own 60001)])),(1,q22),(2,q22)],[(60000,q58),(60001,(.arr false false false (.st 4)))]⟩,bZ:=3,aK:=[],aN:=[60000,60001] }
def aki:gG:=(.seq .nil (.seq .nil (.seq j1 (.seq (.meet false ⟨[(2,.keep),(6,.sl (.one (.box 20 0)))],[(2,.keep),(20,.ob (.box [(.p false false (.sl (.st 13))),q0,(.p false false .bool),q0]))]⟩ .nil) j25))))
def sg7:b_:={ bf:=0,pin:=⟨[],[]⟩,aF:=⟨[(0,q4)],[]⟩,bZ:=1,aK:=[],aN:=[] }
def an7:gG:=(.seq .nil (.seq .nil (.seq .nil (.seq .nil (.seq (.meet false ⟨[(0,.sl q4)],[]⟩ .nil) .nil)))))
def sg3:b_:={ bf:=4,pin:=⟨[(0,zH),(1,zH),(2,zH),(3,q74)],[]⟩,aF:=⟨[(0,q4)],[]⟩,bZ:=1,aK:=[],aN:=[] }
def an3:gG:=(.seq .nil (.seq j1 (.seq (.seq .nil (.meet true ⟨kS [1,2] [],[]⟩ (.loop ⟨kS [1,2,25,26] [(27,.sl q22)],[(25,.keep)]⟩ (.seq .nil (.seq .nil (.seq (.seq (.seq .nil (.seq .nil (.seq .nil (.seq (.meet false ⟨kS [1,2,25,26,27] [(61,.sl q4)],[(25,.keep)]⟩ .nil) j0)))) .nil) .nil)))))) (.seq .nil (.seq .nil (.seq (.meet false ⟨[(8,.sl q4)],[]⟩ .nil) .nil))))))
end Go.Fg.Ytpbdikcmfgeooaa

