/-
  Shapes of the functions of the seat, printed by a program (wip/gen/Infer.lean).
-/
import Derived.Test.YtpbdikcmfgeooaaFwT
import Derived.Test.YtpbdikcmfgeooaaZd
namespace Go.Fg.Ytpbdikcmfgeooaa
open Go.Fw Go.Proofs Go.Fw.Ytpbdikcmfgeooaa
set_option linter.unusedVariables false
structure eU where
  kind:Int
  op:Int
  value:Int
  line:Int
  name:(List UInt8)
  args:(List eU)
def acD:eU:=eU.mk (0:Int) (0:Int) (0:Int) (0:Int) [] []
mutual
def rH:eU→List P
  |⟨y0,y1,y2,y3,y4,y5⟩=>[P.int .i64 y0,P.int .i64 y1,P.int .i64 y2,P.int .i64 y3,P.str ⟨List.toArray y4⟩,P.dX 6 (BP y5)]
def BP:List eU→List (List P)
  | []=>[]
  |x::l=>rH x::BP l
end
theorem EL :∀l,BP l=List.map rH l
  | []=>rfl
  |x::l=>by rw [BP,EL l];rfl
theorem T_ (x:eU):rH x=[P.int .i64 (eU.kind x),P.int .i64 (eU.op x),P.int .i64 (eU.value x),P.int .i64 (eU.line x),P.str ⟨List.toArray (eU.name x)⟩,P.dX 6 (List.map rH (eU.args x))]:=by
  cases x
  rw [rH]
  simp only [EL]
structure jg where
  kind:Int
  line:Int
  name:(List UInt8)
  exprs:(List eU)
  then':(List jg)
  else':(List jg)
def acE:jg:=jg.mk (0:Int) (0:Int) [] [] [] []
mutual
def rJ:jg→List P
  |⟨y0,y1,y2,y3,y4,y5⟩=>[P.int .i64 y0,P.int .i64 y1,P.str ⟨List.toArray y2⟩,P.dX 6 (List.map rH y3),P.dX 6 (xY y4),P.dX 6 (xY y5)]
def xY:List jg→List (List P)
  | []=>[]
  |x::l=>rJ x::xY l
end
theorem EM :∀l,xY l=List.map rJ l
  | []=>rfl
  |x::l=>by rw [xY,EM l];rfl
theorem Ua (x:jg):rJ x=[P.int .i64 (jg.kind x),P.int .i64 (jg.line x),P.str ⟨List.toArray (jg.name x)⟩,P.dX 6 (List.map rH (jg.exprs x)),P.dX 6 (List.map rJ (jg.then' x)),P.dX 6 (List.map rJ (jg.else' x))]:=by
  cases x
  rw [rJ]
  simp only [EM]
structure jS where
  kind:Int
  line:Int
  value:Int
  text:(List UInt8)
def aaw:jS:=jS.mk (0:Int) (0:Int) (0:Int) []
def aax (x:jS):List P:=[P.int .i64 (jS.kind x),P.int .i64 (jS.line x),P.int .i64 (jS.value x),P.str ⟨List.toArray (jS.text x)⟩]
structure bF where
  kind:Int
  value:Int
  trap:Int
  output:(List Int)
def Ub:bF:=bF.mk (0:Int) (0:Int) (0:Int) []
def Uc (x:bF):List P:=[P.int .i64 (bF.kind x),P.int .i64 (bF.value x),P.int .i64 (bF.trap x),P.dX 1 (List.map (fun (x:Int)=>[P.int .i64 x]) (bF.output x))]
structure mJ where
  name:(List UInt8)
  line:Int
  params:(List (List UInt8))
  body:(List jg)
def acF:mJ:=mJ.mk [] (0:Int) [] []
def acG (x:mJ):List P:=[P.str ⟨List.toArray (mJ.name x)⟩,P.int .i64 (mJ.line x),P.dX 1 (List.map (fun (x:List UInt8)=>[P.str ⟨x.toArray⟩]) (mJ.params x)),P.dX 6 (List.map rJ (mJ.body x))]
structure jo where
  name:(List UInt8)
  size:Int
def Ya:jo:=jo.mk [] (0:Int)
def Yb (x:jo):List P:=[P.str ⟨List.toArray (jo.name x)⟩,P.int .i64 (jo.size x)]
def reC:Nat→Type
  |0=>Unit
  |1=>Unit
  |2=>Unit
  |3=>jo
  |4=>mJ
  |5=>jg
  |6=>eU
  |7=>Unit
  |8=>Unit
  |9=>bF
  |10=>Unit
  |11=>Unit
  |12=>Unit
  |13=>jS
  |14=>Unit
  |15=>Unit
  |16=>Unit
  |17=>Unit
  |18=>Unit
  |19=>Unit
  |20=>Unit
  |_=>Unit
def reF:Nat→List Ty
  |0=>[]
  |1=>[]
  |2=>[]
  |3=>[.str,(.int .i64)]
  |4=>[.str,(.int .i64),(.sl .str),(.sl (.st 5))]
  |5=>[(.int .i64),(.int .i64),.str,(.sl (.st 6)),(.sl (.st 5)),(.sl (.st 5))]
  |6=>[(.int .i64),(.int .i64),(.int .i64),(.int .i64),.str,(.sl (.st 6))]
  |7=>[]
  |8=>[]
  |9=>[(.int .i64),(.int .i64),(.int .i64),(.sl (.int .i64))]
  |10=>[]
  |11=>[]
  |12=>[]
  |13=>[(.int .i64),(.int .i64),(.int .i64),.str]
  |14=>[]
  |15=>[]
  |16=>[]
  |17=>[]
  |18=>[]
  |19=>[]
  |20=>[]
  |_=>[]
def ajC:(n:Nat)→reC n
  |0=>()
  |1=>()
  |2=>()
  |3=>Ya
  |4=>acF
  |5=>acE
  |6=>acD
  |7=>()
  |8=>()
  |9=>Ub
  |10=>()
  |11=>()
  |12=>()
  |13=>aaw
  |14=>()
  |15=>()
  |16=>()
  |17=>()
  |18=>()
  |19=>()
  |20=>()
  |_+21=>()
def acH:(n:Nat)→reC n→List (TP reC)
  |0,x=>[]
  |1,x=>[]
  |2,x=>[]
  |3,x=>[⟨.str,jo.name x⟩,⟨(.int .i64),jo.size x⟩]
  |4,x=>[⟨.str,mJ.name x⟩,⟨(.int .i64),mJ.line x⟩,⟨(.sl .str),mJ.params x⟩,⟨(.sl (.st 5)),mJ.body x⟩]
  |5,x=>[⟨(.int .i64),jg.kind x⟩,⟨(.int .i64),jg.line x⟩,⟨.str,jg.name x⟩,⟨(.sl (.st 6)),jg.exprs x⟩,⟨(.sl (.st 5)),jg.then' x⟩,⟨(.sl (.st 5)),jg.else' x⟩]
  |6,x=>[⟨(.int .i64),eU.kind x⟩,⟨(.int .i64),eU.op x⟩,⟨(.int .i64),eU.value x⟩,⟨(.int .i64),eU.line x⟩,⟨.str,eU.name x⟩,⟨(.sl (.st 6)),eU.args x⟩]
  |7,x=>[]
  |8,x=>[]
  |9,x=>[⟨(.int .i64),bF.kind x⟩,⟨(.int .i64),bF.value x⟩,⟨(.int .i64),bF.trap x⟩,⟨(.sl (.int .i64)),bF.output x⟩]
  |10,x=>[]
  |11,x=>[]
  |12,x=>[]
  |13,x=>[⟨(.int .i64),jS.kind x⟩,⟨(.int .i64),jS.line x⟩,⟨(.int .i64),jS.value x⟩,⟨.str,jS.text x⟩]
  |14,x=>[]
  |15,x=>[]
  |16,x=>[]
  |17,x=>[]
  |18,x=>[]
  |19,x=>[]
  |20,x=>[]
  |_+21,_=>[]
def agX:(n:Nat)→List (TP reC)→reC n
  |0,ws=>()
  |1,ws=>()
  |2,ws=>()
  |3,ws=>jo.mk (TP.get .str [] ws 0) (TP.get (.int .i64) (0:Int) ws 1)
  |4,ws=>mJ.mk (TP.get .str [] ws 0) (TP.get (.int .i64) (0:Int) ws 1) (TP.get (.sl .str) [] ws 2) (TP.get (.sl (.st 5)) [] ws 3)
  |5,ws=>jg.mk (TP.get (.int .i64) (0:Int) ws 0) (TP.get (.int .i64) (0:Int) ws 1) (TP.get .str [] ws 2) (TP.get (.sl (.st 6)) [] ws 3) (TP.get (.sl (.st 5)) [] ws 4) (TP.get (.sl (.st 5)) [] ws 5)
  |6,ws=>eU.mk (TP.get (.int .i64) (0:Int) ws 0) (TP.get (.int .i64) (0:Int) ws 1) (TP.get (.int .i64) (0:Int) ws 2) (TP.get (.int .i64) (0:Int) ws 3) (TP.get .str [] ws 4) (TP.get (.sl (.st 6)) [] ws 5)
  |7,ws=>()
  |8,ws=>()
  |9,ws=>bF.mk (TP.get (.int .i64) (0:Int) ws 0) (TP.get (.int .i64) (0:Int) ws 1) (TP.get (.int .i64) (0:Int) ws 2) (TP.get (.sl (.int .i64)) [] ws 3)
  |10,ws=>()
  |11,ws=>()
  |12,ws=>()
  |13,ws=>jS.mk (TP.get (.int .i64) (0:Int) ws 0) (TP.get (.int .i64) (0:Int) ws 1) (TP.get (.int .i64) (0:Int) ws 2) (TP.get .str [] ws 3)
  |14,ws=>()
  |15,ws=>()
  |16,ws=>()
  |17,ws=>()
  |18,ws=>()
  |19,ws=>()
  |20,ws=>()
  |_+21,_=>()
def aff:(n:Nat)→reC n→List P
  |0,x=>[]
  |1,x=>[]
  |2,x=>[]
  |3,x=>Yb x
  |4,x=>acG x
  |5,x=>rJ x
  |6,x=>rH x
  |7,x=>[]
  |8,x=>[]
  |9,x=>Uc x
  |10,x=>[]
  |11,x=>[]
  |12,x=>[]
  |13,x=>aax x
  |14,x=>[]
  |15,x=>[]
  |16,x=>[]
  |17,x=>[]
  |18,x=>[]
  |19,x=>[]
  |20,x=>[]
  |_+21,_=>[]
theorem agY :∀n,(reF n).all Ty.word=true
  |0=>rfl
  |1=>rfl
  |2=>rfl
  |3=>rfl
  |4=>rfl
  |5=>rfl
  |6=>rfl
  |7=>rfl
  |8=>rfl
  |9=>rfl
  |10=>rfl
  |11=>rfl
  |12=>rfl
  |13=>rfl
  |14=>rfl
  |15=>rfl
  |16=>rfl
  |17=>rfl
  |18=>rfl
  |19=>rfl
  |20=>rfl
  |_+21=>rfl
theorem afg :∀(n:Nat) (x:reC n),(acH n x).map (·.t)=reF n
  |0,x=>rfl
  |1,x=>rfl
  |2,x=>rfl
  |3,x=>rfl
  |4,x=>rfl
  |5,x=>rfl
  |6,x=>rfl
  |7,x=>rfl
  |8,x=>rfl
  |9,x=>rfl
  |10,x=>rfl
  |11,x=>rfl
  |12,x=>rfl
  |13,x=>rfl
  |14,x=>rfl
  |15,x=>rfl
  |16,x=>rfl
  |17,x=>rfl
  |18,x=>rfl
  |19,x=>rfl
  |20,x=>rfl
  |_+21,_=>rfl
theorem afh :∀(n:Nat) (ws:List (TP reC)),ws.map (·.t)=reF n→acH n (agX n ws)=ws
  |0,ws,h=>by
    have e:=dN h
    subst e
    rfl
  |1,ws,h=>by
    have e:=dN h
    subst e
    rfl
  |2,ws,h=>by
    have e:=dN h
    subst e
    rfl
  |3,ws,h=>by
    obtain ⟨x0,ws0,e0,h0⟩:=bJ h
    subst e0
    obtain ⟨x1,ws1,e1,h1⟩:=bJ h0
    subst e1
    have e:=dN h1
    subst e
    rfl
  |4,ws,h=>by
    obtain ⟨x0,ws0,e0,h0⟩:=bJ h
    subst e0
    obtain ⟨x1,ws1,e1,h1⟩:=bJ h0
    subst e1
    obtain ⟨x2,ws2,e2,h2⟩:=bJ h1
    subst e2
    obtain ⟨x3,ws3,e3,h3⟩:=bJ h2
    subst e3
    have e:=dN h3
    subst e
    rfl
  |5,ws,h=>by
    obtain ⟨x0,ws0,e0,h0⟩:=bJ h
    subst e0
    obtain ⟨x1,ws1,e1,h1⟩:=bJ h0
    subst e1
    obtain ⟨x2,ws2,e2,h2⟩:=bJ h1
    subst e2
    obtain ⟨x3,ws3,e3,h3⟩:=bJ h2
    subst e3
    obtain ⟨x4,ws4,e4,h4⟩:=bJ h3
    subst e4
    obtain ⟨x5,ws5,e5,h5⟩:=bJ h4
    subst e5
    have e:=dN h5
    subst e
    rfl
  |6,ws,h=>by
    obtain ⟨x0,ws0,e0,h0⟩:=bJ h
    subst e0
    obtain ⟨x1,ws1,e1,h1⟩:=bJ h0
    subst e1
    obtain ⟨x2,ws2,e2,h2⟩:=bJ h1
    subst e2
    obtain ⟨x3,ws3,e3,h3⟩:=bJ h2
    subst e3
    obtain ⟨x4,ws4,e4,h4⟩:=bJ h3
    subst e4
    obtain ⟨x5,ws5,e5,h5⟩:=bJ h4
    subst e5
    have e:=dN h5
    subst e
    rfl
  |7,ws,h=>by
    have e:=dN h
    subst e
    rfl
  |8,ws,h=>by
    have e:=dN h
    subst e
    rfl
  |9,ws,h=>by
    obtain ⟨x0,ws0,e0,h0⟩:=bJ h
    subst e0
    obtain ⟨x1,ws1,e1,h1⟩:=bJ h0
    subst e1
    obtain ⟨x2,ws2,e2,h2⟩:=bJ h1
    subst e2
    obtain ⟨x3,ws3,e3,h3⟩:=bJ h2
    subst e3
    have e:=dN h3
    subst e
    rfl
  |10,ws,h=>by
    have e:=dN h
    subst e
    rfl
  |11,ws,h=>by
    have e:=dN h
    subst e
    rfl
  |12,ws,h=>by
    have e:=dN h
    subst e
    rfl
  |13,ws,h=>by
    obtain ⟨x0,ws0,e0,h0⟩:=bJ h
    subst e0
    obtain ⟨x1,ws1,e1,h1⟩:=bJ h0
    subst e1
    obtain ⟨x2,ws2,e2,h2⟩:=bJ h1
    subst e2
    obtain ⟨x3,ws3,e3,h3⟩:=bJ h2
    subst e3
    have e:=dN h3
    subst e
    rfl
  |14,ws,h=>by
    have e:=dN h
    subst e
    rfl
  |15,ws,h=>by
    have e:=dN h
    subst e
    rfl
  |16,ws,h=>by
    have e:=dN h
    subst e
    rfl
  |17,ws,h=>by
    have e:=dN h
    subst e
    rfl
  |18,ws,h=>by
    have e:=dN h
    subst e
    rfl
  |19,ws,h=>by
    have e:=dN h
    subst e
    rfl
  |20,ws,h=>by
    have e:=dN h
    subst e
    rfl
  |_+21,ws,h=>by have e:=dN h;subst e;rfl
theorem afi :∀(n:Nat) (x:reC n),aff n x=(acH n x).map fun w=>Ih (kR reF) (kQ reF aff (kR reF)) w.t w.x
  |0,x=>by kernel_rfl
  |1,x=>by kernel_rfl
  |2,x=>by kernel_rfl
  |3,x=>by kernel_rfl
  |4,x=>by kernel_rfl
  |5,x=>(Ua x).trans (by kernel_rfl)
  |6,x=>(T_ x).trans (by kernel_rfl)
  |7,x=>by kernel_rfl
  |8,x=>by kernel_rfl
  |9,x=>by kernel_rfl
  |10,x=>by kernel_rfl
  |11,x=>by kernel_rfl
  |12,x=>by kernel_rfl
  |13,x=>by kernel_rfl
  |14,x=>by kernel_rfl
  |15,x=>by kernel_rfl
  |16,x=>by kernel_rfl
  |17,x=>by kernel_rfl
  |18,x=>by kernel_rfl
  |19,x=>by kernel_rfl
  |20,x=>by kernel_rfl
  |_+21,_=>rfl
def reG:Nat→Option ((e:Ty)×List (D reC e))
  |_=>none
instance re:RE where
  C:=reC
  F:=reF
  dflt:=ajC
  un:=acH
  ro:=agX
  er:=aff
  Fwd:=agY
  adM:=afg
  adN:=afh
  adO:=afi
  G:=reG
theorem mixed:Fit Try.prog:=⟨Fw.Ytpbdikcmfgeooaa.afd,fun _ _ _ _ h=>h.elim⟩
def ajD:List (Nat×Ty):=[(3,(.int .i64)),(5,(.int .u8)),(9,.str),(40,(.st 9)),(59,(.sl (.mp false .str (.int .i64)))),(79,(.st 4)),(82,(.st 3)),(102,(.st 13)),(113,(.st 5)),(116,(.st 6)),(4000059,(.mp false .str (.int .i64))),(4000061,(.mp false .str (.sl (.int .i64))))]
def ety:TypeId→Option Ty:=fun t=>ajD.lookup t
def kS (l:List Nat) (r:List (Nat×Md)):List (Nat×Md):=l.map (fun n=>(n,.keep))++r
def kO (l:List Nat) (r:List (Nat×Mo)):List (Nat×Mo):=l.map (fun n=>(n,.keep))++r
def lS (l r:List (Nat×Md)):=l++r
def lO (l r:List (Nat×Mo)):=l++r
abbrev q0:iF:=.p false false (.int .i64)
abbrev q1:iF:=.p false true (.int .i64)
abbrev q2:ig:=.box [(.p false true (.sl (.st 13))),q0,(.p false false .bool),q0]
abbrev q3:iF:=.p true false (.int .i64)
abbrev q4:j_:=.one (.p false false .bool)
abbrev q6:ig:=.box [(.p false true (.sl (.st 13))),q1,(.p false true .bool),q1]
abbrev q8:ig:=.arr false false true .str
abbrev q10:ig:=.arr false false true (.int .i64)
abbrev q11:iF:=.p false true (.sl (.mp false .str (.int .i64)))
abbrev q12:iF:=.p false false .str
abbrev q13:j_:=.one (.box 50000 0)
abbrev q14:iF:=.p true false (.sl (.int .i64))
abbrev q15:iF:=.p false true (.sl (.int .u8))
abbrev q16:iF:=.p true true (.sl (.mp false .str (.int .i64)))
abbrev Oy:iF:=.p false true (.sl (.int .i64))
abbrev q19:iF:=.p false true (.sl (.sl (.mp false .str (.int .i64))))
abbrev q20:iF:=.p false true (.sl (.mp false .str (.sl (.int .i64))))
abbrev q22:j_:=.one q0
abbrev q23:ig:=.arr false false true (.st 4)
abbrev q24:j_:=.agg [q0,q0,q0,q0,q12,(.p false true (.sl (.st 6)))]
abbrev q25:iF:=.p true false .str
abbrev Ud:ig:=.arr false true true (.int .i64)
abbrev q28:ig:=.arr false false true (.st 6)
abbrev q29:ig:=.box [q0,q0,q0,q0,q12,(.p false true (.sl (.st 6)))]
abbrev q30:iF:=.p true true (.sl (.st 4))
abbrev Yn:ig:=.arr false true true .str
abbrev Yo:ig:=.arr false false true (.st 5)
abbrev q35:ig:=.arr false false false (.int .i64)
abbrev Yp:iF:=.p false true (.sl (.st 4))
abbrev q5:ig:=.box [Yp,q11,q19,Oy,q20,Oy,q1,q1,q1,q1,q1,q1,q1,(.own 50001)]
abbrev q7:ig:=.box [(.p false true (.sl (.st 3))),Yp,(.own 50001),q1,q1]
abbrev q9:ig:=.box [(.p false true (.sl (.st 3))),Yp,(.own 50001),q0,q0]
abbrev q38:iF:=.p true true (.sl (.int .i64))
abbrev q39:iF:=.p true false (.sl (.st 5))
abbrev q40:iF:=.p true true (.sl (.st 3))
abbrev FB:j_:=.one q3
abbrev q42:ig:=.box [q15,q0]
abbrev q43:iF:=.p true true (.sl (.sl (.mp false .str (.int .i64))))
abbrev q44:iF:=.p true true (.sl (.mp false .str (.sl (.int .i64))))
abbrev q21:ig:=.box [q30,q16,q43,q38,q44,q38,q0,q0,q0,q0,q0,q0,q0,(.own 60003)]
abbrev q45:ig:=.box [q11,(.own 50003)]
abbrev q46:ig:=.arr false false false (.mp false .str (.int .i64))
abbrev q47:j_:=.agg [q3,q3,q3,q14]
abbrev q48:ig:=.arr false true false .str
abbrev q49:ig:=.arr false false false (.st 13)
abbrev q50:ig:=.box [q40,q30,(.own 100002),q0,q0]
abbrev q51:ig:=.box [q40,q30,(.own 100002),q1,q1]
abbrev q52:ig:=.box [q16,(.own 50003)]
abbrev q53:j_:=.one (.own 100001)
abbrev q54:ig:=.arr false true true (.st 6)
abbrev q55:iF:=.p true false (.sl (.st 6))
abbrev q32:j_:=.agg [q3,q3,q3,q3,q25,q55]
abbrev QX:j_:=.one q25
abbrev q57:j_:=.one (.own 100000)
abbrev q58:ig:=.arr false false false (.st 3)
abbrev q59:iF:=.p true false (.sl .str)
abbrev q60:ig:=.arr false false false (.sl (.mp false .str (.int .i64)))
abbrev q61:ig:=.arr false false false (.mp false .str (.sl (.int .i64)))
abbrev q62:ig:=.arr false false false .str
abbrev q63:iF:=.p true false (.sl (.st 4))
abbrev q33:j_:=.agg [(.p true false (.sl (.st 3))),q63]
abbrev q64:ig:=.box [q15,q1]
abbrev q65:iF:=.p true false (.sl (.int .u8))
abbrev q66:ig:=.box [q30,q16,q43,q38,q44,q38,q1,q1,q1,q1,q1,q1,q1,(.own 100003)]
abbrev q67:ig:=.box [Yp,q11,q19,Oy,q20,Oy,q0,q0,q0,q0,q0,q0,q0,(.own 102003)]
abbrev q68:ig:=.box [Yp,q11,q19,Oy,q20,Oy,q1,q1,q1,q1,q1,q1,q1,(.own 100004)]
abbrev q69:ig:=.box [q30,q16,q43,q38,q44,q38,q1,q1,q1,q1,q1,q1,q1,(.own 100004)]
abbrev q70:ig:=.box [Yp,q11,q19,Oy,q20,Oy,q0,q0,q0,q0,q0,q0,q0,(.own 50001)]
abbrev q71:j_:=.one (.box 50002 0)
abbrev q72:ig:=.box [q3,q3,q3,q14]
abbrev q73:ig:=.box [q63,(.own 14),(.own 102003),(.own 102004),(.own 15)]
abbrev q74:j_:=.one (.p true false (.int .u8))
abbrev q75:j_:=.one q14
abbrev q76:ig:=.arr false true false (.st 4)
abbrev j0:fZ:=.seq .nil .nil
abbrev j1:fZ:=.seq .nil j0
abbrev j3:JT:=⟨kS [0,1,5,6,7] [],lO [(50000,.ob q50)] (kO [100001,7] [(100002,.ob Yn),(101003,.keep)])⟩
abbrev j4:JT:=⟨kS [0,3,4] [],lO [(50000,.ob q7),(50001,.ob q8)] (kO [3,4] [])⟩
abbrev j6:JT:=⟨kS [0,3,4] [],lO [(50000,.ob q9),(50001,.ob q8)] (kO [3,4] [])⟩
abbrev j8:fZ:=.seq .nil j1
abbrev j9:JT:=⟨kS [0,1,6] [(9,.sl FB),(10,.keep)],kO [6,10] []⟩
abbrev j10:fZ:=.seq (.meet false ⟨[(4,.sl q4)],[]⟩ .nil) .nil
abbrev j11:fZ:=.seq j1 .nil
abbrev j2:fZ:=.seq .nil j11
abbrev j13:JT:=⟨kS [3,4,8] [],kO [3,4] [(8,.ob q72)]⟩
abbrev j15:JT:=⟨kS [0,2,3] [],[(50000,.ob q2),(2,.keep),(3,.ob (.box [q12,q0,(.own 100003),.bg])),(100003,.ob q62)]⟩
abbrev j16:JT:=⟨kS [0,2,3,4,5] [(6,.sl (.one (.own 101004)))],lO [(50000,.ob q2)] (kO [2,3,4] [(101004,.ob q28)])⟩
abbrev j17:fZ:=.seq (.seq .nil (.seq (.seq .nil j8) .nil)) .nil
abbrev j18:fZ:=.seq j0 .nil
abbrev j19:fZ:=.seq .nil (.seq (.meet false ⟨[(2,.sl q4)],[]⟩ .nil) .nil)
abbrev j20:fZ:=.seq .nil (.seq .nil (.seq .nil (.seq .nil (.seq .nil j8))))
abbrev j21:JT:=⟨kS [0,2,3] [],[(50000,.ob q2),(2,.keep),(3,.ob q29)]⟩
abbrev j7:fZ:=.seq .nil (.seq .nil (.seq (.meet false ⟨kS [2,3] [],[(50000,.ob q2),(2,.keep),(3,.ob q29)]⟩ (.loop j21 (.seq j0 j18))) .nil))
abbrev j14:fZ:=.seq .nil (.seq .nil (.seq (.loop j21 (.seq j2 .nil)) .nil))
abbrev j22:fZ:=.seq (.meet false ⟨[(6,.sl q4)],[]⟩ .nil) .nil
abbrev j23:fZ:=.seq j11 .nil
abbrev j5:fZ:=.seq (.seq .nil (.meet true ⟨[],[]⟩ (.loop ⟨kS [0,1] [(5,.sl q22)],[]⟩ (.seq j0 j23)))) .nil
abbrev j12:fZ:=.seq .nil (.seq (.seq .nil (.meet true ⟨[],[]⟩ (.loop ⟨kS [1,2] [(5,.sl q22)],[(2,.keep)]⟩ (.seq j0 j23)))) .nil)
abbrev j24:JT:=⟨kS [0,2,5] [(6,.sl q22)],[(100000,.keep)]⟩
abbrev j25:fZ:=.seq .nil j2
abbrev j26:JT:=⟨[],[(50000,.ob q9),(50001,.ob q8)]⟩
def ajK:bZ:={ aZ:=2,pin:=⟨[(0,(.one q65)),(1,FB)],[]⟩,aF:=⟨[(0,(.one (.box 14 0)))],[(14,(.box [q65,q0]))]⟩,bY:=1,aN:=[],aK:=[14] }
def ajL:fZ:=(.seq .nil (.seq (.seq .nil (.meet false ⟨[(0,.sl (.one q65))],[]⟩ .nil)) .nil))
def ajM:bZ:={ aZ:=2,pin:=⟨[(0,q75),(1,q75)],[]⟩,aF:=⟨[(0,q4)],[]⟩,bY:=1,aN:=[],aK:=[] }
def ajN:fZ:=(.seq .nil (.seq j1 j5))
def ag7:bZ:={ aZ:=2,pin:=⟨[(0,q13),(1,FB)],[(50000,q64)]⟩,aF:=⟨[(0,q22)],[(50000,q42)]⟩,bY:=1,aN:=[50000],aK:=[] }
def ajO:fZ:=(.seq .nil (.seq (.seq (.meet false ⟨kS [0,1] [(19,.sl q4)],[(50000,.keep)]⟩ .nil) j0) j25))
def ajP:bZ:={ aZ:=2,pin:=⟨[(0,q47),(1,q47)],[]⟩,aF:=⟨[(0,q4)],[]⟩,bY:=1,aN:=[],aK:=[] }
def ajQ:fZ:=(.seq .nil j10)
def ajR:bZ:={ aZ:=1,pin:=⟨[(0,(.one (.p true false .bool)))],[]⟩,aF:=⟨[(0,q22)],[]⟩,bY:=1,aN:=[],aK:=[] }
def ajS:fZ:=j2
def ajT:bZ:={ aZ:=2,pin:=⟨[(0,q75),(1,q75)],[]⟩,aF:=⟨[(0,q4)],[]⟩,bY:=1,aN:=[],aK:=[] }
def ajU:fZ:=(.seq .nil (.seq j1 (.seq (.seq .nil (.meet true ⟨[],[]⟩ (.loop ⟨kS [0,1,12] [(13,.sl q22)],[]⟩ (.seq .nil (.seq .nil (.seq (.seq j8 .nil) .nil)))))) .nil)))
def ajV:bZ:={ aZ:=2,pin:=⟨[(0,q75),(1,q75)],[]⟩,aF:=⟨[(0,q4)],[]⟩,bY:=1,aN:=[],aK:=[] }
def ajW:fZ:=(.seq .nil j10)
def ajX:bZ:={ aZ:=2,pin:=⟨[(0,q33),(1,QX)],[]⟩,aF:=⟨[(0,q22)],[]⟩,bY:=1,aN:=[],aK:=[] }
def ajY:fZ:=j12
def ajZ:bZ:={ aZ:=2,pin:=⟨[(0,q33),(1,QX)],[]⟩,aF:=⟨[(0,q22)],[]⟩,bY:=1,aN:=[],aK:=[] }
def aj0:fZ:=j12
def ag8:bZ:={ aZ:=1,pin:=⟨[(0,(.one q39))],[]⟩,aF:=⟨[(0,q22)],[]⟩,bY:=1,aN:=[],aK:=[] }
def aj1:fZ:=(.seq .nil (.seq .nil (.seq (.seq .nil (.meet false ⟨[(3,.sl q22)],[]⟩ (.loop ⟨[(0,.keep),(3,.sl q22),(4,.sl q22)],[]⟩ (.seq j0 j0)))) .nil)))
def aj2:bZ:={ aZ:=2,pin:=⟨[(0,(.one q59)),(1,QX)],[]⟩,aF:=⟨[(0,q4)],[]⟩,bY:=1,aN:=[],aK:=[] }
def aj3:fZ:=(.seq .nil j5)
def aj6:bZ:={ aZ:=2,pin:=⟨[(0,q33),(1,QX)],[]⟩,aF:=⟨[(0,q22)],[]⟩,bY:=1,aN:=[],aK:=[] }
def aj7:fZ:=(.seq .nil (.seq (.seq .nil (.seq .nil j23)) j11))
def aj8:bZ:={ aZ:=3,pin:=⟨[(0,q13),(1,FB),(2,FB)],[(50000,q5),(50001,q10)]⟩,aF:=⟨[(0,q4)],[(50000,q70),(50001,q10)]⟩,bY:=1,aN:=[50000,50001],aK:=[] }
def aj9:fZ:=j1
def aj_:bZ:={ aZ:=1,pin:=⟨[(0,q13)],[(50000,q6)]⟩,aF:=⟨[(0,(.agg [q0,q0,q0,q12]))],[(50000,q2)]⟩,bY:=1,aN:=[50000],aK:=[] }
def akb:fZ:=j0
def ag9:bZ:={ aZ:=2,pin:=⟨[(0,(.one (.own 55000))),(1,(.one q39))],[(55000,q8)]⟩,aF:=⟨[(0,q57)],[(100000,Yn)]⟩,bY:=1,aN:=[],aK:=[100000] }
def akc:fZ:=(.seq .nil (.seq (.seq .nil (.meet false ⟨[(0,.sl q57)],[(100000,.ob Yn)]⟩ (.loop ⟨[(0,.sl q57),(1,.keep),(5,.sl q22)],[(100000,.ob Yn)]⟩ (.seq j0 (.seq (.seq (.seq (.seq .nil (.meet false ⟨lS [(0,.sl (.one (.own 101000)))] (kS [1,5] []),[(101000,.ob Yn)]⟩ .nil)) .nil) .nil) .nil))))) .nil))
def ag_:bZ:={ aZ:=1,pin:=⟨[(0,q32)],[]⟩,aF:=⟨[(0,q22)],[]⟩,bY:=1,aN:=[],aK:=[] }
def akd:fZ:=(.seq .nil (.seq .nil (.seq (.seq .nil (.meet false ⟨[(3,.sl q22)],[]⟩ (.loop ⟨[(1,.keep),(3,.sl q22),(4,.sl q22)],[(1,.keep)]⟩ (.seq j0 j0)))) .nil)))
def ake:bZ:={ aZ:=3,pin:=⟨[(0,q13),(1,FB),(2,FB)],[(50000,q7),(50001,q8)]⟩,aF:=⟨[],[(50000,q9),(50001,q8)]⟩,bY:=0,aN:=[50000,50001],aK:=[] }
def akf:fZ:=(.seq .nil (.meet false ⟨[],[(50000,.ob (.box [(.p false true (.sl (.st 3))),Yp,(.own 50001),(.p true true (.int .i64)),(.p true true (.int .i64))])),(50001,.keep)]⟩ .nil))
def akg:bZ:={ aZ:=2,pin:=⟨[(0,q13),(1,QX)],[(50000,q7),(50001,q8)]⟩,aF:=⟨[(0,q22)],[(50000,q9),(50001,q8)]⟩,bY:=1,aN:=[50000,50001],aK:=[] }
def akh:fZ:=j2
def afl:bZ:={ aZ:=1,pin:=⟨[(0,(.one q59))],[]⟩,aF:=⟨[(0,(.one (.own 60000)))],[(60000,q48)]⟩,bY:=1,aN:=[],aK:=[60000] }
def aki:fZ:=j2
def aha:bZ:={ aZ:=1,pin:=⟨[(0,(.one q39))],[]⟩,aF:=⟨[(0,q57)],[(100000,q48)]⟩,bY:=1,aN:=[],aK:=[100000] }
def akj:fZ:=(.seq .nil (.seq .nil (.seq (.seq .nil (.meet false ⟨[(3,.sl q57)],[(100000,.ob q48)]⟩ (.loop ⟨lS [(3,.sl q57)] (kS [6,7] [(8,.sl q22)]),[(100000,.ob q48)]⟩ (.seq .nil (.seq .nil (.seq (.seq (.seq .nil (.seq (.seq .nil (.meet false ⟨lS [(3,.sl (.one (.own 101000)))] (kS [5,6,7,8] []),[(101000,.ob q48),(5,.keep)]⟩ .nil)) .nil)) .nil) .nil)))))) .nil)))
def akk:bZ:={ aZ:=1,pin:=⟨[(0,q74)],[]⟩,aF:=⟨[(0,q4)],[]⟩,bY:=1,aN:=[],aK:=[] }
def akl:fZ:=j19
def akm:bZ:={ aZ:=1,pin:=⟨[(0,q74)],[]⟩,aF:=⟨[(0,q4)],[]⟩,bY:=1,aN:=[],aK:=[] }
def akn:fZ:=j19
def ako:bZ:={ aZ:=1,pin:=⟨[(0,QX)],[]⟩,aF:=⟨[(0,q22),(1,q4)],[]⟩,bY:=2,aN:=[],aK:=[] }
def akp:fZ:=(.seq .nil (.seq .nil (.seq (.seq .nil (.meet true ⟨[(4,.sl q22)],[]⟩ (.loop ⟨[(0,.keep),(4,.sl q22),(5,.sl q22)],[]⟩ (.seq j0 (.seq (.seq j2 .nil) .nil))))) .nil)))
def akq:bZ:={ aZ:=2,pin:=⟨[(0,q13),(1,QX)],[(50000,q6)]⟩,aF:=⟨[(0,q4)],[(50000,q2)]⟩,bY:=1,aN:=[50000],aK:=[] }
def akr:fZ:=(.seq .nil (.seq .nil (.seq (.meet false ⟨[(4,.sl q4)],[(50000,.keep)]⟩ .nil) .nil)))
def aks:bZ:={ aZ:=2,pin:=⟨[(0,q13),(1,FB)],[(50000,q6)]⟩,aF:=⟨[(0,(.agg [q0,q0,q0,q12]))],[(50000,q2)]⟩,bY:=1,aN:=[50000],aK:=[] }
def akt:fZ:=(.seq .nil (.seq .nil (.seq (.seq (.meet false ⟨kS [0,4,5] [(17,.sl q4)],kO [50000,4,5] []⟩ .nil) j18) j0)))
def aku:bZ:={ aZ:=4,pin:=⟨[(0,q13),(1,q32),(2,FB),(3,FB)],[(50000,q7),(50001,q8)]⟩,aF:=⟨[],[(50000,q9),(50001,q8)]⟩,bY:=0,aN:=[50000,50001],aK:=[] }
def akv:fZ:=(.seq .nil (.seq .nil (.seq (.seq .nil (.meet false j26 (.seq .nil (.seq (.meet false ⟨kS [0,5] [(20,.sl q4)],kO [50000,50001,5] []⟩ .nil) (.meet false j26 .nil))))) .nil)))
def akw:bZ:={ aZ:=3,pin:=⟨[(0,q13),(1,QX),(2,FB)],[(50000,q7),(50001,q8)]⟩,aF:=⟨[(0,(.agg [q0,q0,q0,q0,q12,.bg]))],[(50000,q9),(50001,q8)]⟩,bY:=1,aN:=[50000,50001],aK:=[] }
def akx:fZ:=(.seq .nil (.seq .nil (.seq (.seq .nil (.meet false ⟨kS [1,2,6] [(7,.sl q22)],kO [50000,50001,6] []⟩ .nil)) .nil)))
def ahb:bZ:={ aZ:=2,pin:=⟨[(0,q13),(1,q32)],[(50000,q7),(50001,q8)]⟩,aF:=⟨[(0,(.agg [q0,q0,q0,q0,q12,(.own 60002)]))],[(50000,q9),(50001,q8),(60002,q54)]⟩,bY:=1,aN:=[50000,50001],aK:=[60002] }
def aky:fZ:=(.seq .nil (.seq (.seq .nil (.seq (.seq .nil (.seq j0 (.seq .nil (.meet true j4 (.seq .nil (.seq .nil (.meet true j4 (.seq .nil (.seq .nil (.meet true j4 (.seq (.seq .nil (.seq (.seq .nil (.meet true j6 (.seq .nil (.seq .nil (.meet true j6 (.seq .nil (.seq .nil (.seq (.seq .nil (.meet false j6 .nil)) (.seq (.seq .nil (.meet false j6 .nil)) .nil))))))))) .nil)) (.seq .nil (.meet false j4 (.seq (.seq .nil (.meet false j4 .nil)) .nil)))))))))))))) .nil)) j0))
def ahc:bZ:={ aZ:=2,pin:=⟨[(0,q13),(1,(.one q55))],[(50000,q7),(50001,q8)]⟩,aF:=⟨[(0,(.one (.own 100002)))],[(50000,q9),(50001,q8),(100002,q54)]⟩,bY:=1,aN:=[50000,50001],aK:=[100002] }
def akz:fZ:=(.seq .nil (.seq .nil (.seq (.seq .nil (.meet false ⟨[(5,.sl (.one (.own 100002)))],[(50000,.ob q7),(50001,.ob q8),(100002,.ob q54)]⟩ (.loop ⟨kS [0,1] [(5,.sl (.one (.own 100002))),(6,.sl q22)],[(50000,.ob q7),(50001,.ob q8),(100002,.ob q54)]⟩ (.seq j0 j0)))) .nil)))
def akA:bZ:={ aZ:=1,pin:=⟨[(0,q13)],[(50000,q5),(50001,q10)]⟩,aF:=⟨[(0,q4)],[(50000,q70),(50001,q10)]⟩,bY:=1,aN:=[50000,50001],aK:=[] }
def akB:fZ:=(.seq .nil (.seq j1 j0))
def akC:bZ:={ aZ:=2,pin:=⟨[(0,QX),(1,(.one q59))],[]⟩,aF:=⟨[(0,q4)],[]⟩,bY:=1,aN:=[],aK:=[] }
def akD:fZ:=(.seq .nil j5)
def akE:bZ:={ aZ:=5,pin:=⟨[(0,FB),(1,FB),(2,FB),(3,q32),(4,q32)],[]⟩,aF:=⟨[(0,(.agg [q0,q0,q0,q0,q12,(.own 16)]))],[(16,(.arr false true false (.st 6)))]⟩,bY:=1,aN:=[],aK:=[16] }
def akF:fZ:=j0
def akG:bZ:={ aZ:=3,pin:=⟨[(0,q13),(1,(.one q59)),(2,q75)],[(50000,q6)]⟩,aF:=⟨[(0,q22),(1,q22)],[(50000,q2)]⟩,bY:=2,aN:=[50000],aK:=[] }
def akH:fZ:=(.seq .nil (.seq (.seq .nil (.meet true ⟨[],[(50000,.ob q6)]⟩ (.loop ⟨kS [0,1,2] [(8,.sl q22)],[(50000,.ob q6)]⟩ (.seq j0 (.seq (.seq j2 .nil) .nil))))) .nil))
def sg8:bZ:={ aZ:=3,pin:=⟨[(0,FB),(1,FB),(2,FB)],[]⟩,aF:=⟨[(0,q22),(1,q4)],[]⟩,bY:=2,aN:=[],aK:=[] }
def an8:fZ:=(.seq .nil (.seq (.seq .nil (.seq (.seq .nil (.seq .nil (.seq .nil (.seq .nil (.seq .nil (.seq .nil j20)))))) .nil)) (.seq j1 j17)))
def akI:bZ:={ aZ:=2,pin:=⟨[(0,FB),(1,FB)],[]⟩,aF:=⟨[(0,q22)],[]⟩,bY:=1,aN:=[],aK:=[] }
def akJ:fZ:=(.seq .nil j17)
def akK:bZ:={ aZ:=2,pin:=⟨[(0,q47),(1,q47)],[]⟩,aF:=⟨[(0,q4)],[]⟩,bY:=1,aN:=[],aK:=[] }
def akL:fZ:=(.seq .nil j10)
def akM:bZ:={ aZ:=2,pin:=⟨[(0,q47),(1,q47)],[]⟩,aF:=⟨[(0,q4)],[]⟩,bY:=1,aN:=[],aK:=[] }
def akN:fZ:=(.seq .nil (.seq j1 j0))
def akO:bZ:={ aZ:=2,pin:=⟨[(0,q47),(1,q47)],[]⟩,aF:=⟨[(0,q4)],[]⟩,bY:=1,aN:=[],aK:=[] }
def akP:fZ:=(.seq .nil (.seq (.seq .nil (.seq j10 .nil)) .nil))
def ahd:bZ:={ aZ:=3,pin:=⟨[(0,q13),(1,FB),(2,q75)],[(50000,q5),(50001,q10)]⟩,aF:=⟨[(0,q22),(1,q4)],[(50000,(.box [q30,q16,q43,q38,q44,q38,q0,q0,q0,q0,q0,q0,q0,(.own 60001)])),(60001,Ud)]⟩,bY:=2,aN:=[50000],aK:=[60001] }
def akQ:fZ:=(.seq .nil (.seq j1 (.seq .nil (.seq .nil j8))))
def ahe:bZ:={ aZ:=3,pin:=⟨[(0,q13),(1,q71),(2,(.one q39))],[(50000,q5),(50002,q45),(50001,q10),(50003,q10)]⟩,aF:=⟨[(0,q22),(1,q4),(2,q4)],[(50000,q21),(50002,q52),(50003,Ud),(60003,Ud)]⟩,bY:=3,aN:=[50000,50002,50003],aK:=[60003] }
def akR:fZ:=(.seq .nil (.seq (.seq .nil (.meet true ⟨[],[(50000,.ob q66),(50002,.ob q52),(50003,.ob Ud),(100003,.ob Ud)]⟩ (.loop ⟨kS [0,1,11,12] [(13,.sl q22)],[(50000,.ob q66),(50002,.ob q52),(50003,.ob Ud),(100003,.ob Ud)]⟩ (.seq .nil (.seq .nil (.seq (.seq (.seq .nil (.seq .nil (.seq (.meet false ⟨kS [0,1,6,7,8,11,12,13] [(29,.sl q4)],kO [50000,50002,50003,21] []⟩ .nil) j0))) .nil) .nil)))))) .nil))
def ahf:bZ:={ aZ:=3,pin:=⟨[(0,q13),(1,q71),(2,(.agg [q3,q3,q25,q55,q39,q39]))],[(50000,q5),(50002,q45),(50001,q10),(50003,q10)]⟩,aF:=⟨[(0,q22),(1,q4),(2,q4)],[(50000,q21),(50002,q52),(50003,Ud),(60003,Ud)]⟩,bY:=3,aN:=[50000,50002,50003],aK:=[60003] }
def akS:fZ:=(.seq .nil (.seq j1 (.seq .nil (.seq j1 (.seq (.seq .nil (.seq .nil (.seq (.seq .nil (.meet true ⟨[],[(50000,.ob (.box [Yp,q11,q19,Oy,q20,Oy,q0,q0,q0,q0,q0,q0,q0,(.own 103003)])),(50002,.keep),(50003,.ob q10),(103003,.ob q10)]⟩ (.seq .nil (.seq .nil (.meet true ⟨[],[(50000,.ob q67),(50002,.keep),(50003,.ob q10),(102003,.ob q10)]⟩ (.seq j1 (.seq .nil (.seq (.seq .nil (.seq (.seq (.meet false ⟨kS [0,9,10,13] [(101,.sl q4)],kO [50000,50002,50003,22,1022] []⟩ .nil) j0) .nil)) (.seq .nil (.seq j11 (.seq .nil (.seq .nil (.seq .nil (.seq .nil (.seq .nil (.meet true ⟨[],lO [(50000,.ob (.box [Yp,q11,q19,Oy,q20,Oy,q0,q0,q0,q0,q0,q0,q0,(.own 101003)]))] (kO [50002,50003] [(101003,.ob q10)])⟩ j23)))))))))))))))) .nil))) .nil)))))
def ahg:bZ:={ aZ:=3,pin:=⟨[(0,q13),(1,q71),(2,(.one q55))],[(50000,q5),(50002,q45),(50001,q10),(50003,q10)]⟩,aF:=⟨[(0,(.one (.own 60003))),(1,q4)],[(50000,(.box [Yp,q11,q19,Oy,q20,Oy,q0,q0,q0,q0,q0,q0,q0,(.own 60004)])),(50002,q45),(50003,q10),(60003,q35),(60004,q10)]⟩,bY:=2,aN:=[50000,50002,50003],aK:=[60003,60004] }
def akT:fZ:=(.seq .nil (.seq .nil (.seq (.seq .nil (.meet true ⟨[(8,.sl (.one (.own 100003)))],[(50000,.ob q68),(50002,.ob q45),(50003,.ob q10),(100003,.ob q35),(100004,.ob q10)]⟩ (.loop ⟨kS [0,1] (lS [(8,.sl (.one (.own 100003)))] (kS [16,17] [(18,.sl q22)])),[(50000,.ob q68),(50002,.ob q45),(50003,.ob q10),(100003,.ob q35),(100004,.ob q10)]⟩ (.seq .nil (.seq .nil (.seq (.seq j25 .nil) .nil)))))) .nil)))
def ahh:bZ:={ aZ:=4,pin:=⟨[(0,q13),(1,q71),(2,(.agg [q3,q3,q25,q55,q39,q39])),(3,FB)],[(50000,q5),(50002,q45),(50001,q10),(50003,q10)]⟩,aF:=⟨[(0,q22),(1,q4),(2,q4)],[(50000,q21),(50002,q52),(50003,Ud),(60003,Ud)]⟩,bY:=3,aN:=[50000,50002,50003],aK:=[60003] }
def akU:fZ:=(.seq .nil (.seq (.meet true ⟨[],[(50000,.ob q69),(50002,.ob q52),(50003,.ob Ud),(100004,.ob Ud)]⟩ (.loop ⟨kS [0,1] [(3,.sl FB),(6,.keep)],[(50000,.ob q69),(50002,.ob q52),(50003,.ob Ud),(6,.keep),(100004,.ob Ud)]⟩ (.seq j0 (.seq (.seq (.seq .nil (.seq (.meet false ⟨kS [0,1,6,8,9,10] [(26,.sl q4)],kO [50000,50002,50003,6,18] []⟩ .nil) j0)) (.seq j1 j8)) .nil)))) .nil))
def ahi:bZ:={ aZ:=3,pin:=⟨[(0,q13),(1,q71),(2,q32)],[(50000,q5),(50002,q45),(50001,q10),(50003,q10)]⟩,aF:=⟨[(0,q22),(1,q4)],[(50000,(.box [Yp,q11,q19,Oy,q20,Oy,q0,q0,q0,q0,q0,q0,q0,(.own 60003)])),(50002,q45),(50003,q10),(60003,q10)]⟩,bY:=2,aN:=[50000,50002,50003],aK:=[60003] }
def akV:fZ:=(.seq .nil (.seq j1 (.seq (.seq (.meet false ⟨kS [0,1,5] [(26,.sl q4)],kO [50000,50002,50003,5,50001] []⟩ .nil) (.seq (.seq .nil (.seq (.seq (.meet false ⟨kS [0,1,5,8,9] [(45,.sl q4)],kO [50000,50002,50003,5,34] []⟩ .nil) (.meet false ⟨[(8,.sl q22),(9,.sl q4)],[(50000,.ob q67),(50002,.ob q45),(50003,.ob q10),(102003,.ob q10)]⟩ .nil)) .nil)) .nil)) (.seq .nil (.seq j1 (.seq (.seq .nil (.seq (.seq .nil (.seq .nil (.seq .nil (.seq .nil (.seq .nil (.seq .nil (.seq .nil (.seq (.seq .nil (.seq (.seq (.meet false ⟨kS [0,10,12] [(124,.sl q4)],kO [50000,50002,50003,65,1065] []⟩ .nil) j0) .nil)) (.seq .nil (.seq .nil (.seq .nil (.seq (.seq .nil (.seq (.meet false ⟨[(6,.sl q22),(7,.sl q4)],lO [(50000,.ob (.box [Yp,q11,q19,Oy,q20,Oy,q0,q0,q0,q0,q0,q0,q0,(.own 1065)]))] (kO [50002,50003] [(1065,.ob q10)])⟩ .nil) .nil)) (.seq .nil (.seq .nil (.seq .nil (.seq (.seq (.seq (.meet false ⟨kS [0,10] [(211,.sl q4)],kO [50000,50002,50003,65,1065] []⟩ .nil) j0) .nil) (.seq .nil (.seq .nil (.seq .nil (.seq (.seq j1 j1) .nil)))))))))))))))))))) .nil)) .nil))))))
def akW:bZ:={ aZ:=1,pin:=⟨[(0,q13)],[(50000,q6)]⟩,aF:=⟨[(0,q22),(1,q22)],[(50000,q2)]⟩,bY:=2,aN:=[50000],aK:=[] }
def akX:fZ:=(.seq .nil (.seq (.seq (.meet false ⟨[(0,.keep),(13,.sl q4)],[(50000,.ob q6)]⟩ .nil) j0) j11))
def akY:bZ:={ aZ:=1,pin:=⟨[(0,(.agg [q25,q3,q59,q39]))],[]⟩,aF:=⟨[(0,(.one (.own 8)))],[(8,q48)]⟩,bY:=1,aN:=[],aK:=[8] }
def akZ:fZ:=j0
def ahj:bZ:={ aZ:=2,pin:=⟨[(0,q13),(1,(.one q39))],[(50000,q7),(50001,q8)]⟩,aF:=⟨[(0,q53)],[(50000,q50),(100001,(.arr false true true (.st 5))),(100002,Yn)]⟩,bY:=1,aN:=[50000],aK:=[100001,100002] }
def ak0:fZ:=(.seq .nil (.seq .nil (.seq (.seq .nil (.meet false ⟨[(5,.sl q53)],[(50000,.ob q51),(100001,.ob (.arr false true true (.st 5))),(100002,.ob Yn)]⟩ (.loop ⟨kS [0,1] [(5,.sl q53),(6,.sl q22)],[(50000,.ob q51),(100001,.ob (.arr false true true (.st 5))),(100002,.ob Yn)]⟩ (.seq j0 (.seq (.seq (.seq .nil (.seq .nil (.seq (.seq .nil (.meet false ⟨kS [0,1,5,6,7] [(8,.sl (.one (.own 101003)))],lO [(50000,.ob q51)] (kO [100001,7] [(101003,.ob q54),(100002,.ob Yn)])⟩ (.loop ⟨kS [0,1,5,6,7] [(8,.sl (.one (.own 101003))),(9,.sl q22)],lO [(50000,.ob q51)] (kO [100001,7] [(101003,.ob q54),(100002,.ob Yn)])⟩ (.seq j0 (.seq (.seq (.seq (.seq .nil (.meet false ⟨kS [0,1,5,6,7,8,9] [],lO [(50000,.ob q51)] (kO [100001,7,101003] [(100002,.ob Yn)])⟩ .nil)) .nil) .nil) .nil))))) (.seq .nil (.seq .nil (.seq (.seq .nil (.seq (.seq .nil (.meet false ⟨kS [0,1,5,6,7] [],lO [(50000,.ob (.box [q40,q30,(.own 110003),q0,q0]))] (kO [100001,7] [(110003,.ob Yn),(101003,.keep)])⟩ (.seq (.seq (.seq .nil (.meet false j3 .nil)) .nil) (.seq (.seq .nil (.meet false ⟨kS [0,1,5,6,7,10] [(80,.sl q4)],kO [50000,100001,7,100002,101003] []⟩ .nil)) (.meet false j3 (.seq (.seq .nil (.meet false j3 (.seq .nil (.seq (.meet false ⟨kS [0,1,5,6,7] [(108,.sl q4)],kO [50000,100001,7,100002,101003] []⟩ .nil) (.meet false j3 .nil))))) .nil)))))) .nil)) j0)))))) .nil) .nil))))) .nil)))
def ak1:bZ:={ aZ:=1,pin:=⟨[(0,(.agg [q25,q3,q59,q39]))],[]⟩,aF:=⟨[(0,(.one (.own 9)))],[(9,q48)]⟩,bY:=1,aN:=[],aK:=[9] }
def ak2:fZ:=j0
def ak3:bZ:={ aZ:=2,pin:=⟨[(0,q13),(1,QX)],[(50000,q6)]⟩,aF:=⟨[(0,q4)],[(50000,q2)]⟩,bY:=1,aN:=[50000],aK:=[] }
def ak4:fZ:=(.seq .nil (.seq (.seq .nil j18) .nil))
def ak5:bZ:={ aZ:=2,pin:=⟨[(0,q13),(1,QX)],[(50000,q6)]⟩,aF:=⟨[],[(50000,q2)]⟩,bY:=0,aN:=[50000],aK:=[] }
def ak6:fZ:=(.seq .nil (.meet false ⟨[],[(50000,.ob q2)]⟩ .nil))
def ak7:bZ:={ aZ:=1,pin:=⟨[(0,QX)],[]⟩,aF:=⟨[(0,q4)],[]⟩,bY:=1,aN:=[],aK:=[] }
def ak8:fZ:=j0
def ak9:bZ:={ aZ:=1,pin:=⟨[(0,QX)],[]⟩,aF:=⟨[(0,q4)],[]⟩,bY:=1,aN:=[],aK:=[] }
def ak_:fZ:=(.seq .nil (.seq (.seq (.meet false ⟨[(0,.keep),(21,.sl q4)],[]⟩ .nil) j0) (.seq (.seq .nil (.meet true ⟨[],[]⟩ (.loop ⟨[(0,.keep),(3,.sl q22)],[]⟩ (.seq j0 (.seq (.seq (.seq (.meet false ⟨kS [0,3] [(45,.sl q4)],[]⟩ .nil) j0) .nil) .nil))))) .nil)))
def ala:bZ:={ aZ:=1,pin:=⟨[(0,QX)],[]⟩,aF:=⟨[(0,q4)],[]⟩,bY:=1,aN:=[],aK:=[] }
def alb:fZ:=j0
def ahk:bZ:={ aZ:=1,pin:=⟨[(0,q13)],[(50000,q6)]⟩,aF:=⟨[(0,q24)],[(50000,q2)]⟩,bY:=1,aN:=[50000],aK:=[] }
def alc:fZ:=j7
def ahl:bZ:={ aZ:=1,pin:=⟨[(0,q13)],[(50000,q6)]⟩,aF:=⟨[(0,q24)],[(50000,q2)]⟩,bY:=1,aN:=[50000],aK:=[] }
def ald:fZ:=j7
def ahm:bZ:={ aZ:=1,pin:=⟨[(0,q13)],[(50000,q6)]⟩,aF:=⟨[(0,q24)],[(50000,q2)]⟩,bY:=1,aN:=[50000],aK:=[] }
def ale:fZ:=(.seq .nil (.seq .nil (.seq j8 .nil)))
def ahn:bZ:={ aZ:=1,pin:=⟨[(0,q13)],[(50000,q6)]⟩,aF:=⟨[(0,q24)],[(50000,q2)]⟩,bY:=1,aN:=[50000],aK:=[] }
def alf:fZ:=j14
def aho:bZ:={ aZ:=1,pin:=⟨[(0,q13)],[(50000,q6)]⟩,aF:=⟨[(0,q24)],[(50000,q2)]⟩,bY:=1,aN:=[50000],aK:=[] }
def alg:fZ:=j14
def ahp:bZ:={ aZ:=1,pin:=⟨[(0,q13)],[(50000,q6)]⟩,aF:=⟨[(0,q24)],[(50000,q2)]⟩,bY:=1,aN:=[50000],aK:=[] }
def alh:fZ:=(.seq .nil (.seq j8 .nil))
def ahq:bZ:={ aZ:=1,pin:=⟨[(0,q13)],[(50000,q6)]⟩,aF:=⟨[(0,q24)],[(50000,q2)]⟩,bY:=1,aN:=[50000],aK:=[] }
def ali:fZ:=(.seq .nil (.seq .nil (.seq .nil (.seq (.meet false ⟨kS [2,4] [],[(50000,.ob q2),(2,.keep),(4,.ob q29)]⟩ (.loop ⟨kS [0,2,3,4] [],lO [(50000,.ob q2)] (kO [2,3] [(4,.ob q29)])⟩ (.seq j0 (.seq (.seq .nil (.seq .nil (.seq .nil (.seq (.seq .nil (.meet false ⟨kS [0,2,3,4,5] [(6,.sl (.one (.own 103004)))],lO [(50000,.ob q2)] (kO [2,3,4] [(103004,.ob q28)])⟩ (.seq (.seq .nil (.seq (.meet false j16 (.loop j16 j18)) .nil)) .nil))) (.seq (.meet false ⟨kS [0,2,3,4,5,6] [(47,.sl q4)],kO [50000,2,3,4,103004] []⟩ .nil) (.meet false ⟨kS [0,2,3,4] [],kO [50000,2,3] [(4,.ob (.box [q0,q0,q0,q0,q12,(.own 105004)])),(105004,.ob q28)]⟩ .nil)))))) .nil)))) .nil))))
def ahr:bZ:={ aZ:=1,pin:=⟨[(0,q13)],[(50000,q6)]⟩,aF:=⟨[(0,q24)],[(50000,q2)]⟩,bY:=1,aN:=[50000],aK:=[] }
def alj:fZ:=(.seq .nil (.seq .nil (.seq (.seq (.seq .nil (.seq .nil (.seq .nil (.seq j0 (.seq .nil (.seq (.seq .nil (.seq j2 .nil)) (.seq .nil j8))))))) .nil) j8)))
def alk:bZ:={ aZ:=1,pin:=⟨[(0,q33)],[]⟩,aF:=⟨[(0,(.agg [(.own 60000),(.own 60001)])),(1,q22),(2,q22)],[(60000,(.arr false true false (.st 3))),(60001,q76)]⟩,bY:=3,aN:=[],aK:=[60000,60001] }
def alm:fZ:=(.seq .nil (.seq (.seq (.meet false ⟨kS [1,2] [(20,.sl q4)],kO [1,2] []⟩ .nil) j0) (.seq (.seq (.meet false ⟨kS [1,2] [(42,.sl q4)],kO [1,2] []⟩ .nil) j0) (.seq (.seq .nil (.meet true ⟨kS [1,2] [],kO [1,2] []⟩ (.loop ⟨kS [1,2] [(5,.sl q22)],kO [1,2] []⟩ (.seq j0 j23)))) (.seq (.seq .nil (.meet true ⟨kS [1,2] [],kO [1,2] []⟩ (.loop ⟨kS [1,2] [(6,.sl q22)],kO [1,2] []⟩ (.seq j0 (.seq (.seq (.seq (.meet false ⟨kS [1,2,6] [(89,.sl q4)],kO [1,2] []⟩ .nil) j0) .nil) .nil))))) (.seq .nil (.seq (.seq .nil (.meet true ⟨[(2,.keep)],[(2,.ob (.box [(.own 99),(.own 107003)])),(99,.keep),(107003,.ob q76)]⟩ (.loop ⟨kS [1,2] [(7,.sl q22)],[(1,.keep),(2,.ob (.box [(.own 99),(.own 107003)])),(99,.keep),(107003,.ob q76)]⟩ (.seq j0 (.seq (.seq (.seq .nil (.seq (.seq (.meet false ⟨kS [1,2,7,8] [(128,.sl q4)],kO [1,2,8,99,107003] []⟩ .nil) j0) (.seq (.seq .nil (.meet true ⟨kS [1,2,7,8] [],kO [1,2,8,99,107003] []⟩ (.loop ⟨kS [1,2,7,8] [(9,.sl q22)],kO [1,2,8,99,107003] []⟩ (.seq j0 (.seq (.seq (.seq (.meet false ⟨kS [1,2,7,8,9] [(158,.sl q4)],kO [1,2,8,99,107003] []⟩ .nil) j0) .nil) .nil))))) j25))) .nil) .nil))))) .nil)))))))
def aln:bZ:={ aZ:=1,pin:=⟨[(0,q33)],[]⟩,aF:=⟨[(0,(.agg [q63,(.own 14),(.own 102003),(.own 102004),(.own 15)]))],[(14,q46),(102003,q60),(102004,q35),(15,q61)]⟩,bY:=1,aN:=[],aK:=[14,102003,102004,15] }
def alo:fZ:=(.seq .nil (.seq .nil (.seq (.seq .nil (.meet false ⟨kS [1,2,3] [],kO [1,2,3,14] [(15,.ob q61)]⟩ (.loop ⟨kS [1,2,3,18,19] [(20,.sl q22)],kO [1,2,3,14] [(15,.ob q61)]⟩ (.seq .nil (.seq .nil j18))))) (.seq (.seq .nil (.meet false ⟨kS [2,3] [],[(2,.keep),(3,.ob q73),(14,.ob q46),(102003,.ob q60),(102004,.ob q35),(15,.keep)]⟩ (.loop ⟨kS [2,3,34,35] [(36,.sl q22)],[(2,.keep),(3,.ob q73),(14,.ob q46),(102003,.ob q60),(102004,.ob q35),(15,.keep)]⟩ (.seq .nil (.seq .nil (.seq (.seq (.seq .nil (.seq .nil (.seq .nil (.seq .nil (.seq (.seq .nil (.meet false ⟨kS [2,3,8,9,34,35,36] [],kO [2,3,47] (lO [(48,.ob q46)] (kO [14,102003,102004,15] []))⟩ (.loop ⟨kS [2,3,8,9,34,35,36,49,50] [(51,.sl q22)],kO [2,3,47] (lO [(48,.ob q46)] (kO [14,102003,102004,15] []))⟩ (.seq .nil (.seq .nil j18))))) .nil))))) .nil) .nil)))))) .nil))))
def alp:bZ:={ aZ:=3,pin:=⟨[(0,QX),(1,FB),(2,FB)],[]⟩,aF:=⟨[(0,(.agg [q0,q0,q0,q12])),(1,q22),(2,q4)],[]⟩,bY:=3,aN:=[],aK:=[] }
def alq:fZ:=(.seq .nil (.seq .nil (.seq .nil (.seq (.seq (.seq .nil (.seq (.seq (.meet false j9 (.loop j9 (.seq (.seq (.meet false ⟨kS [0,1,6,9,10] [(43,.sl q4)],kO [6,10] []⟩ .nil) .nil) .nil))) (.seq .nil (.seq (.seq .nil (.meet false ⟨kS [6,9,10] [],[(6,.keep),(10,.ob (.box [q0,q3,q0,q12]))]⟩ .nil)) (.seq (.meet false ⟨[(6,.keep),(7,.sl FB),(8,.sl q4)],[(6,.ob (.box [q0,q3,q0,q12]))]⟩ .nil) .nil)))) (.seq .nil (.seq (.seq (.meet false j9 (.loop j9 (.seq (.seq (.meet false ⟨kS [0,1,6,9,10] [(80,.sl q4)],kO [6,10] []⟩ .nil) .nil) .nil))) (.seq .nil (.seq .nil (.seq .nil (.seq (.seq (.meet false ⟨kS [6,9,10,12] [(124,.sl q4)],kO [6,10] []⟩ .nil) (.meet false ⟨kS [6,9,10] [(12,.sl q4)],kO [6,10] []⟩ .nil)) .nil))))) .nil)))) .nil) (.seq (.seq .nil (.meet true ⟨[(6,.keep)],[(6,.keep)]⟩ (.loop ⟨kS [0,1,6,10] [(13,.sl q22)],kO [6,10] []⟩ (.seq j0 (.seq (.seq (.seq (.meet false ⟨kS [0,1,6,10,13] [(146,.sl q4)],kO [6,10] []⟩ .nil) j18) .nil) .nil))))) .nil)))))
def alr:bZ:={ aZ:=1,pin:=⟨[(0,q13)],[(50000,q6)]⟩,aF:=⟨[(0,(.agg [q12,q0]))],[(50000,q2)]⟩,bY:=1,aN:=[50000],aK:=[] }
def als:fZ:=(.seq .nil (.seq .nil (.seq (.seq .nil (.meet false ⟨kS [0,2,3] [],[(50000,.ob q2),(2,.keep),(3,.ob (.box [q12,q0]))]⟩ (.seq (.seq .nil (.seq (.seq (.meet false ⟨kS [0,2,3,4] [(34,.sl q4)],kO [50000,2,3,4] []⟩ .nil) (.meet false ⟨kS [0,2,3,4] [],lO [(50000,.ob q2)] (kO [2,3,4] [])⟩ .nil)) .nil)) .nil))) j0)))
def alu:bZ:={ aZ:=1,pin:=⟨[(0,q13)],[(50000,q6)]⟩,aF:=⟨[(0,q24)],[(50000,q2)]⟩,bY:=1,aN:=[50000],aK:=[] }
def alv:fZ:=j8
def alx:bZ:={ aZ:=3,pin:=⟨[(0,q33),(1,q75),(2,(.agg [q3,q3]))],[]⟩,aF:=⟨[(0,(.agg [q0,q0,q0,(.own 26)])),(1,q22)],[(26,(.arr false true false (.int .i64)))]⟩,bY:=2,aN:=[],aK:=[26] }
def aly:fZ:=(.seq .nil (.seq .nil (.seq (.meet false ⟨[(6,.keep),(8,.sl (.one (.box 23 0)))],[(6,.keep),(23,.ob (.box [q63,(.p false false (.sl (.mp false .str (.int .i64)))),(.p false false (.sl (.sl (.mp false .str (.int .i64))))),(.p false false (.sl (.int .i64))),(.p false false (.sl (.mp false .str (.sl (.int .i64))))),q14,q0,q0,q0,q0,q0,q0,q0,(.own 100700)])),(100700,.ob q35)]⟩ .nil) (.seq (.seq .nil (.seq .nil (.meet false ⟨kS [6,8] [],[(6,.keep),(23,.ob (.box [q63,(.p true false (.sl (.mp false .str (.int .i64)))),(.p true false (.sl (.sl (.mp false .str (.int .i64))))),q14,(.p true false (.sl (.mp false .str (.sl (.int .i64))))),q14,q0,q0,q0,q0,q0,q0,q0,(.own 26)])),(26,.keep)]⟩ .nil))) .nil))))
def alz:bZ:={ aZ:=1,pin:=⟨[(0,QX)],[]⟩,aF:=⟨[(0,(.one (.own 60000))),(1,q22),(2,q22)],[(60000,q49)]⟩,bY:=3,aN:=[],aK:=[60000] }
def alA:fZ:=(.seq .nil (.seq j1 (.seq .nil (.seq (.seq .nil (.meet true ⟨[(2,.sl q57),(5,.sl q22)],[(100000,.ob q49)]⟩ (.loop ⟨[(0,.keep),(2,.sl q57),(5,.sl q22),(6,.sl q22)],[(100000,.ob q49)]⟩ (.seq j0 (.seq (.seq (.seq .nil (.meet true ⟨[(0,.keep),(2,.sl (.one (.own 107000))),(5,.sl q22),(6,.sl q22)],[(107000,.ob q49)]⟩ (.seq .nil (.seq (.meet false ⟨kS [0,2,5,6] [(42,.sl q4)],[(100000,.keep)]⟩ .nil) (.meet true ⟨[(0,.keep),(2,.sl (.one (.own 106000))),(5,.keep),(6,.sl q22)],[(106000,.ob q49)]⟩ (.seq .nil (.seq .nil (.meet true ⟨[(0,.keep),(2,.sl (.one (.own 105000))),(5,.keep),(6,.sl q22)],[(105000,.ob q49)]⟩ (.seq (.meet false j24 (.loop j24 (.seq (.seq (.meet false ⟨kS [0,2,5,6] [(69,.sl q4)],[(100000,.keep)]⟩ .nil) .nil) .nil))) j2))))))))) .nil) .nil))))) .nil))))
def ahs:bZ:={ aZ:=1,pin:=⟨[(0,q13)],[(50000,q6)]⟩,aF:=⟨[(0,q53)],[(50000,q2),(100001,Yo)]⟩,bY:=1,aN:=[50000],aK:=[100001] }
def alB:fZ:=(.seq .nil (.seq .nil (.seq .nil (.seq (.meet false ⟨[(3,.sl q53)],[(50000,.ob q2),(100001,.ob Yo)]⟩ (.loop ⟨[(0,.keep),(3,.sl q53)],[(50000,.ob q2),(100001,.ob Yo)]⟩ (.seq (.seq (.meet false ⟨kS [0,3] [(15,.sl q4)],[(50000,.ob q2),(100001,.keep)]⟩ .nil) .nil) .nil))) .nil))))
def aht:bZ:={ aZ:=1,pin:=⟨[(0,q13)],[(50000,q6)]⟩,aF:=⟨[(0,(.agg [q0,q0,q12,(.own 107003),(.own 107004),(.own 107005)]))],[(50000,q2),(107003,q28),(107004,Yo),(107005,Yo)]⟩,bY:=1,aN:=[50000],aK:=[107003,107004,107005] }
def alC:fZ:=(.seq .nil (.seq .nil (.seq (.seq (.seq .nil (.meet false ⟨kS [2,3] [],[(50000,.ob q2),(2,.keep),(3,.ob (.box [q0,q0,q12,(.own 107003),(.own 107004),(.own 107005)])),(107003,.ob q28),(107004,.ob Yo),(107005,.ob Yo)]⟩ (.seq j0 (.seq .nil (.meet false ⟨kS [2,3] [],[(50000,.ob q2),(2,.keep),(3,.ob (.box [q0,q0,q12,(.own 106003),(.own 106004),(.own 106005)])),(106003,.ob q28),(106004,.ob Yo),(106005,.ob Yo)]⟩ (.seq (.seq .nil (.seq .nil (.seq .nil (.meet false ⟨kS [2,3] [],lO [(50000,.ob q2),(2,.keep),(3,.ob (.box [q0,q0,q12,(.own 50),(.own 54),(.own 100005)]))] (kO [50,54] [(100005,.ob Yo)])⟩ .nil)))) (.seq .nil (.meet false ⟨kS [2,3] [],[(50000,.ob q2),(2,.keep),(3,.ob (.box [q0,q0,q12,(.own 105003),(.own 105004),.bg])),(105003,.ob q28),(105004,.ob Yo)]⟩ (.seq .nil (.seq .nil (.meet false ⟨kS [2,3] [],[(50000,.ob q2),(2,.keep),(3,.ob (.box [q0,q0,q12,(.own 104003),.bg,.bg])),(104003,.ob q28)]⟩ (.seq .nil (.seq .nil (.meet false ⟨kS [2,3] [],[(50000,.ob q2),(2,.keep),(3,.ob (.box [q0,q0,q12,(.own 103003),.bg,.bg])),(103003,.ob q28)]⟩ (.seq .nil (.seq .nil (.meet false ⟨kS [2,3] [],[(50000,.ob q2),(2,.keep),(3,.ob (.box [q0,q0,q12,(.own 102003),.bg,.bg])),(102003,.ob q28)]⟩ (.seq .nil (.seq .nil (.seq (.seq .nil (.meet false ⟨kS [0,2,3] [],[(50000,.ob q2),(2,.keep),(3,.ob (.box [q0,q0,q12,(.own 101003),.bg,.bg])),(101003,.ob q28)]⟩ j0)) .nil)))))))))))))))))))) .nil) .nil)))
def alD:bZ:={ aZ:=1,pin:=⟨[(0,q13)],[(50000,q6)]⟩,aF:=⟨[(0,(.agg [q12,q0,(.own 102003),(.own 34)]))],[(50000,q2),(102003,q62),(34,Yo)]⟩,bY:=1,aN:=[50000],aK:=[102003,34] }
def alE:fZ:=(.seq .nil (.seq .nil (.seq .nil (.seq (.seq .nil (.meet false ⟨kS [0,2,3] [],[(50000,.ob q2),(2,.keep),(3,.ob (.box [q12,q0,(.own 102003),.bg])),(102003,.ob q62)]⟩ (.seq (.seq .nil (.seq (.meet false j15 (.loop j15 j18)) .nil)) .nil))) j0))))
def alF:bZ:={ aZ:=1,pin:=⟨[(0,q13)],[(50000,q6)]⟩,aF:=⟨[(0,(.agg [(.own 100003),(.own 100004)]))],[(50000,q2),(100003,q58),(100004,q23)]⟩,bY:=1,aN:=[50000],aK:=[100003,100004] }
def alG:fZ:=(.seq .nil (.seq .nil (.seq (.meet false ⟨kS [2,3] [],[(50000,.ob q6),(2,.keep),(3,.ob (.box [(.own 100003),(.own 100004)])),(100003,.ob q58),(100004,.ob q23)]⟩ (.loop ⟨kS [0,2,3] [],[(50000,.ob q6),(2,.keep),(3,.ob (.box [(.own 100003),(.own 100004)])),(100003,.ob q58),(100004,.ob q23)]⟩ (.seq (.seq (.meet false ⟨kS [0,2,3] [(16,.sl q4)],lO [(50000,.ob q6)] (kO [2,3,100003,100004] [])⟩ .nil) .nil) (.meet false ⟨kS [0,2,3] [],[(50000,.ob q2),(2,.keep),(3,.ob (.box [(.own 102003),(.own 102004)])),(102003,.ob q58),(102004,.ob q23)]⟩ (.seq j1 j8))))) .nil)))
def alH:bZ:={ aZ:=1,pin:=⟨[(0,QX)],[]⟩,aF:=⟨[(0,(.agg [(.own 60000),(.own 60001)])),(1,q22),(2,q22)],[(60000,q58),(60001,(.arr false false false (.st 4)))]⟩,bY:=3,aN:=[],aK:=[60000,60001] }
def alI:fZ:=(.seq .nil (.seq .nil (.seq j1 (.seq (.meet false ⟨[(2,.keep),(6,.sl (.one (.box 20 0)))],[(2,.keep),(20,.ob (.box [(.p false false (.sl (.st 13))),q0,(.p false false .bool),q0]))]⟩ .nil) j25))))
def sg7:bZ:={ aZ:=0,pin:=⟨[],[]⟩,aF:=⟨[(0,q4)],[]⟩,bY:=1,aN:=[],aK:=[] }
def an7:fZ:=(.seq .nil (.seq .nil (.seq .nil (.seq .nil (.seq (.meet false ⟨[(0,.sl q4)],[]⟩ .nil) .nil)))))
def sg6:bZ:={ aZ:=3,pin:=⟨[(0,q47),(1,q47),(2,(.one q65))],[]⟩,aF:=⟨[(0,q4)],[]⟩,bY:=1,aN:=[],aK:=[] }
def an6:fZ:=(.seq .nil (.seq (.seq (.meet false ⟨kS [2,3,4] [(26,.sl q4)],kO [3,4] []⟩ .nil) (.seq j22 .nil)) (.seq .nil (.seq .nil (.seq (.seq .nil (.seq (.seq .nil (.meet false j13 (.seq .nil (.seq .nil (.meet false j13 (.seq .nil (.seq .nil (.meet false j13 (.seq .nil (.seq .nil (.meet false j13 .nil))))))))))) .nil)) (.seq (.seq .nil (.meet true ⟨[(3,.keep)],[(3,.keep)]⟩ (.loop ⟨kS [3,4,8,82,83] [(84,.sl q22)],kO [3,4,8,82] []⟩ (.seq .nil (.seq .nil (.seq (.seq (.seq .nil (.seq .nil (.meet true ⟨kS [3,4,8,82,83,84] [],kO [3,4,8,82] []⟩ (.loop ⟨kS [3,4,8,10,82,83,84,91,92] [(93,.sl q22)],kO [3,4,8,10,82,91] []⟩ (.seq .nil (.seq .nil (.seq (.seq (.seq .nil (.seq (.meet false ⟨kS [3,4,8,10,82,83,84,91,92,93] [(112,.sl q4)],kO [3,4,8,10,82,91] []⟩ .nil) j0)) .nil) .nil))))))) .nil) .nil)))))) j22))))))
end Go.Fg.Ytpbdikcmfgeooaa

