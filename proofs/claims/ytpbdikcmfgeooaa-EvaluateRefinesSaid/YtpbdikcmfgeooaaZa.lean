/-
  The framework (a machine on plain data that answers as the program does), part 1.
-/
import Derived.WalkKit
import Derived.Laws.StructEq
import Derived.ChangeKeysEq
import Derived.MapKept
import Derived.Lib.ConvBytes
import Derived.Laws.AppendOwn
import Derived.Laws.BytesString
set_option linter.unusedSimpArgs false
set_option linter.unusedVariables false
set_option linter.unusedSectionVars false
namespace Go.Fw
set_option linter.unusedSectionVars false
inductive P where
 |int (k:IntKind) (n:Int)
 |bool (b:Bool)
 |str (s:ByteArray)
 |sl (sz:Nat) (l:List (List P))
 |opq (v:Value)
 |seq (l:List (List P))
 |mp (sz:Nat) (l:List (List P))
instance:Inhabited P:=⟨.bool false⟩
def MB:Nat:=1000000
def rw (sz:Nat):Nat:=if sz<MB then sz else sz % MB
theorem J4 {sz:Nat} (h:sz<MB):rw sz=sz:=if_pos h
def Value.Gn:Value→Bool
 |.agg _=>true
 |_=>false
def Jy (es:Array MapEntry) (n j:Nat):Option Value:=match es[n]? with
 |some e=>(e.key::e.val.cells.toList)[j]?
 |none=>none
def Gp (sz len:Nat) (es:Array MapEntry):Prop:=MB≤sz∧es.size=len∧∀(n:Nat) e,es[n]?=some e→Value.Gn e.val=decide (2*MB≤sz)∧e.val.cells.size+1=rw sz
class dA where
 gt:Nat→Option (Nat×List (List P))
 sq:World→List Nat→List (List P)→Value→Prop
 Uz :∀{w w':World} {S:List Nat} {l:List (List P)} {v:Value},(∀b∈S,w'.heap[b]?=w.heap[b]?)→sq w S l v→sq w' S l v
variable [dA]
def dA.has (g:Nat):Prop:=(dA.gt g).isSome=true
inductive aU (w:World) (ok:Nat→Prop):P→Value→Prop where
 |int (k:IntKind) (n:Int):aU w ok (.int k n) (.int k n)
 |bool (b:Bool):aU w ok (.bool b) (.bool b)
 |str (s:ByteArray):aU w ok (.str s) (.string s)
 |opq (v:Value) (h:v.oneCell'=true):aU w ok (.opq v) v
 |nil (sz:Nat) (ao:Option Addr) (cap:Nat):aU w ok (.sl sz []) (.slice ao 0 cap)
 |sl (sz:Nat) (l:List (List P)) (a:Addr) (cap:Nat) (f:Nat→Nat→Value) (hs:a.spot=none) (hok:0<sz→ok a.block) (hcap:l.length≤cap)
   (hlen :∀x∈l,x.length=sz)
   (hc :∀(i:Nat) x,l[i]?=some x→∀(j:Nat) y,x[j]?=some y→w.cell? ⟨a.block,a.off+i*sz+j,none⟩=some (f i j))
   (hr :∀(i:Nat) x,l[i]?=some x→∀(j:Nat) y,x[j]?=some y→aU w ok y (f i j)):aU w ok (.sl sz l) (.slice (some a) l.length cap)
 |mp (sz:Nat) (l:List (List P)) (r:Nat) (es:Array MapEntry) (ck:Nat) (f:Nat→Nat→Value) (hok:ok r) (hb:w.heap[r]?=some (.map es ck)) (he:Gp sz l.length es) (hlen :∀x∈l,x.length=rw sz)
   (hc :∀(i:Nat) x,l[i]?=some x→∀(j:Nat) y,x[j]?=some y→Jy es i j=some (f i j))
   (hr :∀(i:Nat) x,l[i]?=some x→∀(j:Nat) y,x[j]?=some y→aU w ok y (f i j)):aU w ok (.mp sz l) (.map (some r))
 |seq (l:List (List P)) (v:Value) (S:List Nat) (hv:v.oneCell'=true) (hS :∀b∈S,ok b∧∃c e f,w.heap[b]?=some (.cells c e f)) (h:dA.sq w S l v):aU w ok (.seq l) v
theorem aU.mono {w w':World} {ok ok':Nat→Prop} (h :∀b,ok b→ok' b∧w'.heap[b]?=w.heap[b]?) {x:P} {v:Value} (r:aU w ok x v):aU w' ok' x v:=by
 induction r with
 |int k n=>exact .int k n
 |bool b=>exact .bool b
 |str s=>exact .str s
 |opq v h=>exact .opq v h
 |nil sz ao cap=>exact .nil sz ao cap
 |sl sz l a cap f hs hok hcap hlen hc hr ih=>
  refine .sl sz l a cap f hs (fun h0=>(h _ (hok h0)).1) hcap hlen (fun i x hx j y hy => ?_) (fun i x hx j y hy=>ih i x hx j y hy)
  rw [←hc i x hx j y hy]
  have h0:0<sz:=by
   have:=hlen x (List.mem_of_getElem? hx)
   have:=(List.getElem?_eq_some_iff.1 hy).1
   omega
  exact World.cell?_of_block (w:=w) (h _ (hok h0)).2
 |mp sz l r es ck f hok hb he hlen hc hr ih=>exact .mp sz l r es ck f (h _ hok).1 ((h _ hok).2.trans hb) he hlen hc (fun i x hx j y hy=>ih i x hx j y hy)
 |seq l v S hv hS hq=>exact .seq l v S hv (fun b hb=>⟨(h b (hS b hb).1).1,by rw [(h b (hS b hb).1).2];exact (hS b hb).2⟩) (dA.Uz (fun b hb=>(h b (hS b hb).1).2) hq)
theorem aU.oneCell {w:World} {ok:Nat→Prop} {x:P} {v:Value} (r:aU w ok x v):v.oneCell'=true:=by
 cases r<;>first | rfl | assumption
def P.dX (sz:Nat) (l:List (List P)):P:=bif Nat.ble MB sz then .mp sz l else match l with
 | []=>.sl 0 []
 |x::l=>.sl sz (x::l)
theorem P.jU {sz:Nat} {l:List (List P)} (h:sz<MB):P.dX sz l=match l with
 | []=>.sl 0 []
 |x::l=>.sl sz (x::l):=by
 unfold P.dX
 have:Nat.ble MB sz=false:=by cases e:Nat.ble MB sz<;>first | rfl | (have:=Nat.le_of_ble_eq_true e;omega)
 rw [this];rfl
theorem P.FK {sz:Nat} {l:List (List P)} (h:MB≤sz):P.dX sz l=.mp sz l:=by
 unfold P.dX
 rw [Nat.ble_eq_true_of_le h];rfl
theorem aU.dX {w:World} {ok:Nat→Prop} {sz:Nat} {l:List (List P)} {v:Value} (hlt:sz<MB) (h:aU w ok (.sl sz l) v):aU w ok (P.dX sz l) v:=by
 rw [P.jU hlt]
 cases l with
 |cons x l=>exact h
 |nil=>cases h with
  |nil _ ao cap=>exact .nil 0 ao cap
  |sl _ _ a cap f=>exact .nil 0 _ cap
inductive W where
 |p (a i:Bool) (x:P)
 |bg
 |own (g:Nat)
 |vw (g:Nat) (lo hi:P)
 |box (g off:Nat)
 |ep (g:Nat) (n:P) (off:Nat)
 |sp (a i:Bool) (row:List P) (off:Nat)
 |gl (g:Nat)
 |lQ (g:Nat)
 |gd (b:Bool) (x:W)
 |clo (f:FuncId) (caps:List W)
 |no
instance:Inhabited W:=⟨.no⟩
inductive O where
 |none
 |box (ws:List W)
 |arr (fz a i:Bool) (sz:Nat) (l:List (List P))
 |it (s n:P)
 |ay (a i:Bool) (sz:Nat) (ah:List (Nat×Nat)) (l:List (List P)) (hole:Option (Nat×Nat×Nat))
def O.aX:O→Bool
 |.none=>false
 |.box _=>true
 |.arr fz _ _ _ _=>!fz
 |.it _ _=>true
 |.ay _ _ _ _ _ _=>true
def O.mY:O→Bool
 |.ay _ _ _ _ _ _=>true
 |_=>false
def ml (sz:Nat) (l:List (List P)):Nat:=if sz<MB then l.length else 0
theorem fB {sz:Nat} {l:List (List P)} (h:sz<MB):ml sz l=l.length:=if_pos h
def O.dim:O→Option (Nat×Nat)
 |.arr _ _ _ sz l=>some (sz,ml sz l)
 |.ay _ _ sz _ l _=>some (sz,ml sz l)
 |_=>Option.none
def O.inner:O→Option Bool
 |.arr false _ i _ _=>some i
 |.ay _ i _ _ _ _=>some i
 |_=>Option.none
inductive V where
 |one (x:W)
 |agg (xs:List W)
inductive S where
 |v (x:V)
 |jH (xs:List V)
 |no
structure St where
 s:Nat→S
 o:Nat→O
 used:Nat→Bool
structure Gh where
 ad:Option Addr
 cap:Nat
 sub:Nat→Option (Nat×Nat)
def Gh.nil:Gh:=⟨none,0,fun _=>none⟩
def hdl (sz:Nat) (ad:Option Addr) (len cap:Nat):Value:=if sz<MB then .slice ad len cap else .map (ad.map (·.block))
theorem fD {sz:Nat} {ad:Option Addr} {len cap:Nat} (h:sz<MB):hdl sz ad len cap=.slice ad len cap:=if_pos h
theorem Gq {sz:Nat} {ad:Option Addr} {len cap:Nat} (h:MB≤sz):hdl sz ad len cap=.map (ad.map (·.block)):=if_neg (Nat.not_lt.2 h)
theorem FM {sz:Nat} {ad:Option Addr} {len cap:Nat}:(hdl sz ad len cap).oneCell'=true:=by unfold hdl;split<;>rfl
def Gh.has (G:Gh) (b:Nat):Prop:=(∃ad,G.ad=some ad∧ad.block=b)∨(G.sub b).isSome=true
theorem Gh.jk {G:Gh} {ad:Addr} (h:G.ad=some ad):G.has ad.block:=.inl ⟨ad,h,rfl⟩
theorem Gh.not_nil {b:Nat} (h:Gh.nil.has b):False:=by
 rcases h with ⟨ad,h,_⟩ | h
 ·cases h
 ·cases h
structure Env where
 FA:Nat→Prop
 FI:Nat→Prop
 B0:Nat
 w0:World
 Wr:Nat→Prop
 hg :∀g sz rows,dA.gt g=some (sz,rows)→g<B0∧¬ Wr g∧∀(n:Nat) x,rows[n]?=some x→x.length=sz∧∀(j:Nat) y,x[j]?=some y→∃u,w0.cell? ⟨g,n*sz+j,none⟩=some u∧aU w0 (fun _=>False) y u
theorem Env.Yt (E:Env) {b:Nat} (h:dA.has b):b<E.B0∧¬ E.Wr b:=by
 unfold dA.has at h
 cases hg:dA.gt b with
 |none=>rw [hg] at h;cases h
 |some x=>obtain ⟨sz,rows⟩:=x;exact ⟨(E.hg b sz rows hg).1,(E.hg b sz rows hg).2.1⟩
def Env.ok (E:Env) (st:St) (gh:Nat→Gh) (w:World) (a i:Bool) (b:Nat):Prop:=
 ((a=true∧E.FA b)∨(i=true∧(E.FI b∨E.Wr b))∨E.B0≤b∨dA.has b)∧b<w.heap.size∧∀g,(st.o g).aX=true→¬ (gh g).has b
inductive dP (E:Env) (st:St) (gh:Nat→Gh) (w:World):W→Value→Prop where
 |p (a i:Bool) (x:P) (v:Value) (h:aU w (E.ok st gh w a i) x v):dP E st gh w (.p a i x) v
 |bg:dP E st gh w .bg (.slice none 0 0)
 |own (g:Nat) (v:Value) (hv:v.oneCell'=true) (h :∀sz len,(st.o g).dim=some (sz,len)→v=hdl sz (gh g).ad len (gh g).cap):dP E st gh w (.own g) v
 |vw (g:Nat) (lo hi:P) (v:Value) (hv:v.oneCell'=true) (h :∀sz len,(st.o g).dim=some (sz,len)→∃n m c:Nat,lo=.int .i64 n∧hi=.int .i64 m∧n≤m∧m≤len∧(m-n≤c∧n+c≤(gh g).cap)∧
   v=.slice (if (gh g).cap=n then (gh g).ad else (gh g).ad.map (·.add (n*sz))) (m-n) c):dP E st gh w (.vw g lo hi) v
 |box (g off:Nat) (v:Value) (hv:v.oneCell'=true) (h :∀ws,st.o g=.box ws→∃ad,(gh g).ad=some ad∧v=.pointer (some ⟨ad.block,ad.off+off,none⟩)):dP E st gh w (.box g off) v
 |ep (g:Nat) (n:P) (off:Nat) (v:Value) (hv:v.oneCell'=true) (h :∀sz len,(st.o g).dim=some (sz,len)→∃(ad:Addr) (k:Nat),(gh g).ad=some ad∧n=.int .i64 k∧k<len∧v=.pointer (some ⟨ad.block,ad.off+k*sz+off,none⟩)):dP E st gh w (.ep g n off) v
 |sp (a i:Bool) (row:List P) (off:Nat) (b o:Nat) (hb:row≠[]→E.ok st gh w a i b) (h :∀(j:Nat) y,row[j]?=some y→∃u,w.cell? ⟨b,o+j,none⟩=some u∧aU w (E.ok st gh w a i) y u) :
   dP E st gh w (.sp a i row off) (.pointer (some ⟨b,o+off,none⟩))
 |gl (g:Nat):dP E st gh w (.gl g) (.pointer (some ⟨g,0,none⟩))
 |lQ (g:Nat) (v:Value) (hv:v.oneCell'=true) (h :∀s n,st.o g=.it s n→∃ad,(gh g).ad=some ad∧v=.pointer (some ⟨ad.block,0,none⟩)):dP E st gh w (.lQ g) v
 |gd (b:Bool) (x:W) (v:Value) (h:b=true→dP E st gh w x v):dP E st gh w (.gd b x) v
 |clo (f:FuncId) (caps:List W) (vs:List Value) (hl:caps.length=vs.length) (h :∀(j:Nat) x v,caps[j]?=some x→vs[j]?=some v→dP E st gh w x v) :
   dP E st gh w (.clo f caps) (.func (.func f) #[] vs.toArray)
 |no (v:Value):dP E st gh w .no v
def W.names:W→List Nat
 |.own g | .vw g _ _ | .box g _ | .ep g _ _ | .lQ g=>[g]
 |.gd _ x=>x.names
 |.clo _ caps=>caps.attach.flatMap fun ⟨x,_⟩=>x.names
 |_=>[]
def V.names:V→List Nat
 |.one x=>x.names
 |.agg xs=>xs.flatMap W.names
def S.names:S→List Nat
 |.v x=>x.names
 |.jH xs=>xs.flatMap V.names
 |.no=>[]
def bn:Option (Nat×Nat×Nat)→List Nat
 |some (_,_,d)=>[d]
 |none=>[]
def O.names:O→List Nat
 |.box ws=>ws.flatMap W.names
 |.ay _ _ _ _ _ hole=>bn hole
 |_=>[]
inductive qK (E:Env) (st:St) (gh:Nat→Gh) (w:World):V→Value→Prop where
 |one (x:W) (v:Value) (h:dP E st gh w x v):qK E st gh w (.one x) v
 |agg (xs:List W) (cs:List Value) (hl:xs.length=cs.length) (hv :∀c∈cs,c.oneCell'=true) (h :∀(j:Nat) x v,xs[j]?=some x→cs[j]?=some v→dP E st gh w x v):qK E st gh w (.agg xs) (.agg cs.toArray)
inductive bD (E:Env) (st:St) (gh:Nat→Gh) (w:World):S→Value→Prop where
 |v (x:V) (v:Value) (h:qK E st gh w x v):bD E st gh w (.v x) v
 |jH (xs:List V) (vs:List Value) (hl:xs.length=vs.length) (h :∀(j:Nat) x v,xs[j]?=some x→vs[j]?=some v→qK E st gh w x v):bD E st gh w (.jH xs) (.tuple vs.toArray)
 |no (v:Value):bD E st gh w .no v
def Fits (sz off cap len:Nat):Obj→Prop
 |.cells c _ f=>sz<MB∧f=(0,0)∧off+cap*sz≤c.size∧(len≤cap∧cap≤9223372036854775807)
 |.map es _=>Gp sz len es
 |_=>False
def vM (sz off n j:Nat):Obj→Option Value
 |.cells c _ _=>c[off+n*sz+j]?
 |.map es _=>Jy es n j
 |_=>none
theorem Fits.lt {sz off cap len:Nat} {ob:Obj} (h:Fits sz off cap len ob) (hlt:sz<MB) :∃c e,ob=.cells c e (0,0)∧off+cap*sz≤c.size∧(len≤cap∧cap≤9223372036854775807):=by
 cases ob with
 |cells c e f=>obtain ⟨_,rfl,h1,h2⟩:=h;exact ⟨c,e,rfl,h1,h2⟩
 |map es ck=>exact absurd hlt (Nat.not_lt.2 h.1)
 |_=>exact h.elim
theorem Fits.ge {sz off cap len:Nat} {ob:Obj} (h:Fits sz off cap len ob) (hge:MB≤sz) :∃es ck,ob=.map es ck∧Gp sz len es:=by
 cases ob with
 |cells c e f=>exact absurd h.1 (Nat.not_lt.2 hge)
 |map es ck=>exact ⟨es,ck,rfl,h⟩
 |_=>exact h.elim
def dw (E:Env) (st:St) (gh:Nat→Gh) (w:World) (a i:Bool) (sz:Nat) (l:List (List P)) (G:Gh):Prop:=
 (G.ad=none∧G.cap=0∧l=[]∧sz<MB)∨
 ∃ad ob,G.ad=some ad∧ad.spot=none∧w.heap[ad.block]?=some ob∧Fits sz ad.off G.cap l.length ob∧(∀x∈l,x.length=rw sz)∧
  ∀(n:Nat) x,l[n]?=some x→∀(j:Nat) y,x[j]?=some y→∃v,vM sz ad.off n j ob=some v∧aU w (E.ok st gh w a i) y v
def yM (E:Env) (st:St) (gh:Nat→Gh) (w:World) (ws:List W) (G:Gh):Prop:=
 ∃ad c e,G.ad=some ad∧ad.spot=none∧w.heap[ad.block]?=some (.cells c e (0,0))∧ad.off+ws.length≤c.size∧
  ∀(j:Nat) x,ws[j]?=some x→∃v,c[ad.off+j]?=some v∧v.oneCell'=true∧dP E st gh w x v
def yN (E:Env) (st:St) (gh:Nat→Gh) (w:World) (a i:Bool) (G:Gh) (sz' n j:Nat) (y:P) (v:Value):Prop:=
 ∃(l':List (List P)) (ao:Option Addr) (k:Nat),y=P.dX sz' l'∧v=hdl sz' ao (ml sz' l') k∧dw E st gh w a i sz' l' ⟨ao,k,fun _=>none⟩ ∧∀ad,ao=some ad→G.sub ad.block=some (n,j)
def fM (hole:Option (Nat×Nat×Nat)) (n j:Nat):Option Nat:=match hole with
 |some (n',j',d)=>if n'=n∧j'=j then some d else none
 |none=>none
def gB (E:Env) (st:St) (gh:Nat→Gh) (w:World) (a i:Bool) (G:Gh) (ah:List (Nat×Nat)) (hole:Option (Nat×Nat×Nat)) (n j:Nat) (y:P) (v:Value):Prop:=
 match ah.lookup j with
 |none=>aU w (E.ok st gh w a i) y v
 |some sz'=>match fM hole n j with
  |some d=>v.oneCell'=true∧dP E st gh w (.own d) v
  |none=>yN E st gh w a i G sz' n j y v
def blk:Obj→Bool
 |.cells _ _ _=>true
 |.map _ _=>true
 |_=>false
theorem Fits.blk {sz off cap len:Nat} {ob:Obj} (h:Fits sz off cap len ob):Fw.blk ob=true:=by
 cases ob<;>first | rfl | exact h.elim
def dY (E:Env) (st:St) (gh:Nat→Gh) (w:World) (a i:Bool) (sz:Nat) (ah:List (Nat×Nat)) (l:List (List P)) (hole:Option (Nat×Nat×Nat)) (G:Gh):Prop:=
 (G.ad=none∧G.cap=0∧l=[]∧(∀b,G.sub b=none)∧sz<MB)∨
 ∃ad ob,G.ad=some ad∧ad.spot=none∧w.heap[ad.block]?=some ob∧Fits sz ad.off G.cap l.length ob∧(∀x∈l,x.length=rw sz)∧
  (G.sub ad.block=none∧∀b,(G.sub b).isSome=true→∃ob,w.heap[b]?=some ob∧blk ob=true)∧
  ∀(n:Nat) x,l[n]?=some x→∀(j:Nat) y,x[j]?=some y→∃v,vM sz ad.off n j ob=some v∧gB E st gh w a i G ah hole n j y v
def Yu (sz:Nat) (l:List (List P)):P:=if sz<MB then .sl sz l else .mp sz l
theorem Ce {sz:Nat} {l:List (List P)} (h:sz<MB):Yu sz l=.sl sz l:=if_pos h
theorem Ro {sz:Nat} {l:List (List P)} (h:MB≤sz):Yu sz l=.mp sz l:=if_neg (Nat.not_lt.2 h)
theorem aU.ofO {w:World} {ok:Nat→Prop} {sz:Nat} {l:List (List P)} {v:Value} (h:aU w ok (Yu sz l) v):aU w ok (P.dX sz l) v:=by
 by_cases hlt:sz<MB
 ·rw [Ce hlt] at h;exact .dX hlt h
 ·rw [Ro (Nat.not_lt.1 hlt)] at h;rw [P.FK (Nat.not_lt.1 hlt)];exact h
def kF (E:Env) (st:St) (gh:Nat→Gh) (w:World) (o:O) (G:Gh):Prop:=
 match o with
 |.none=>True
 |.box ws=>yM E st gh w ws G
 |.arr false a i sz l=>dw E st gh w a i sz l G
 |.arr true a i sz l=>aU w (E.ok st gh w a i) (Yu sz l) (hdl sz G.ad (ml sz l) G.cap)
 |.ay a i sz ah l hole=>dY E st gh w a i sz ah l hole G
 |.it s n =>∃(ad:Addr) (bs:ByteArray) (k:Nat),G.ad=some ad∧s=.str bs∧n=.int .i64 k∧w.heap[ad.block]?=some (.stringIter bs k)
structure Rel (E:Env) (st:St) (gh:Nat→Gh) (val:Nat→Value) (w:World):Prop where
 slots :∀t,bD E st gh w (st.s t) (val t)
 aJ :∀g,kF E st gh w (st.o g) (gh g)
 inj :∀g g' b,(st.o g).aX=true→(st.o g').aX=true→(gh g).has b→(gh g').has b→g=g'
 wr :∀g b,(st.o g).aX=true→(gh g).has b→(E.B0≤b∨E.Wr b)∧b<w.heap.size
 wi :∀g i b,(st.o g).inner=some i→(gh g).has b→E.Wr b→i=true
 ns :∀g,(st.o g).aX=true→(st.o g).mY=false→∀b,(gh g).sub b=none
 wb :∀b,E.Wr b→b<E.B0
 frame :∀b,b<E.B0→¬ E.Wr b→w.heap[b]?=E.w0.heap[b]?
 size:E.B0≤w.heap.size
 os:w.os=E.w0.os
 tape:w.tape=E.w0.tape
 output:w.output=E.w0.output
 us :∀t,∀g∈(st.s t).names,st.used g=true
 uo :∀g,∀g'∈(st.o g).names,st.used g'=true
 ul :∀g,st.o g≠.none→st.used g=true
def O.like (o o':O):Prop:=
 match o,o' with
 |_,.none=>True
 |.box _,.box _=>True
 |.arr _ _ _ sz l,.arr _ _ _ sz' l'=>sz=sz'∧ml sz l=ml sz' l'
 |.ay _ _ sz _ l _,.ay _ _ sz' _ l' _=>sz=sz'∧ml sz l=ml sz' l'
 |.ay _ _ sz _ l _,.arr _ _ _ sz' l'=>sz=sz'∧ml sz l=ml sz' l'
 |.it _ _,.it _ _=>True
 |_,_=>False
theorem O.dM (o:O):o.like o:=by cases o<;>simp [O.like]
theorem O.iq {o:O} {fz a i:Bool} {sz:Nat} {l:List (List P)} (h:o=.arr fz a i sz l):o.dim=some (sz,ml sz l):=by rw [h];rfl
theorem O.iG {fz a i:Bool} {sz sz' len:Nat} {l:List (List P)} (h:(O.arr fz a i sz l).dim=some (sz',len)):sz=sz'∧ml sz l=len:=by
 simpa [O.dim] using h
theorem O.Af {o o':O} (h:o.like o') {x:Nat×Nat} (hd:o'.dim=some x):o.dim=some x:=by
 cases o'<;>cases o<;>simp only [O.like,O.dim] at * <;> first | (exact h.elim) | (obtain ⟨h1,h2⟩:=h;rw [←hd,h2,h1]) | (cases hd)
theorem O.Yv {o o':O} (h:o.like o') {ws:List W} (hd:o'=.box ws) :∃ws',o=.box ws':=by
 subst hd;cases o<;>first | exact h.elim | exact ⟨_,rfl⟩
theorem O.abq {o o':O} (h:o.like o') {s n:P} (hd:o'=.it s n) :∃s' n',o=.it s' n':=by
 subst hd;cases o<;>first | exact h.elim | exact ⟨_,_,rfl⟩
structure Lets (E:Env) (st st':St) (gh aQ:Nat→Gh) (w w':World):Prop where
 ok :∀a i b,E.ok st gh w a i b→E.ok st' aQ w' a i b∧w'.heap[b]?=w.heap[b]?
 names :∀g,st.used g=true→st'.o g=.none∨(((aQ g).ad=(gh g).ad∧(aQ g).cap=(gh g).cap)∧(st.o g).like (st'.o g))
section
variable {E:Env} {st st':St} {gh aQ:Nat→Gh} {w w':World}
theorem Lets.iY (h:Lets E st st' gh aQ w w') {a i:Bool} {x:P} {v:Value} (r:aU w (E.ok st gh w a i) x v):aU w' (E.ok st' aQ w' a i) x v:=
 r.mono (h.ok a i)
theorem yO {f:FuncId} {caps:List W} {j:Nat} {x:W} (hx:caps[j]?=some x) {g:Nat} (hg:g∈x.names):g∈(W.clo f caps).names:=by
 unfold W.names
 rw [List.mem_flatMap]
 exact ⟨⟨x,List.mem_of_getElem? hx⟩,List.mem_attach _ _,hg⟩
theorem Lets.y9 (h:Lets E st st' gh aQ w w') {x:W} {v:Value} (hu :∀g∈x.names,st.used g=true) (r:dP E st gh w x v):dP E st' aQ w' x v:=by
 induction r with
 |p a i x v hx=>exact .p a i x v (h.iY hx)
 |bg=>exact .bg
 |own g v hv hx=>
  refine .own g v hv fun sz len hl => ?_
  rcases h.names g (hu g (by simp [W.names])) with hn | ⟨hg,hk⟩
  ·rw [hn] at hl;cases hl
  ·rw [hg.1,hg.2];exact hx _ _ (O.Af hk hl)
 |vw g lo hi v hv hx=>
  refine .vw g lo hi v hv fun sz len hl => ?_
  rcases h.names g (hu g (by simp [W.names])) with hn | ⟨hg,hk⟩
  ·rw [hn] at hl;cases hl
  ·rw [hg.1,hg.2];exact hx _ _ (O.Af hk hl)
 |box g off v hv hx=>
  refine .box g off v hv fun ws hl => ?_
  rcases h.names g (hu g (by simp [W.names])) with hn | ⟨hg,hk⟩
  ·rw [hn] at hl;cases hl
  ·obtain ⟨ws',ho⟩:=O.Yv hk hl
   rw [hg.1];exact hx _ ho
 |ep g n off v hv hx=>
  refine .ep g n off v hv fun sz len hl => ?_
  rcases h.names g (hu g (by simp [W.names])) with hn | ⟨hg,hk⟩
  ·rw [hn] at hl;cases hl
  ·rw [hg.1];exact hx _ _ (O.Af hk hl)
 |sp a i row off b o hb hx=>exact .sp a i row off b o (fun h0=>(h.ok a i b (hb h0)).1) fun j y hj=>let ⟨u,hu,hr⟩:=hx j y hj;⟨u,(World.cell?_of_block (w:=w) (h.ok a i b (hb fun e=>by rw [e] at hj;simp at hj)).2).trans hu,h.iY hr⟩
 |gl g=>exact .gl g
 |lQ g v hv hx=>
  refine .lQ g v hv fun s n hl => ?_
  rcases h.names g (hu g (by simp [W.names])) with hn | ⟨hg,hk⟩
  ·rw [hn] at hl;cases hl
  ·obtain ⟨s',n',ho⟩:=O.abq hk hl
   rw [hg.1];exact hx _ _ ho
 |gd b x v hx ih=>exact .gd b x v fun hb=>ih hb (fun g hg=>hu g (by simpa [W.names] using hg))
 |clo f caps vs hl hx ih=>exact .clo f caps vs hl fun j x v hj hv=>ih j x v hj hv fun g hg=>hu g (yO hj hg)
 |no v=>exact .no v
theorem Lets.WA (h:Lets E st st' gh aQ w w') {x:V} {v:Value} (hu :∀g∈x.names,st.used g=true) (r:qK E st gh w x v):qK E st' aQ w' x v:=by
 cases r with
 |one x v hx=>exact .one x v (h.y9 hu hx)
 |agg xs cs hl hv hx=>exact .agg xs cs hl hv fun j x v hj hv=>h.y9 (fun g hg=>hu g (by simp only [V.names,List.mem_flatMap];exact ⟨x,List.mem_of_getElem? hj,hg⟩)) (hx j x v hj hv)
theorem Lets.abr (h:Lets E st st' gh aQ w w') {x:S} {v:Value} (hu :∀g∈x.names,st.used g=true) (r:bD E st gh w x v):bD E st' aQ w' x v:=by
 cases r with
 |v x v hx=>exact .v x v (h.WA hu hx)
 |jH xs vs hl hx=>exact .jH xs vs hl fun j x v hj hv=>h.WA (fun g hg=>hu g (by simp only [S.names,List.mem_flatMap];exact ⟨x,List.mem_of_getElem? hj,hg⟩)) (hx j x v hj hv)
 |no v=>exact .no v
theorem Lets.Ag (h:Lets E st st' gh aQ w w') {a i:Bool} {sz:Nat} {l:List (List P)} {G:Gh} (hb :∀ad,G.ad=some ad→w'.heap[ad.block]?=w.heap[ad.block]?)
  (r:dw E st gh w a i sz l G):dw E st' aQ w' a i sz l G:=by
 rcases r with r | ⟨ad,ob,h1,h2,h3,h4,h5,h7⟩
 ·exact .inl r
 ·refine .inr ⟨ad,ob,h1,h2,by rw [hb ad h1];exact h3,h4,h5,fun n x hx j y hy => ?_⟩
  obtain ⟨v,hv,hr⟩:=h7 n x hx j y hy
  exact ⟨v,hv,h.iY hr⟩
theorem Lets.UA (h:Lets E st st' gh aQ w w') {a i:Bool} {G:Gh} {ah:List (Nat×Nat)} {hole:Option (Nat×Nat×Nat)} {n j:Nat} {y:P} {v:Value}
  (hb :∀b,(G.sub b).isSome=true→w'.heap[b]?=w.heap[b]?) (hu :∀g∈bn hole,st.used g=true) (r:gB E st gh w a i G ah hole n j y v):gB E st' aQ w' a i G ah hole n j y v:=by
 unfold gB at *
 cases hc:ah.lookup j with
 |none=>rw [hc] at r;exact h.iY r
 |some sz'=>
  rw [hc] at r
  simp only at *
  cases hh:fM hole n j with
  |some d=>
   rw [hh] at r
   refine ⟨r.1,h.y9 (fun g hg => ?_) r.2⟩
   have:g=d:=by simpa [W.names] using hg
   subst this
   refine hu g ?_
   unfold fM at hh
   rcases hole with _ | ⟨n',j',d⟩
   ·cases hh
   ·simp only at hh
    split at hh
    ·cases hh;simp [bn]
    ·cases hh
  |none=>
   rw [hh] at r
   obtain ⟨l',ao,k,h1,h2,h3,h4⟩:=r
   exact ⟨l',ao,k,h1,h2,h.Ag (fun ad had=>hb _ (by rw [h4 ad had];rfl)) h3,h4⟩
theorem Lets.aeg (h:Lets E st st' gh aQ w w') {a i:Bool} {sz:Nat} {ah:List (Nat×Nat)} {l:List (List P)} {hole:Option (Nat×Nat×Nat)} {G:Gh}
  (hb :∀b,G.has b→w'.heap[b]?=w.heap[b]?) (hu :∀g∈bn hole,st.used g=true) (r:dY E st gh w a i sz ah l hole G):dY E st' aQ w' a i sz ah l hole G:=by
 rcases r with r | ⟨ad,ob,h1,h2,h3,h4,h5,⟨h7,h7'⟩,h8⟩
 ·exact .inl r
 ·refine .inr ⟨ad,ob,h1,h2,by rw [hb _ (Gh.jk h1)];exact h3,h4,h5,⟨h7,fun b hs=>by rw [hb b (.inr hs)];exact h7' b hs⟩,fun n x hx j y hy => ?_⟩
  obtain ⟨v,hv,hr⟩:=h8 n x hx j y hy
  exact ⟨v,hv,h.UA (fun b hs=>hb b (.inr hs)) hu hr⟩
theorem Lets.af0 (h:Lets E st st' gh aQ w w') {ws:List W} {G:Gh} (hb :∀ad,G.ad=some ad→w'.heap[ad.block]?=w.heap[ad.block]?)
  (hu :∀x∈ws,∀g∈x.names,st.used g=true) (r:yM E st gh w ws G):yM E st' aQ w' ws G:=by
 obtain ⟨ad,c,e,h1,h2,h3,h4,h5⟩:=r
 refine ⟨ad,c,e,h1,h2,by rw [hb ad h1];exact h3,h4,fun j x hx => ?_⟩
 obtain ⟨v,hv,ho,hr⟩:=h5 j x hx
 exact ⟨v,hv,ho,h.y9 (hu x (List.mem_of_getElem? hx)) hr⟩
theorem Lets.Ah (h:Lets E st st' gh aQ w w') {o:O} {G:Gh} (hb:o.aX=true→∀b,G.has b→w'.heap[b]?=w.heap[b]?)
  (hu :∀g∈o.names,st.used g=true) (r:kF E st gh w o G):kF E st' aQ w' o G:=by
 cases o with
 |none=>trivial
 |box ws=>exact Lets.af0 h (fun ad had=>hb rfl _ (Gh.jk had)) (fun x hx g hg=>hu g (by simp only [O.names,List.mem_flatMap];exact ⟨x,hx,hg⟩)) r
 |arr fz a i sz l=>
  cases fz with
  |false=>exact Lets.Ag h (fun ad had=>hb rfl _ (Gh.jk had)) r
  |true=>exact h.iY r
 |ay a i sz ah l hole=>exact Lets.aeg h (hb rfl) hu r
 |it s n=>
  obtain ⟨ad,bs,k,h1,h2,h3,h4⟩:=r
  exact ⟨ad,bs,k,h1,h2,h3,by rw [hb rfl _ (Gh.jk h1)];exact h4⟩
end
end Go.Fw

namespace Go.Fw
set_option linter.unusedSectionVars false
variable [dA]
set_option linter.unusedVariables false
def P.list:P→List (List P)
 |.sl _ l=>l
 |.mp _ l=>l
 |_=>[]
def P.num:P→Int
 |.int _ n=>n
 |_=>0
theorem P.mZ (sz:Nat) (l:List (List P)):(P.dX sz l).list=l:=by
 unfold P.dX
 cases Nat.ble MB sz<;>cases l<;>rfl
def P.nat (x:P):Nat:=x.num.toNat
def P.bytes:P→ByteArray
 |.str s=>s
 |_=>.empty
def P.isSlice:P→Prop
 |.sl _ _=>True
 |_=>False
def P.isStr:P→Prop
 |.str _=>True
 |_=>False
def P.LQ (sz:Nat):P→Prop
 |.sl sz' l=>sz'=sz∨l=[]
 |_=>False
def P.af2 (sz:Nat):P→Prop
 |.mp sz' _=>sz'=sz
 |_=>False
def P.bin (op:BinOp) (x y:P):P:=
 match x,y with
 |.int k a,.int _ b=>
  match op with
  |.add=>.int k (k.wrap (a+b))
  |.sub=>.int k (k.wrap (a-b))
  |.mul=>.int k (k.wrap (a*b))
  |.quo=>.int k (k.wrap (a.tdiv b))
  |.rem=>.int k (a.tmod b)
  |.and=>.int k (bits .and k a b)
  |.or=>.int k (bits .or k a b)
  |.xor=>.int k (bits .xor k a b)
  |.andNot=>.int k (bits .andNot k a b)
  |.shl=>.int k (k.wrap (a*2 ^ min b.toNat k.bits))
  |.shr=>.int k (a.fdiv (2 ^ min b.toNat k.bits))
  |.eql=>.bool (a==b)
  |.neq=>.bool (a != b)
  |.lss=>.bool (decide (a<b))
  |.leq=>.bool (decide (a≤b))
  |.gtr=>.bool (decide (a>b))
  |.geq=>.bool (decide (a≥b))
 |.bool a,.bool b=>
  match op with
  |.eql=>.bool (a==b)
  |.neq=>.bool (a != b)
  |_=>default
 |.str a,.str b=>
  match op with
  |.add=>.str (a++b)
  |.eql=>.bool (a.toList==b.toList)
  |.neq=>.bool (!(a.toList==b.toList))
  |.lss=>.bool (Op.bytesLess a.toList b.toList)
  |.leq=>.bool (Op.bytesLess a.toList b.toList||a.toList==b.toList)
  |.gtr=>.bool (!(Op.bytesLess a.toList b.toList||a.toList==b.toList))
  |.geq=>.bool (!Op.bytesLess a.toList b.toList)
  |_=>default
 |_,_=>default
def P.OA (op:BinOp) (x y:P):Prop:=
 match x,y with
 |.int k a,.int k' b=>
  match op with
  |.shl | .shr=>0≤b
  |.quo | .rem=>k=k'∧b≠0
  |_=>k=k'
 |.str a,.str b=>
  match op with
  |.add=>a.size+b.size≤9223372036854775807
  |.eql | .neq | .lss | .leq | .gtr | .geq=>True
  |_=>False
 |_,_=>False
def P.LU (op:BinOp) (x y:P):Prop:=
 match x,y with
 |.bool _,.bool _=>op=.eql∨op=.neq
 |_,_=>False
def P.un (op:UnOp) (x:P):P:=
 match op,x with
 |.neg,.int k n=>.int k (k.wrap (0-n))
 |.not,.bool b=>.bool (!b)
 |_,_=>default
def P.aeh (op:UnOp) (x:P):Prop:=
 match op,x with
 |.neg,.int _ _=>True
 |.not,.bool _=>True
 |_,_=>False
def P.len:P→P
 |.sl _ l=>.int .i64 l.length
 |.str s=>.int .i64 s.size
 |_=>default
def P.min (x y:P):P:=
 match x,y with
 |.int k a,.int _ b=>.int k (if b<a then b else a)
 |_,_=>default
def P.max (x y:P):P:=
 match x,y with
 |.int k a,.int _ b=>.int k (if b>a then b else a)
 |_,_=>default
def P.adt (x i:P):P:=
 match x,i with
 |.str s,.int _ n=>.int .u8 (s.data.getD n.toNat 0).toNat
 |_,_=>default
def P.sub (sz lo hi:Nat) (x:P):P:=P.dX sz ((x.list.take hi).drop lo)
inductive TK where
 |int (k:IntKind)
 |bool
 |str
 |slice (e:TypeId)
 |map (k e:TypeId)
 |ptr
 |struct (fs:List (Nat×TypeId))
 |arr (n:Nat) (e:TypeId)
 |other
structure TI where
 k:TK
 size:Nat
 bytes:Nat
 zero:List Value
abbrev TT:=TypeId→Option TI
def TI.agg (i:TI):Bool:=
 match i.k with
 |.struct _=>true
 |.arr _ _=>true
 |_=>false
def TI.eq (i:TI):Bool:=
 match i.k with
 |.struct _ | .arr _ _=>Nat.ble i.size 8&&i.zero.all fun v=>match v with | .int _ _ | .bool _ | .string _=>true | _=>false
 |_=>false
def P.Yi:P→P→Bool
 |.int _ a,.int _ b=>a==b
 |.bool a,.bool b=>a==b
 |.str a,.str b=>a==b
 |_,_=>false
def UC (k:TK) (x y:P):Prop:=
 match k,x,y with
 |.int _,.int a _,.int b _=>a=b
 |.bool,.bool _,.bool _=>True
 |.str,.str _,.str _=>True
 |_,_,_=>False
def TK.flat:TK→Bool
 |.int _ | .bool | .str=>true
 |_=>false
def TK.parts:TK→List (Nat×TypeId)
 |.struct fs=>fs
 |.arr n e=>if n=0 then [(1,e)] else (List.range' 0 n).map fun i=>(i,e)
 |_=>[(1,0)]
def lU (tt:TT):Nat→List (Nat×TypeId)→List W→List W→Option (Prop×Bool)
 |_,[],[],[]=>some (True,true)
 |n,(off,t)::fs,.p _ _ x::xs,.p _ _ y::ys=>match tt t with
  |some i=>if off=n∧i.k.flat=true∧i.size=1 then match lU tt (n+1) fs xs ys with
   |some c=>some (UC i.k x y∧c.1,P.Yi x y&&c.2)
   |none=>none
   else none
  |none=>none
 |_,_,_,_=>none
def abt:BinOp→Option Bool
 |.eql=>some true
 |.neq=>some false
 |_=>none
def cv:Value→W
 |.int k n=>.p false false (.int k n)
 |.bool b=>.p false false (.bool b)
 |.string s=>.p false false (.str s)
 |.slice none 0 0=>.bg
 |v=>.p false false (.opq v)
def uw:Value→S
 |.agg cs=>if cs.toList.all Value.oneCell'=true then .v (.agg (cs.toList.map cv)) else .no
 |.tuple _=>.no
 |.func (.func f) ⟨[]⟩ ⟨[]⟩=>.v (.one (.clo f []))
 |v=>if v.oneCell'=true then .v (.one (cv v)) else .no
def St.bf (st:St):Operand→S
 |.tmp t=>st.s t
 |.const v=>uw v
 |.func f=>.v (.one (.clo f []))
 |.global g=>match dA.gt g with
  |some _=>.v (.one (.gl g))
  |none=>.no
structure Ae where
 pre:Prop
 val:P
 dst:P→S
 au:P→List (Nat×O)
 new:List Nat
def jJ (n:Nat):P:=.int .i64 n
def oM:P→List (Nat×O):=fun _=>[]
def scalar (x:P):S:=.v (.one (.p false false x))
def Ae.pure (x:S):Ae:=(.mk (True) (default) (fun _=>x) (oM) [])
def Ae.calc (pre:Prop) (x:P):Ae:={ pre,val:=x,dst:=scalar,au:=oM,new:=[] }
def aA {α:Type} (l:List α) (off:Nat) (new:List α):List α:=l.take off++new++l.drop (off+new.length)
def iH (l:List (List P)) (n c:Nat) (y:P):List (List P):=l.set n (aA (l.getD n []) c [y])
def plainO (o:Nat→O) (g:Nat):Option (Bool×Bool×Nat×List (List P)):=
 match o g with
 |.arr _ a i sz l=>some (a,i,sz,l)
 |.ay a i sz _ l none=>some (a,i,sz,l)
 |.ay a i sz ah l (some (n,c,d))=>match o d with
  |.arr _ a' i' sz' l'=>if ah.lookup c=some sz'∧c<rw sz then some (a||a',i||i',sz,iH l n c (P.dX sz' l')) else none
  |_=>none
 |_=>none
def W.toP (o:Nat→O):W→Option (P×Bool×Bool×List Nat)
 |.p a i x=>some (x,a,i,[])
 |.bg=>some (.sl 0 [],false,false,[])
 |.own g=>match plainO o g with
  |some (a,i,sz,l)=>some (P.dX sz l,a,i,(o g).names++[g])
  |none=>none
 |.vw g lo hi=>match plainO o g with
  |some (a,i,sz,l)=>if sz<MB then some (P.dX sz ((l.take hi.nat).drop lo.nat),a,i,(o g).names++[g]) else none
  |none=>none
 |_=>none
def nV (o:Nat→O):List W→Option (List P×Bool×Bool×List Nat)
 | []=>some ([],false,false,[])
 |x::xs=>match x.toP o,nV o xs with
  |some (y,a,i,gs),some (ys,a',i',gs')=>some (y::ys,a||a',i||i',gs++gs')
  |_,_=>none
def V.words:V→List W
 |.one x=>[x]
 |.agg xs=>xs
def aC (o:Nat→O) (g:Nat):Nat×O:=
 (g,match plainO o g with
  |some (a,i,sz,l)=>.arr true a i sz l
  |none=>o g)
def wB (o:Nat→O) (gs:List Nat):Prop :=∀g∈gs,(plainO o g).isSome=true∧∀d∈(o g).names,d∈gs
theorem wB.nil {o:Nat→O}:wB o []:=fun _ h=>by cases h
theorem wB.append {o:Nat→O} {a b:List Nat} (h:wB o a) (h':wB o b):wB o (a++b):=fun g hg=>by
 rcases List.mem_append.1 hg with x | x
 ·exact ⟨(h g x).1,fun d hd=>List.mem_append_left _ ((h g x).2 d hd)⟩
 ·exact ⟨(h' g x).1,fun d hd=>List.mem_append_right _ ((h' g x).2 d hd)⟩
def O.hn:O→List Nat
 |.ay _ _ _ _ _ hole=>bn hole
 |_=>[]
def Agree (o o':Nat→O) (g:Nat):Prop:=o g=o' g∧∀d∈(o g).hn,o d=o' d
theorem Ai {o o':Nat→O} {g:Nat} (h:Agree o o' g):plainO o g=plainO o' g:=by
 obtain ⟨h1,h2⟩:=h
 unfold plainO
 rw [←h1]
 cases ho:o g with
 |ay a i sz ah l hole=>
  cases hole with
  |none=>rfl
  |some x=>
   obtain ⟨n,c,d⟩:=x
   simp only
   rw [h2 d (by rw [ho];simp [O.hn,bn])]
 |_=>rfl
def V.dh (agg:Bool) (ws:List W):S:=
 if agg then .v (.agg ws) else match ws with
  | [x]=>.v (.one x)
  |_=>.no
def W.solid:W→Bool
 |.gd _ _=>false
 |.no=>false
 |_=>true
def V.solid:V→Bool
 |.one x=>x.solid
 |.agg _=>true
def TI.known (tt:TT) (i:TI):Bool:=
 match i.k with
 |.struct fs=>fs.all fun f=>(tt f.2).isSome
 |.arr _ e=>(tt e).isSome
 |_=>false
def kJ (place:Nat→Option (Nat×Nat)) (ws:List W):List (Nat×S)→Option (List W)
 | []=>some ws
 |(n,.v x)::rest=>match place n with
  |some (off,size)=>if x.words.length=size∧off+size≤ws.length∧x.solid=true then kJ place (aA ws off x.words) rest else none
  |none=>none
 |_=>none
def dZ {α:Type} (ws:List α):Nat→List α
 |0=>[]
 |n+1=>ws++dZ ws n
def chunks {α:Type} (sz:Nat):Nat→List α→List (List α)
 |0,_=>[]
 |n+1,l=>l.take sz::chunks sz n (l.drop sz)
def placeOf (tt:TT) (t:TypeId) (n:Nat):Option (Nat×Nat):=
 match tt t with
 |some { k:=.struct fs,.. }=>match fs[n]? with
  |some (off,u)=>(tt u).map fun i=>(off,i.size)
  |none=>none
 |some { k:=.arr m e,.. }=>if n<m then (tt e).map fun i=>(n*i.size,i.size) else none
 |_=>none
def W.rows (o:Nat→O) (sz:Nat):W→Option (Prop×List (List P)×Bool×Bool)
 |.p a i x=>some (x.LQ sz,x.list,a,i)
 |.bg=>some (True,[],false,false)
 |.own g=>match o g with
  |.arr _ a i sz' l=>if sz'=sz then some (True,l,a,i) else none
  |_=>none
 |.vw g lo hi=>match o g with
  |.arr _ a i sz' l=>if sz'=sz then some (True,(l.take hi.nat).drop lo.nat,a,i) else none
  |_=>none
 |_=>none
def lenOf (o:Nat→O):W→Option (Prop×P)
 |.p _ _ x=>some (x.isSlice,x.len)
 |.bg=>some (True,.int .i64 0)
 |.own g=>match (o g).dim with
  |some (sz,len)=>if sz<MB then some (True,.int .i64 len) else none
  |none=>none
 |.vw g lo hi=>match (o g).dim with
  |some _=>some (True,.int .i64 (hi.nat-lo.nat:Nat))
  |none=>none
 |_=>none
def W.live (o:Nat→O):W→Bool
 |.box g _=>match o g with
  |.box _=>true
  |_=>false
 |.ep g _ _=>(o g).dim.isSome
 |.sp _ _ _ _=>true
 |_=>false
def W.shift (n:Nat):W→W
 |.box g off=>.box g (off+n)
 |.ep g k off=>.ep g k (off+n)
 |.sp a i row off=>.sp a i row (off+n)
 |x=>x
def inRange (ix:P) (n:Nat):Prop:=
 match ix with
 |.int _ k=>0≤k∧k<n
 |_=>False
def uy (tt:TT) (d:Nat) (o:Nat→O) (sT:TypeId) (s x:W):Option Ae:=
 match tt sT with
 |some { k:=.slice e,.. }=>match tt e with
  |some ie=>if ie.bytes=0 then none else match x.rows o ie.size with
   |none=>none
   |some (ask,new,a',i')=>
    let res (aiR:Prop) (old:List (List P)) (a i:Bool) (kill:List (Nat×O)):Ae:=
     .mk (ask∧aiR∧(old.length+new.length)*ie.bytes≤140737488355328) (.sl ie.size (old++new)) (fun _=>.v (.one (.own d)))
      (fun y=>kill++[(d,.arr false (a||a') (i||i') ie.size y.list)]) [d]
    match s with
    |.bg=>some (res True [] false false [])
    |.own g=>match o g with
     |.arr false a i sz l=>if sz=ie.size∧g≠d then some (res True l a i [(g,.none)]) else none
     |_=>none
    |.vw g lo hi=>match o g with
     |.arr false a i sz l=>if sz=ie.size∧g≠d then some (res (lo=jJ 0) (l.take hi.nat) a i [(g,.none)]) else none
     |_=>none
    |_=>none
  |none=>none
 |_=>none
def kK (dflt:P):Option S→Option P
 |none=>some dflt
 |some (.v (.one (.p _ _ x)))=>some x
 |_=>none
def iO:P→Prop
 |.int _ _=>True
 |_=>False
def FN (z:List Value) (j:Nat):P:=match z[j]? with
 |some (.int k n)=>.int k n
 |some (.bool b)=>.bool b
 |some (.string s)=>.str s
 |some (.slice none 0 0)=>.sl 0 []
 |some v=>.opq v
 |none=>default
def P.aei (x lo hi:P):P:=match x with
 |.str s=>.str (s.extract lo.nat hi.nat)
 |_=>default
def Gs (l:List (List P)):P:=.str ⟨(l.map fun r=>UInt8.ofNat ((r.getD 0 default).num.toNat)).toArray⟩
def isBytes (l:List (List P)):Prop :=∀r∈l,∃n,r=[.int .u8 n]
def LV (x:P):P:=match x with
 |.str s=>.dX 1 (s.data.toList.map fun b=>[.int .u8 b.toNat])
 |_=>default
def Aj (tt:TT) (o:Nat→O) (t:TypeId) (x h m:S):Option Ae:=
 match tt t,x,h,m with
 |some { k:=.slice e,.. },.v (.one (.own g)),.v (.one (.p _ _ h)),.v (.one (.p _ _ m))=>match tt e,o g with
  |some ie,.arr false _ _ sz l=>if sz=ie.size then
    some (.mk (∃k j:Nat,h=.int .i64 k∧m=.int .i64 j∧k≤j∧j≤l.length) (default) (fun _=>.v (.one (.vw g (jJ 0) h))) (oM) []) else none
  |_,_=>none
 |some { k:=.slice e,.. },.v (.one .bg),.v (.one (.p _ _ h)),.v (.one (.p _ _ m))=>match tt e with
  |some _=>some (.mk (h=jJ 0∧m=jJ 0) (default) (fun _=>.v (.one .bg)) (oM) [])
  |none=>none
 |_,_,_,_=>none
def LW (tt:TT) (o:Nat→O) (t:TypeId) (x:S):Option Ae:=
 match tt t,x with
 |some { k:=.slice e,.. },.v (.one (.vw g lo hi))=>match tt e,o g with
  |some ie,.arr false a i sz l=>if sz=ie.size∧0<sz then match nV o (ie.zero.map cv) with
   |some (ps,false,false,[])=>some (.mk (lo.nat<hi.nat) (.sl sz (aA l lo.nat (List.replicate (hi.nat-lo.nat) ps))) (fun _=>.no) (fun y=>[(g,.arr false a i sz y.list)]) [])
   |_=>none
   else none
  |_,_=>none
 |_,_=>none
def UD (tt:TT) (o:Nat→O) (t:TypeId) (x y:S):Option Ae:=
 match tt t,x,y with
 |some { k:=.slice e,.. },.v (.one (.own g)),.v (.one (.p a' i' z))=>match tt e,o g with
  |some ie,.arr false a i sz l=>if sz=ie.size∧0<sz then
    some (.mk (z.LQ sz∧z.list.length≤l.length) (.sl sz (z.list++l.drop z.list.length)) (fun _=>.no) (fun y=>[(g,.arr false (a||a') (i||i') sz y.list)]) [])
   else none
  |_,_=>none
 |_,_,_=>none
def nX (i:TI):Nat:=(if i.agg=true then 2*MB else MB)+(1+i.size)
def P.isKey (k:TK) (x:P):Prop:=
 match k,x with
 |.int k,.int k' _=>k=k'
 |.str,.str _=>True
 |.bool,.bool _=>True
 |_,_=>False
def uz (kp:P) (r:List P):Bool:=P.Yi kp (r.getD 0 default)
def qN (kp:P) (ps:List P) (l:List (List P)):List P:=match l.find? (uz kp) with
 |some r=>r.drop 1
 |none=>ps
def pR (kp:P) (l:List (List P)):Bool:=l.any (uz kp)
def wC (kp:P) (ps:List P):List (List P)→List (List P)
 | []=>[kp::ps]
 |r::l=>match uz kp r with
  |true=>(kp::ps)::l
  |false=>r::wC kp ps l
def Yw (k:TK) (kp:P) (l:List (List P)):Prop:=kp.isKey k∧∀r∈l,(r.getD 0 default).isKey k
def W.ents (o:Nat→O) (sz:Nat):W→Option (Prop×List (List P)×Bool×Bool)
 |.p a i x=>some (x.af2 sz,x.list,a,i)
 |.own g=>match o g with
  |.arr _ a i sz' l=>if sz'=sz then some (True,l,a,i) else none
  |_=>none
 |_=>none
def UE (ok:Option Bool) (s:S):S:=match s,ok with
 |s,none=>s
 |.v v,some b=>.jH [v,.one (.p false false (.bool b))]
 |_,_=>.no
def FP (tt:TT) (o:Nat→O) (t:TypeId) (x k:S) (c:Bool):Option Ae:=
 match tt t,x,k with
 |some { k:=.map kt et,.. },.v (.one x),.v (.one (.p _ _ kp))=>match tt kt,tt et with
  |some ik,some ie=>match x.ents o (nX ie),nV o (ie.zero.map cv) with
   |some (ask,l,a,i),some (ps,false,false,[])=>if ik.k.flat=true∧0<ie.size then
     some (.mk (ask∧Yw ik.k kp l) (.mp 0 [qN kp ps l]) (fun z=>UE (bif c then some (pR kp l) else none) (V.dh ie.agg ((List.range ie.size).map fun j=>.p a i ((z.list.getD 0 []).getD j (FN ie.zero j))))) (oM) []) else none
   |_,_=>none
  |_,_=>none
 |_,_,_=>none
def V.isAgg:V→Bool
 |.agg _=>true
 |.one _=>false
def FQ (tt:TT) (o:Nat→O) (t:TypeId) (m k y:S):Option Ae:=
 match tt t,m,k,y with
 |some { k:=.map kt et,.. },.v (.one (.own g)),.v (.one (.p _ _ kp)),.v y=>match tt kt,tt et,o g,nV o y.words with
  |some ik,some ie,.arr false a i sz l,some (ps,a',i',gs)=>
   if (ik.k.flat=true∧sz=nX ie∧ps.length=ie.size)∧(y.words.length=ie.size∧y.solid=true∧gs.contains g=false)∧y.isAgg=ie.agg then
    some (.mk (Yw ik.k kp l) (.mp sz (wC kp ps l)) (fun _=>.no) (fun z=>gs.map (aC o)++[(g,.arr false (a||a') (i||i') sz z.list)]) []) else none
  |_,_,_,_=>none
 |_,_,_,_=>none
def kernel (tt:TT) (d:Nat) (o:Nat→O) (f:Operand→S) (op:Op) (ty:TypeId):Option Ae:=
 match op with
 |.move x | .assign x=>match f x with
  |.no=>none
  |s=>some (.pure s)
 |.pick c x y=>match f c with
  |.v (.one (.p _ _ (.bool b)))=>match f x,f y with
   |.v (.one (.p a i x)),.v (.one (.p a' i' y))=>some (.mk True (bif b then x else y) (fun z=>.v (.one (.p (a||a') (i||i') z))) oM [])
   |x,y=>match (bif b then x else y) with
    |.no=>none
    |s=>some (.pure s)
  |_=>none
 |.alloc t=>match tt t with
  |some i=>some (.mk (True) (default) (fun _=>.v (.one (.box d 0))) (fun _=>[(d,.box (i.zero.map cv))]) [d])
  |none=>none
 |.box t x=>match tt t,f x with
  |some i,.v x=>if x.words.length=i.size∧x.solid=true then some (.mk (True) (default) (fun _=>.v (.one (.box d 0))) (fun _=>[(d,.box x.words)]) [d]) else none
  |_,_=>none
 |.build t parts=>match tt t with
  |some i=>if i.known tt=true then match kJ (placeOf tt t) (i.zero.map cv) (parts.toList.map fun p=>(p.1,f p.2)) with
   |some ws=>some (.pure (.v (.agg ws)))
   |none=>none
   else none
  |none=>none
 |.buildSlice t n parts=>match tt t with
  |some { k:=.slice e,.. }=>match tt e with
   |some ie=>match kJ (fun m=>if m<n then some (m*ie.size,ie.size) else none) (dZ (ie.zero.map cv) n) (parts.toList.map fun p=>(p.1,f p.2)) with
    |some ws=>match nV o ws with
     |some (ps,a,i,gs)=>if n+n*ie.size≤16777216 then
       some (.mk True (.sl ie.size (chunks ie.size n ps)) (fun _=>.v (.one (.own d)))
        (fun y=>gs.map (aC o)++[(d,.arr false a i ie.size y.list)]) [d]) else none
     |none=>none
    |none=>none
   |none=>none
  |_=>none
 |.load t x=>match tt t,f x with
  |some i,.v (.one (.box g off))=>match o g with
   |.box ws=>if off+i.size≤ws.length∧0<i.size then some (.pure (V.dh i.agg ((ws.drop off).take i.size))) else none
   |_=>none
  |some i,.v (.one (.ep g n off))=>match o g with
   |.arr _ a i' sz l=>if off+i.size≤sz∧0<i.size then some (.pure (V.dh i.agg ((List.range i.size).map fun j=>.p a i' ((l.getD n.nat []).getD (off+j) (FN i.zero j))))) else none
   |_=>none
  |some i,.v (.one (.sp a i' row off))=>if 0<i.size then some (.mk (off+i.size≤row.length) (default) (fun _=>V.dh i.agg ((List.range i.size).map fun j=>.p a i' (row.getD (off+j) default))) (oM) []) else none
  |_,_=>none
 |.store t x y=>match tt t,f x,f y with
  |some i,.v (.one (.box g off)),.v y=>match o g with
   |.box ws=>if off+i.size≤ws.length∧y.words.length=i.size∧y.solid=true then
     some (.mk (True) (default) (fun _=>.no) (fun _=>[(g,.box (aA ws off y.words))]) []) else none
   |_=>none
  |some i,.v (.one (.ep g n off)),.v y=>match o g,nV o y.words with
   |.arr false a i' sz l,some (ps,a',i'',gs)=>if off+i.size≤sz∧ps.length=i.size∧y.words.length=i.size∧y.solid=true∧gs.contains g=false then
     some (.mk True (.sl sz (l.set n.nat (aA (l.getD n.nat []) off ps))) (fun _=>.no)
      (fun z=>gs.map (aC o)++[(g,.arr false (a||a') (i'||i'') sz z.list)]) []) else none
   |_,_=>none
  |_,_,_=>none
 |.nilCheck x=>match f x with
  |.v (.one x)=>if x.live o then some (.pure (.v (.one x))) else none
  |_=>none
 |.binOp op t x y _=>match f x,f y with
  |.v (.one (.p _ _ x)),.v (.one (.p _ _ y))=>match tt t with
   |some { k:=.int _,.. } | some { k:=.str,.. }=>some (.calc (P.OA op x y) (P.bin op x y))
   |some { k:=.bool,.. }=>some (.calc (P.LU op x y) (P.bin op x y))
   |_=>none
  |.v (.agg xs),.v (.agg ys)=>match tt t with
   |some i=>match lU tt 0 i.k.parts xs ys,abt op with
    |some c,some b=>if i.eq=true then some (.calc c.1 (.bool (c.2==b))) else none
    |_,_=>none
   |none=>none
  |_,_=>none
 |.unOp op _ x=>match f x with
  |.v (.one (.p _ _ x))=>some (.calc (P.aeh op x) (P.un op x))
  |_=>none
 |.convert s t x=>match tt s,tt t,f x with
  |some { k:=.int _,.. },some { k:=.int k,.. },.v (.one (.p _ _ x))=>some (.calc (iO x) (.int k (k.wrap x.num)))
  |some { k:=.slice e,.. },some { k:=.str,.. },.v (.one x)=>match tt e with
   |some { k:=.int .u8,.. }=>match x.rows o 1 with
    |some (ask,l,_,_)=>some (.calc (ask∧isBytes l) (Gs l))
    |none=>none
   |_=>none
  |some { k:=.str,.. },some { k:=.slice e,.. },.v (.one (.p _ _ x))=>match tt e with
   |some { k:=.int .u8,.. }=>some (.calc x.isStr (LV x))
   |_=>none
  |_,_,_=>none
 |.makeMap t none=>match tt t with
  |some { k:=.map _ et,.. }=>match tt et with
   |some ie=>some (.mk True (default) (fun _=>.v (.one (.own d))) (fun _=>[(d,.arr false false false (nX ie) [])]) [d])
   |none=>none
  |_=>none
 |.lookup t x k c=>FP tt o t (f x) (f k) c
 |.mapUpdate t m k y=>FQ tt o t (f m) (f k) (f y)
 |.makeSlice t n c=>match tt t,f n,f c with
  |some { k:=.slice e,.. },.v (.one (.p _ _ n)),.v (.one (.p _ _ c))=>match tt e with
   |some ie=>match nV o (ie.zero.map cv) with
    |some (ps,false,false,[])=>if 0<ie.size then
     some (.mk (∃m k:Nat,n=.int .i64 m∧c=.int .i64 k∧m≤k∧ie.bytes*k≤281474976710656∧k≤9223372036854775807) (.sl ie.size (List.replicate n.nat ps))
      (fun _=>.v (.one (.own d))) (fun y=>[(d,.arr false false false ie.size y.list)]) [d]) else none
    |_=>none
   |none=>none
  |_,_,_=>none
 |.slice t x lo hi none=>match tt t,f x with
  |some { k:=.slice e,.. },.v (.one x)=>match tt e,lenOf o x with
   |some ie,some (ask,len)=>match kK (jJ 0) (lo.map f),kK len (hi.map f) with
    |some lo,some hi=>match x with
     |.own g=>match (o g).dim with
      |some (sz,l)=>if sz=ie.size then
        some (.mk (∃m k:Nat,lo=.int .i64 m∧hi=.int .i64 k∧m≤k∧k≤l) (default) (fun _=>.v (.one (.vw g lo hi))) (oM) []) else none
      |none=>none
     |.p a i y=>some (.mk (ask∧y.LQ ie.size∧∃m k:Nat,lo=.int .i64 m∧hi=.int .i64 k∧m≤k∧k≤y.list.length) (P.sub ie.size lo.nat hi.nat y)
       (fun z=>.v (.one (.p a i z))) oM [])
     |.bg=>some (.mk (lo=jJ 0∧hi=jJ 0) (default) (fun _=>.v (.one .bg)) (oM) [])
     |_=>none
    |_,_=>none
   |_,_=>none
  |some { k:=.str,.. },.v (.one (.p _ _ y))=>match kK (jJ 0) (lo.map f),kK y.len (hi.map f) with
   |some lo,some hi=>some (.calc (y.isStr∧∃m k:Nat,lo=.int .i64 m∧hi=.int .i64 k∧m≤k∧k≤y.bytes.size) (P.aei y lo hi))
   |_,_=>none
  |_,_=>none
 |.slice t x none (some hi) (some mx)=>Aj tt o t (f x) (f hi) (f mx)
 |.fieldAddr t x n=>match tt t,placeOf tt t n,f x with
  |some { k:=.struct _,.. },some (off',sz'),.v (.one x)=>if 0<sz'∧x.live o=true then some (.pure (.v (.one (x.shift off')))) else none
  |_,_,_=>none
 |.field t x n=>match tt t,f x with
  |some { k:=.struct fs,.. },.v (.agg ws)=>match fs[n]? with
   |some (off,u)=>match tt u with
    |some iu=>if off+iu.size≤ws.length∧0<iu.size then some (.pure (V.dh iu.agg ((ws.drop off).take iu.size))) else none
    |none=>none
   |none=>none
  |_,_=>none
 |.indexAddr t x ix=>match tt t,f x,f ix with
  |some { k:=.slice e,.. },.v (.one x),.v (.one (.p _ _ n))=>match tt e,x with
   |some ie,.own g=>match (o g).dim with
    |some (sz,l)=>if sz=ie.size then some (.mk (inRange n l) (default) (fun _=>.v (.one (.ep g (jJ n.nat) 0))) (oM) []) else none
    |none=>none
   |some ie,.vw g lo hi=>match (o g).dim with
    |some (sz,_)=>if sz=ie.size then some (.mk (inRange n (hi.nat-lo.nat)) (default) (fun _=>.v (.one (.ep g (jJ (lo.nat+n.nat)) 0))) (oM) []) else none
    |none=>none
   |some ie,.p a i y=>some (.mk (y.LQ ie.size∧inRange n y.list.length) (default) (fun _=>.v (.one (.sp a i (y.list.getD n.nat []) 0))) (oM) [])
   |_,_=>none
  |some { k:=.arr m e,.. },.v (.one (.gl g)),.v (.one (.p _ _ n))=>match tt e,dA.gt g with
   |some ie,some (sz,rows)=>if sz=ie.size∧rows.length=m then some (.mk (inRange n m) (default) (fun _=>.v (.one (.sp false false (rows.getD n.nat []) 0))) (oM) []) else none
   |_,_=>none
  |some { k:=.arr m e,.. },.v (.one x),.v (.one (.p _ _ (.int _ n)))=>match tt e with
   |some ie=>if 0≤n∧n<m∧x.live o=true then some (.pure (.v (.one (x.shift (n.toNat*ie.size))))) else none
   |none=>none
  |_,_,_=>none
 |.index t x ix=>match tt t,f x,f ix with
  |some { k:=.str,.. },.v (.one (.p _ _ x)),.v (.one (.p _ _ n))=>some (.calc (x.isStr∧inRange n x.bytes.size) (P.adt x n))
  |_,_,_=>none
 |.range t x=>match tt t,f x with
  |some { k:=.str,.. },.v (.one (.p _ _ x))=>some (.mk x.isStr x (fun _=>.v (.one (.lQ d))) (fun y=>[(d,.it y (jJ 0))]) [d])
  |_,_=>none
 |.extract t n=>match f t with
  |.jH xs=>match xs[n]? with
   |some x=>some (.pure (.v x))
   |none=>none
  |_=>none
 |.makeFunc (.func g) first caps=>if first.size=0 then
   match caps.toList.mapM (fun x=>match f x with | .v (.one w)=>some w | _=>none) with
   |some ws=>some (.pure (.v (.one (.clo g ws))))
   |none=>none
   else none
 |.call { callee:=.builtin .len,args,argTypes }=>match args.toList,argTypes.toList with
  | [x],[t]=>match tt t,f x with
   |some { k:=.slice _,.. },.v (.one x)=>match lenOf o x with
    |some (ask,n)=>some (.calc ask n)
    |none=>none
   |some { k:=.str,.. },.v (.one (.p _ _ x))=>some (.calc x.isStr x.len)
   |_,_=>none
  |_,_=>none
 |.call { callee:=.builtin .append,args,argTypes }=>match args.toList,argTypes.toList with
  | [s,x],sT::xT::_=>match tt xT,f s,f x with
   |some { k:=.slice _,.. },.v (.one s),.v (.one x)=>uy tt d o sT s x
   |_,_,_=>none
  |_,_=>none
 |.call { callee:=.builtin .clear,args,argTypes }=>match args.toList,argTypes.toList with
  | [x],t::_=>LW tt o t (f x)
  |_,_=>none
 |.call { callee:=.builtin .copy,args,argTypes }=>match args.toList,argTypes.toList with
  | [x,y],t::_=>UD tt o t (f x) (f y)
  |_,_=>none
 |.call { callee:=.builtin .min,args,.. }=>match args.toList with
  | [x,y]=>match f x,f y with
   |.v (.one (.p _ _ x)),.v (.one (.p _ _ y))=>some (.calc (iO x∧iO y) (P.min x y))
   |_,_=>none
  | [x,y,z]=>match f x,f y,f z with
   |.v (.one (.p _ _ x)),.v (.one (.p _ _ y)),.v (.one (.p _ _ z))=>some (.calc (iO x∧iO y∧iO z) (P.min (P.min x y) z))
   |_,_,_=>none
  |_=>none
 |.call { callee:=.builtin .max,args,.. }=>match args.toList with
  | [x,y]=>match f x,f y with
   |.v (.one (.p _ _ x)),.v (.one (.p _ _ y))=>some (.calc (iO x∧iO y) (P.max x y))
   |_,_=>none
  | [x,y,z]=>match f x,f y,f z with
   |.v (.one (.p _ _ x)),.v (.one (.p _ _ y)),.v (.one (.p _ _ z))=>some (.calc (iO x∧iO y∧iO z) (P.max (P.max x y) z))
   |_,_,_=>none
  |_=>none
 |_=>none
end Go.Fw

namespace Go.Fw
set_option linter.unusedSectionVars false
variable [dA]
set_option linter.unusedVariables false
def St.au (st:St) (u:List (Nat×O)) (new:List Nat):St:=
 { s:=st.s,o:=fun g=>match u.lookup g with | some x=>x | none=>st.o g,used:=fun g=>new.contains g||st.used g }
def St.put (st:St) (dst:Option Tmp) (x:S):St:=
 match dst with
 |some d=>{ st with s:=fun t=>bif Nat.beq t d then x else st.s t }
 |none=>st
def dH (gh:Nat→Gh) (g:Nat) (G:Gh):Nat→Gh:=fun g'=>if g'=g then G else gh g'
def wE (val:Nat→Value) (dst:Option Tmp) (v:Value):Nat→Value:=
 match dst with
 |some d=>fun t=>if t=d then v else val t
 |none=>val
section
variable {E:Env} {st st':St} {gh aQ:Nat→Gh} {w w':World} {val:Nat→Value}
theorem dP.congr (ho:st'.o=st.o) {x:W} {v:Value} (r:dP E st gh w x v):dP E st' gh w x v:=by
 have hok:E.ok st' gh w=E.ok st gh w:=by funext a i b;simp only [Env.ok,ho]
 induction r with
 |p a i x v hx=>exact .p a i x v (by rw [hok];exact hx)
 |bg=>exact .bg
 |own g v hv hx=>exact .own g v hv (by rw [ho];exact hx)
 |vw g lo hi v hv hx=>exact .vw g lo hi v hv (by rw [ho];exact hx)
 |box g off v hv hx=>exact .box g off v hv (by rw [ho];exact hx)
 |ep g n off v hv hx=>exact .ep g n off v hv (by rw [ho];exact hx)
 |sp a i row off b o hb hx=>exact .sp a i row off b o (by rw [hok];exact hb) (by rw [hok];exact hx)
 |gl g=>exact .gl g
 |lQ g v hv hx=>exact .lQ g v hv (by rw [ho];exact hx)
 |gd b x v hx ih=>exact .gd b x v ih
 |clo f caps vs hl hx ih=>exact .clo f caps vs hl ih
 |no v=>exact .no v
theorem qK.congr (ho:st'.o=st.o) {x:V} {v:Value} (r:qK E st gh w x v):qK E st' gh w x v:=by
 cases r with
 |one x v h=>exact .one x v (h.congr ho)
 |agg xs cs hl hv h=>exact .agg xs cs hl hv fun j x v a b=>(h j x v a b).congr ho
theorem bD.congr (ho:st'.o=st.o) {x:S} {v:Value} (r:bD E st gh w x v):bD E st' gh w x v:=by
 cases r with
 |v x v h=>exact .v x v (h.congr ho)
 |jH xs vs hl h=>exact .jH xs vs hl fun j x v a b=>(h j x v a b).congr ho
 |no v=>exact .no v
theorem kF.congr (ho:st'.o=st.o) {x:O} {G:Gh} (r:kF E st gh w x G):kF E st' gh w x G:=by
 have hok:E.ok st' gh w=E.ok st gh w:=by funext a i b;simp only [Env.ok,ho]
 cases x with
 |none=>trivial
 |box ws=>
  obtain ⟨ad,c,e,h1,h2,h3,h4,h5⟩:=r
  exact ⟨ad,c,e,h1,h2,h3,h4,fun j x hx=>let ⟨v,a,b,c⟩:=h5 j x hx;⟨v,a,b,c.congr ho⟩⟩
 |arr fz a i sz l=>
  cases fz with
  |false=>simpa only [kF,dw,hok] using r
  |true=>simpa only [kF,hok] using r
 |ay a i sz ah l hole=>
  rcases r with r | ⟨ad,ob,h1,h2,h3,h4,h5,h7,h8⟩
  ·exact .inl r
  ·refine .inr ⟨ad,ob,h1,h2,h3,h4,h5,h7,fun n x hx j y hy => ?_⟩
   obtain ⟨v,hv,hr⟩:=h8 n x hx j y hy
   refine ⟨v,hv,?_⟩
   unfold gB at *
   cases hc:ah.lookup j with
   |none=>rw [hc] at hr;simp only [hok] at *;exact hr
   |some sz'=>
    rw [hc] at hr
    simp only at *
    cases hh:fM hole n j with
    |some d=>rw [hh] at hr;exact ⟨hr.1,hr.2.congr ho⟩
    |none=>rw [hh] at hr;simpa only [yN,dw,hok] using hr
 |it s n=>exact r
theorem Rel.put (h:Rel E st gh val w) (dst:Option Tmp) {x:S} {v:Value} (hx:bD E st gh w x v) (hu :∀g∈x.names,st.used g=true) :
  Rel E (st.put dst x) gh (wE val dst v) w:=by
 cases dst with
 |none=>exact h
 |some d=>
  have ho:(st.put (some d) x).o=st.o:=rfl
  refine ⟨fun t => ?_,fun g=>(h.aJ g).congr ho,h.inj,h.wr,h.wi,h.ns,h.wb,h.frame,h.size,h.os,h.tape,h.output,fun t g hg => ?_,h.uo,h.ul⟩
  ·by_cases ht:t=d
   ·subst ht
    simp only [St.put,wE,if_true]
    have:Nat.beq t t=true:=by simp
    rw [this]
    exact hx.congr ho
   ·have hb:Nat.beq t d=false:=by cases h:Nat.beq t d with | false=>rfl | true=>exact absurd (Nat.eq_of_beq_eq_true h) ht
    simp only [St.put,wE,if_neg ht,hb]
    exact (h.slots t).congr ho
  ·by_cases ht:t=d
   ·subst ht
    have:Nat.beq t t=true:=by simp
    simp only [St.put,this] at hg
    exact hu g hg
   ·have hb:Nat.beq t d=false:=by cases h:Nat.beq t d with | false=>rfl | true=>exact absurd (Nat.eq_of_beq_eq_true h) ht
    simp only [St.put,hb] at hg
    exact h.us t g hg
theorem Rel.step (h:Rel E st gh val w) (hl:Lets E st st' gh aQ w w') (hs:st'.s=st.s) (J5 :∀g,st.used g=true→st'.used g=true)
  (Ci :∀g,kF E st' aQ w' (st'.o g) (aQ g))
  (inj :∀g g' b,(st'.o g).aX=true→(st'.o g').aX=true→(aQ g).has b→(aQ g').has b→g=g')
  (wr :∀g b,(st'.o g).aX=true→(aQ g).has b→(E.B0≤b∨E.Wr b)∧b<w'.heap.size)
  (wi :∀g i b,(st'.o g).inner=some i→(aQ g).has b→E.Wr b→i=true)
  (ns :∀g,(st'.o g).aX=true→(st'.o g).mY=false→∀b,(aQ g).sub b=none)
  (frame :∀b,b<E.B0→¬ E.Wr b→w'.heap[b]?=w.heap[b]?) (size:w.heap.size≤w'.heap.size) (os:w'.os=w.os) (tape:w'.tape=w.tape) (output:w'.output=w.output)
  (uo :∀g,∀g'∈(st'.o g).names,st'.used g'=true) (ul :∀g,st'.o g≠.none→st'.used g=true):Rel E st' aQ val w':=
 ⟨fun t=>by rw [hs];exact hl.abr (h.us t) (h.slots t),Ci,inj,wr,wi,ns,h.wb,fun b hb hw=>(frame b hb hw).trans (h.frame b hb hw),Nat.le_trans h.size size,os.trans h.os,tape.trans h.tape,
  output.trans h.output,fun t g hg=>J5 g (h.us t g (by rw [hs] at hg;exact hg)),uo,ul⟩
theorem Rel.drew (h:Rel E st gh val w) (n:Nat):Rel E st gh val { w with drawn:=n }:=by
 have hl:Lets E st st gh gh w { w with drawn:=n }:=⟨fun a i b hb=>⟨hb,rfl⟩,fun g _=>.inr ⟨⟨rfl,rfl⟩,O.dM _⟩⟩
 exact h.step hl rfl (fun _ h=>h) (fun g=>hl.Ah (fun _ _ _=>rfl) (h.uo g) (h.aJ g)) h.inj h.wr h.wi h.ns (fun _ _ _=>rfl) (Nat.le_refl _) rfl rfl rfl h.uo h.ul
theorem Rel.fresh (h:Rel E st gh val w) (w':World) (hh :∀b,b<w.heap.size→w'.heap[b]?=w.heap[b]?) (hsz:w.heap.size≤w'.heap.size) (hos:w'.os=w.os) (htape:w'.tape=w.tape) (hout:w'.output=w.output) :
  Rel E st gh val w'∧Lets E st st gh gh w w':=by
 have hl:Lets E st st gh gh w w':=⟨fun a i b hb=>⟨⟨hb.1,Nat.lt_of_lt_of_le hb.2.1 hsz,hb.2.2⟩,hh b hb.2.1⟩,fun g _=>.inr ⟨⟨rfl,rfl⟩,O.dM _⟩⟩
 exact ⟨h.step hl rfl (fun _ h=>h) (fun g=>hl.Ah (fun ho b hb=>hh b (h.wr g b ho hb).2) (h.uo g) (h.aJ g)) h.inj (fun g b ho hb=>⟨(h.wr g b ho hb).1,Nat.lt_of_lt_of_le (h.wr g b ho hb).2 hsz⟩) h.wi h.ns
  (fun b hb _=>hh b (Nat.lt_of_lt_of_le hb h.size)) hsz hos htape hout h.uo h.ul,hl⟩
theorem O.jK {o:O} {i:Bool} (h:o.inner=some i):o.aX=true:=by
 cases o with
 |arr fz a i' sz l=>cases fz<;>simp [O.inner,O.aX] at h ⊢
 |ay a i' sz ah l hole=>rfl
 |none=>simp [O.inner] at h
 |box ws=>simp [O.inner] at h
 |it s n=>simp [O.inner] at h
theorem O.lV {o:O} (h:o.aX=true):o≠.none:=by intro e;rw [e] at h;cases h
theorem Rel.abu (h:Rel E st gh val w) {g b:Nat} {a i:Bool} (hi:(st.o g).inner=some i) (hb:(gh g).has b) (hst :∀g',(st'.o g').aX=true→(st.o g').aX=true∧g'≠g):E.ok st' gh w a i b:=by
 have hw:=h.wr g b (O.jK hi) hb
 refine ⟨?_,hw.2,fun g2 h2 had => ?_⟩
 ·rcases hw.1 with h0 | h0
  ·exact .inr (.inr (.inl h0))
  ·exact .inr (.inl ⟨h.wi g i b hi hb h0,.inr h0⟩)
 ·exact (hst g2 h2).2 (h.inj g2 g b (hst g2 h2).1 (O.jK hi) had hb)
theorem aU.Rq {ok:Nat→Prop} {sz cap:Nat} {l:List (List P)} {ad:Addr} {ob:Obj} (h2:ad.spot=none) (h3:w.heap[ad.block]?=some ob) (h4:Fits sz ad.off cap l.length ob) (hok:ok ad.block) (h6 :∀x∈l,x.length=rw sz)
  (h7 :∀(n:Nat) x,l[n]?=some x→∀(j:Nat) y,x[j]?=some y→∃v,vM sz ad.off n j ob=some v∧aU w ok y v):aU w ok (Yu sz l) (hdl sz (some ad) (ml sz l) cap):=by
 have h8 :∀(n:Nat) x,l[n]?=some x→∀(j:Nat) y,x[j]?=some y→aU w ok y ((vM sz ad.off n j ob).getD undef):=fun n x hx j y hy=>by
  obtain ⟨v,hv,hr⟩:=h7 n x hx j y hy
  rw [hv];exact hr
 have h9 :∀(n:Nat) x,l[n]?=some x→∀(j:Nat) y,x[j]?=some y→vM sz ad.off n j ob=some ((vM sz ad.off n j ob).getD undef):=fun n x hx j y hy=>by
  obtain ⟨v,hv,hr⟩:=h7 n x hx j y hy
  rw [hv];rfl
 rcases Nat.lt_or_ge sz MB with hlt | hge
 ·obtain ⟨c,e,rfl,q1,q2⟩:=h4.lt hlt
  rw [J4 hlt] at h6
  rw [Ce hlt,fD hlt,fB hlt]
  exact .sl sz l ad cap _ h2 (fun _=>hok) q2.1 h6 (fun n x hx j y hy=>(by simp [World.cell?,h3,vM]:w.cell? ⟨ad.block,ad.off+n*sz+j,none⟩=vM sz ad.off n j (.cells c e (0,0))).trans (h9 n x hx j y hy)) h8
 ·obtain ⟨es,ck,rfl,he⟩:=h4.ge hge
  rw [Ro hge,Gq hge]
  exact .mp sz l ad.block es ck _ hok h3 he h6 h9 h8
theorem dw.plain {a i:Bool} {sz:Nat} {l:List (List P)} {G:Gh} (r:dw E st gh w a i sz l G) (hl:Lets E st st' gh aQ w w) (hok :∀ad,G.ad=some ad→E.ok st' aQ w a i ad.block) :
  aU w (E.ok st' aQ w a i) (Yu sz l) (hdl sz G.ad (ml sz l) G.cap):=by
 rcases r with ⟨h1,h2,h3,h4⟩ | ⟨ad,ob,h1,h2,h3,h4,h6,h7⟩
 ·subst h3
  rw [h1,Ce h4,fD h4,fB h4]
  exact .nil sz none _
 ·rw [h1]
  exact .Rq h2 h3 h4 (hok ad h1) h6 fun n x hx j y hy=>let ⟨v,hv,hr⟩:=h7 n x hx j y hy;⟨v,hv,hl.iY hr⟩
theorem Rel.kill (h:Rel E st gh val w) (g:Nat):Rel E (st.au [(g,.none)] []) gh val w∧Lets E st (st.au [(g,.none)] []) gh gh w w:=by
 have hold :∀g',g'≠g→(st.au [(g,.none)] []).o g'=st.o g':=by
  intro g' hg'
  have:(g'==g)=false:=by simpa using hg'
  simp [St.au,List.lookup,this]
 have hnew:(st.au [(g,.none)] []).o g=.none:=by simp [St.au,List.lookup]
 have hown :∀g',((st.au [(g,.none)] []).o g').aX=true→(st.o g').aX=true∧g'≠g:=by
  intro g' hg'
  by_cases e:g'=g
  ·subst e;rw [hnew] at hg';simp [O.aX] at hg'
  ·rw [hold g' e] at hg';exact ⟨hg',e⟩
 have hl:Lets E st (st.au [(g,.none)] []) gh gh w w:=by
  refine ⟨fun a' i' b hb=>⟨⟨hb.1,hb.2.1,fun g' hg'=>hb.2.2 g' (hown g' hg').1⟩,rfl⟩,fun g' _ => ?_⟩
  by_cases e:g'=g
  ·subst e;exact .inl hnew
  ·exact .inr ⟨⟨rfl,rfl⟩,by rw [hold g' e];exact O.dM _⟩
 refine ⟨h.step hl rfl (fun g hg=>by simp [St.au,hg]) (fun g' => ?_) (fun g1 g2 b h1 h2=>h.inj g1 g2 b (hown g1 h1).1 (hown g2 h2).1) (fun g1 b h1=>h.wr g1 b (hown g1 h1).1)
  (fun g1 i1 b h1 h2 h3=>by
   have e:g1≠g:=(hown g1 (O.jK h1)).2
   rw [hold g1 e] at h1;exact h.wi g1 i1 b h1 h2 h3)
  (fun g1 h1 h2=>by
   have e:g1≠g:=(hown g1 h1).2
   rw [hold g1 e] at h1 h2;exact h.ns g1 h1 h2)
  (fun _ _ _=>rfl) (Nat.le_refl _) rfl rfl rfl (fun g' x hx => ?_) (fun g' hg' => ?_),hl⟩
 ·by_cases e:g'=g
  ·subst e;rw [hnew];trivial
  ·rw [hold g' e];exact hl.Ah (fun _ _ _=>rfl) (h.uo g') (h.aJ g')
 ·by_cases e:g'=g
  ·subst e;rw [hnew] at hx;simp [O.names] at hx
  ·rw [hold g' e] at hx;simpa [St.au] using h.uo g' x hx
 ·by_cases e:g'=g
  ·subst e;exact absurd hnew hg'
  ·rw [hold g' e] at hg';simpa [St.au] using h.ul g' hg'
theorem Rel.merge (h:Rel E st gh val w) (S:Nat→Prop) (d:Nat) (x:O) (G:Gh) (st':St) (w':World)
  (hs:st'.s=st.s) (hod:st'.o d=x) (hoS :∀g,S g→g≠d→st'.o g=.none) (zf :∀g,¬ S g→g≠d→st'.o g=st.o g)
  (hus :∀g,st.used g=true→st'.used g=true) (hud:st'.used d=true)
  (J6:st.used d=true→(G.ad=(gh d).ad∧G.cap=(gh d).cap)∧(st.o d).like x)
  (hB :∀b,G.has b→(∃g,(S g∨g=d)∧(st.o g).aX=true∧(gh g).has b)∨(w.heap.size≤b∧b<w'.heap.size))
  (hw :∀b,b<w.heap.size→(∀g,(S g∨g=d)→(st.o g).aX=true→¬ (gh g).has b)→w'.heap[b]?=w.heap[b]?)
  (hsz:w.heap.size≤w'.heap.size) (hos:w'.os=w.os) (htape:w'.tape=w.tape) (hout:w'.output=w.output)
  (hwi :∀i b,x.inner=some i→G.has b→E.Wr b→i=true) (hns:x.aX=true→x.mY=false→∀b,G.sub b=none)
  (hx:Lets E st st' gh (dH gh d G) w w'→kF E st' (dH gh d G) w' x G)
  (hn :∀g∈x.names,st'.used g=true) :
  Rel E st' (dH gh d G) val w'∧Lets E st st' gh (dH gh d G) w w':=by
 have hgo :∀g',g'≠d→dH gh d G g'=gh g':=fun g' e=>by simp [dH,e]
 have hgn:dH gh d G d=G:=by simp [dH]
 have oG :∀g',(st'.o g').aX=true→g'=d∨(g'≠d∧¬ S g'∧(st.o g').aX=true):=by
  intro g' hg'
  by_cases e:g'=d
  ·exact .inl e
  ·by_cases e2:S g'
   ·rw [hoS g' e2 e] at hg';simp [O.aX] at hg'
   ·rw [zf g' e2 e] at hg';exact .inr ⟨e,e2,hg'⟩
 have hl:Lets E st st' gh (dH gh d G) w w':=by
  refine ⟨fun a' i' b hb=>⟨⟨hb.1,Nat.lt_of_lt_of_le hb.2.1 hsz,fun g' hg' had => ?_⟩,hw b hb.2.1 fun g _ hg=>hb.2.2 g hg⟩,fun g' hg' => ?_⟩
  ·rcases oG g' hg' with e | ⟨e1,e2,e3⟩
   ·subst e
    rw [hgn] at had
    rcases hB b had with ⟨g,_,hg,hgb⟩ | ⟨hb1,_⟩
    ·exact hb.2.2 g hg hgb
    ·have:=hb.2.1;omega
   ·rw [hgo g' e1] at had;exact hb.2.2 g' e3 had
  ·by_cases e:g'=d
   ·subst e;rw [hgn,hod];exact .inr (J6 hg')
   ·by_cases e2:S g'
    ·exact .inl (hoS g' e2 e)
    ·exact .inr ⟨by rw [hgo g' e];exact ⟨rfl,rfl⟩,by rw [zf g' e2 e];exact O.dM _⟩
 have af4 :∀g1 b,g1≠d→¬ S g1→(st.o g1).aX=true→(gh g1).has b→G.has b→False:=by
  intro g1 b e1 e2 e3 k1 k2
  rcases hB b k2 with ⟨g,hg,hgo',hgb⟩ | ⟨hb1,_⟩
  ·have:=h.inj g1 g b e3 hgo' k1 hgb
   subst this
   rcases hg with hg | hg
   ·exact e2 hg
   ·exact e1 hg
  ·have:=(h.wr g1 b e3 k1).2;omega
 refine ⟨h.step hl hs hus (fun g' => ?_) (fun g1 g2 b h1 h2 k1 k2 => ?_) (fun g1 b h1 k1 => ?_) (fun g1 i1 b h1 h2 h3 => ?_) (fun g1 h1 h2 => ?_)
  (fun b hb hwr=>hw b (by have:=h.size;omega) fun g _ hg hgb => ?_) hsz hos htape hout (fun g' y hy => ?_) (fun g' hg' => ?_),hl⟩
 ·by_cases e:g'=d
  ·subst e;rw [hod,hgn];exact hx hl
  ·by_cases e2:S g'
   ·rw [hoS g' e2 e];trivial
   ·rw [zf g' e2 e,hgo g' e]
    refine hl.Ah (fun ho b hb=>hw b (h.wr g' b ho hb).2 fun g hg hgo' hgb => ?_) (h.uo g') (h.aJ g')
    have:=h.inj g' g b ho hgo' hb hgb
    subst this
    rcases hg with hg | hg
    ·exact e2 hg
    ·exact e hg
 ·rcases oG g1 h1 with e1 | ⟨e1,e1',Rt⟩<;>rcases oG g2 h2 with e2 | ⟨e2,e2',af5⟩
  ·rw [e1,e2]
  ·subst e1;rw [hgn] at k1;rw [hgo g2 e2] at k2;exact (af4 g2 b e2 e2' af5 k2 k1).elim
  ·subst e2;rw [hgn] at k2;rw [hgo g1 e1] at k1;exact (af4 g1 b e1 e1' Rt k1 k2).elim
  ·rw [hgo g1 e1] at k1;rw [hgo g2 e2] at k2
   exact h.inj g1 g2 b Rt af5 k1 k2
 ·rcases oG g1 h1 with e1 | ⟨e1,e1',Rt⟩
  ·subst e1;rw [hgn] at k1
   rcases hB b k1 with ⟨g,_,hg,hgb⟩ | ⟨hb1,hb2⟩
   ·have:=h.wr g b hg hgb;exact ⟨this.1,Nat.lt_of_lt_of_le this.2 hsz⟩
   ·exact ⟨.inl (Nat.le_trans h.size hb1),hb2⟩
  ·rw [hgo g1 e1] at k1
   have:=h.wr g1 b Rt k1;exact ⟨this.1,Nat.lt_of_lt_of_le this.2 hsz⟩
 ·rcases oG g1 (O.jK h1) with e1 | ⟨e1,e1',Rt⟩
  ·subst e1;rw [hod] at h1;rw [hgn] at h2;exact hwi i1 b h1 h2 h3
  ·rw [zf g1 e1' e1] at h1;rw [hgo g1 e1] at h2;exact h.wi g1 i1 b h1 h2 h3
 ·rcases oG g1 h1 with e1 | ⟨e1,e1',Rt⟩
  ·subst e1;rw [hod] at h1 h2;rw [hgn];exact hns h1 h2
  ·rw [zf g1 e1' e1] at h2;rw [hgo g1 e1];exact h.ns g1 Rt h2
 ·rcases (h.wr g b hg hgb).1 with h0 | h0
  ·omega
  ·exact hwr h0
 ·by_cases e:g'=d
  ·subst e;rw [hod] at hy;exact hn y hy
  ·by_cases e2:S g'
   ·rw [hoS g' e2 e] at hy;simp [O.names] at hy
   ·rw [zf g' e2 e] at hy;exact hus y (h.uo g' y hy)
 ·by_cases e:g'=d
  ·subst e;exact hud
  ·by_cases e2:S g'
   ·exact absurd (hoS g' e2 e) hg'
   ·rw [zf g' e2 e] at hg';exact hus g' (h.ul g' hg')
theorem uD (w:World) (o:Obj) (b:Nat) (hb:b<w.heap.size):(w.heap.push o)[b]?=w.heap[b]?:=by
 rw [Array.getElem?_push,if_neg (by omega)]
theorem zh (gh:Nat→Gh) (g:Nat):dH gh g (gh g)=gh:=by
 funext g';unfold dH;split
 ·rename_i e;rw [e]
 ·rfl
theorem qO {st:St} {g:Nat} {x:O} {new:List Nat}:(st.au [(g,x)] new).o g=x∧∀g',g'≠g→(st.au [(g,x)] new).o g'=st.o g':=by
 refine ⟨by simp [St.au,List.lookup],fun g' hg' => ?_⟩
 have:(g'==g)=false:=by simpa using hg'
 simp [St.au,List.lookup,this]
theorem Rel.Yx (h:Rel E st gh val w) (d:Nat) (hd:st.used d=false) (x:O) (ob:Obj) (G:Gh) (hG:G.ad=some ⟨w.heap.size,0,none⟩) (hS :∀b,G.sub b=none)
  (hx :∀aQ w',Lets E st (st.au [(d,x)] [d]) gh aQ w w'→aQ=dH gh d G→w'={ w with heap:=w.heap.push ob }→kF E (st.au [(d,x)] [d]) aQ w' x G)
  (hn :∀g∈x.names,st.used g=true) :
  Rel E (st.au [(d,x)] [d]) (dH gh d G) val { w with heap:=w.heap.push ob }∧Lets E st (st.au [(d,x)] [d]) gh (dH gh d G) w { w with heap:=w.heap.push ob }:=by
 have hhas :∀b,G.has b→b=w.heap.size:=by
  rintro b (⟨ad,h1,h2⟩ | h1)
  ·rw [hG] at h1;cases h1;exact h2.symm
  ·rw [hS] at h1;cases h1
 refine h.merge (fun _=>False) d x G _ _ rfl qO.1 (fun g h=>h.elim) (fun g _ hg=>qO.2 g hg) (fun g hg=>by simp [St.au,hg]) (by simp [St.au]) (fun hu=>by rw [hd] at hu;cases hu)
  (fun b hb=>.inr (by rw [hhas b hb];simp)) (fun b hb _=>uD w _ b hb) (by simp) rfl rfl rfl (fun i b _ hb hwr => ?_) (fun _ _=>hS) (fun hl=>hx _ _ hl rfl rfl) (fun g hg=>by simp [St.au,hn g hg])
 have:=h.wb _ hwr
 have:=h.size
 have:=hhas b hb
 omega
theorem Rel.make (h:Rel E st gh val w) (d:Nat) (hd:st.used d=false) (x:O) (c:Array Value) (e:TypeId) (G:Gh) (hG:G.ad=some ⟨w.heap.size,0,none⟩) (hS :∀b,G.sub b=none)
  (hx :∀aQ w',Lets E st (st.au [(d,x)] [d]) gh aQ w w'→aQ=dH gh d G→w'={ w with heap:=w.heap.push (.cells c e) }→kF E (st.au [(d,x)] [d]) aQ w' x G)
  (hn :∀g∈x.names,st.used g=true) :
  Rel E (st.au [(d,x)] [d]) (dH gh d G) val { w with heap:=w.heap.push (.cells c e) }∧Lets E st (st.au [(d,x)] [d]) gh (dH gh d G) w { w with heap:=w.heap.push (.cells c e) }:=
 h.Yx d hd x (.cells c e) G hG hS hx hn
theorem Rel.write (h:Rel E st gh val w) (g:Nat) (ad:Addr) (hg:(st.o g).aX=true) (had:(gh g).ad=some ad) (x:O) (J6:(st.o g).like x) (w':World)
  (hw :∀b,b≠ad.block→w'.heap[b]?=w.heap[b]?) (hsz:w'.heap.size=w.heap.size) (hos:w'.os=w.os) (htape:w'.tape=w.tape) (hout:w'.output=w.output)
  (hown:x.aX=true) (hwi :∀i,x.inner=some i→∃i',(st.o g).inner=some i'∧(i'=true→i=true)) (hdp:x.mY=false→(st.o g).mY=false)
  (hx:Lets E st (st.au [(g,x)] []) gh gh w w'→kF E (st.au [(g,x)] []) gh w' x (gh g))
  (hn :∀g∈x.names,st.used g=true) :
  Rel E (st.au [(g,x)] []) gh val w'∧Lets E st (st.au [(g,x)] []) gh gh w w':=by
 have:=h.merge (fun _=>False) g x (gh g) (st.au [(g,x)] []) w' rfl qO.1 (fun g h=>h.elim) (fun g _ hg=>qO.2 g hg) (fun g hg=>by simp [St.au,hg]) (by simp [St.au];exact h.ul g (O.lV hg))
  (fun _=>⟨⟨rfl,rfl⟩,J6⟩) (fun b hb=>.inl ⟨g,.inr rfl,hg,hb⟩) (fun b _ hb=>hw b fun e=>hb g (.inr rfl) hg (e▸Gh.jk had)) (by omega) hos htape hout
  (fun i b hi hb hwr => ?_) (fun _ hd=>h.ns g hg (hdp hd)) (by rw [zh];exact hx) (fun g' hg'=>by simp [St.au,hn g' hg'])
 ·rw [zh] at this;exact this
 ·obtain ⟨i',h1,h2⟩:=hwi i hi
  exact h2 (h.wi g i' b h1 hb hwr)
theorem Rel.shift (h:Rel E st gh val w) (g d:Nat) (hd:st.used d=false) (ad:Addr) (hg:(st.o g).aX=true) (had:(gh g).ad=some ad) (x:O) (G:Gh) (hG:G.ad=some ad)
  (hS :∀b,(G.sub b).isSome=true→((gh g).sub b).isSome=true) (hns:x.aX=true→x.mY=false→∀b,G.sub b=none) (w':World)
  (hw :∀b,b≠ad.block→w'.heap[b]?=w.heap[b]?) (hsz:w'.heap.size=w.heap.size) (hos:w'.os=w.os) (htape:w'.tape=w.tape) (hout:w'.output=w.output)
  (hwi :∀i b,x.inner=some i→G.has b→E.Wr b→i=true)
  (hx:Lets E st (st.au [(g,.none),(d,x)] [d]) gh (dH gh d G) w w'→kF E (st.au [(g,.none),(d,x)] [d]) (dH gh d G) w' x G)
  (hn :∀g∈x.names,st.used g=true) :
  Rel E (st.au [(g,.none),(d,x)] [d]) (dH gh d G) val w'∧Lets E st (st.au [(g,.none),(d,x)] [d]) gh (dH gh d G) w w':=by
 have hgu:st.used g=true:=h.ul g (O.lV hg)
 have hgd:g≠d:=by intro e;subst e;rw [hd] at hgu;cases hgu
 refine h.merge (fun g'=>g'=g) d x G _ w' rfl ?_ (fun g' e _ => ?_) (fun g' e1 e2 => ?_) (fun g hg=>by simp [St.au,hg]) (by simp [St.au]) (fun hu=>by rw [hd] at hu;cases hu)
  (fun b hb=>.inl ⟨g,.inl rfl,hg,?_⟩) (fun b _ hb=>hw b fun e=>hb g (.inl rfl) hg (e▸Gh.jk had)) (by omega) hos htape hout hwi hns hx (fun g' hg'=>by simp [St.au,hn g' hg'])
 ·have e1:(d==g)=false:=by simpa using hgd.symm
  simp [St.au,List.lookup,e1]
 ·subst e;simp [St.au,List.lookup]
 ·have e1:(g'==g)=false:=by simpa using e1
  have e2:(g'==d)=false:=by simpa using e2
  simp [St.au,List.lookup,e1,e2]
 ·rcases hb with ⟨ad',h1,h2⟩ | h1
  ·rw [hG] at h1;cases h1;exact .inl ⟨ad,had,h2⟩
  ·exact .inr (hS b h1)
theorem Rel.LX (h:Rel E st gh val w) (d:Nat) (hd:st.used d=false) (x:O) (hx:kF E (st.au [(d,x)] [d]) (dH gh d Gh.nil) w x Gh.nil) (hn :∀g∈x.names,st.used g=true) :
  Rel E (st.au [(d,x)] [d]) (dH gh d Gh.nil) val w∧Lets E st (st.au [(d,x)] [d]) gh (dH gh d Gh.nil) w w:=
 h.merge (fun _=>False) d x Gh.nil _ w rfl qO.1 (fun g h=>h.elim) (fun g _ hg=>qO.2 g hg) (fun g hg=>by simp [St.au,hg]) (by simp [St.au]) (fun hu=>by rw [hd] at hu;cases hu)
  (fun b hb=>(Gh.not_nil hb).elim) (fun _ _ _=>rfl) (Nat.le_refl _) rfl rfl rfl (fun _ b _ hb=>(Gh.not_nil hb).elim) (fun _ _ _=>rfl) (fun _=>hx) (fun g hg=>by simp [St.au,hn g hg])
theorem Rel.OC (h:Rel E st gh val w) (d:Nat) (hd:st.used d=false) (a i:Bool) (sz:Nat) (hsz:sz<MB) :
  Rel E (st.au [(d,.arr false a i sz [])] [d]) (dH gh d Gh.nil) val w∧Lets E st (st.au [(d,.arr false a i sz [])] [d]) gh (dH gh d Gh.nil) w w:=
 h.LX d hd _ (.inl ⟨rfl,rfl,rfl,hsz⟩) (fun g hg=>by simp [O.names] at hg)
theorem Rel.split (h:Rel E st gh val w) {g d:Nat} (hd:st.used d=false) {a i:Bool} {sz:Nat} {ah:List (Nat×Nat)} {l:List (List P)} (ho:st.o g=.ay a i sz ah l none)
  {n c sz':Nat} {x:List P} {y:P} (hc:ah.lookup c=some sz') (hxn:l[n]?=some x) (hyc:x[c]?=some y) :
  ∃(l':List (List P)) (ao:Option Addr) (k:Nat) (aQ:Nat→Gh),y=P.dX sz' l'∧(∃ad ob,(gh g).ad=some ad∧w.heap[ad.block]?=some ob∧Fits sz ad.off (gh g).cap l.length ob∧vM sz ad.off n c ob=some (hdl sz' ao (ml sz' l') k))∧
   (aQ d).ad=ao∧(aQ d).cap=k∧
   Rel E (st.au [(g,.ay a i sz ah l (some (n,c,d))),(d,.arr false a i sz' l')] [d]) aQ val w∧
   Lets E st (st.au [(g,.ay a i sz ah l (some (n,c,d))),(d,.arr false a i sz' l')] [d]) gh aQ w w:=by
 have hD:dY E st gh w a i sz ah l none (gh g):=by have:=h.aJ g;rw [ho] at this;exact this
 rcases hD with ⟨_,_,h3,_⟩ | ⟨ad,ob,h1,h2,h3,h4,h6,⟨h7,h7'⟩,h8⟩
 ·subst h3;simp at hxn
 obtain ⟨v,hv,hr⟩:=h8 n x hxn c y hyc
 simp only [gB,hc,fM] at hr
 obtain ⟨l',ao,k,hy,hv',hA,hsub⟩:=hr
 subst hv'
 have hgo:(st.o g).aX=true:=by rw [ho];rfl
 have hgu:st.used g=true:=h.ul g (O.lV hgo)
 have hgd:g≠d:=by intro e;subst e;rw [hd] at hgu;cases hgu
 let aQ:Nat→Gh:=dH (dH gh g ⟨(gh g).ad,(gh g).cap,fun b=>if ao.map (·.block)=some b then none else (gh g).sub b⟩) d ⟨ao,k,fun _=>none⟩
 have hGd:aQ d=⟨ao,k,fun _=>none⟩:=by simp [aQ,dH]
 have hGg:aQ g=⟨(gh g).ad,(gh g).cap,fun b=>if ao.map (·.block)=some b then none else (gh g).sub b⟩:=by simp [aQ,dH,hgd]
 have hGo :∀g',g'≠g→g'≠d→aQ g'=gh g':=fun g' e1 e2=>by simp [aQ,dH,e1,e2]
 generalize hst:st.au [(g,.ay a i sz ah l (some (n,c,d))),(d,.arr false a i sz' l')] [d]=st'
 have hod:st'.o d=.arr false a i sz' l':=by
  subst hst
  have e1:(d==g)=false:=by simpa using hgd.symm
  simp [St.au,List.lookup,e1]
 have hog:st'.o g=.ay a i sz ah l (some (n,c,d)):=by subst hst;simp [St.au,List.lookup]
 have zf :∀g',g'≠g→g'≠d→st'.o g'=st.o g':=by
  intro g' e1 e2
  subst hst
  have e1:(g'==g)=false:=by simpa using e1
  have e2:(g'==d)=false:=by simpa using e2
  simp [St.au,List.lookup,e1,e2]
 have hss:st'.s=st.s:=by subst hst;rfl
 have hus :∀g,st.used g=true→st'.used g=true:=fun g hg=>by subst hst;simp [St.au,hg]
 have hud:st'.used d=true:=by subst hst;simp [St.au]
 have hne :∀g,st.used g=true→g≠d:=fun g hg e=>by subst e;rw [hd] at hg;cases hg
 have hdh :∀b,(aQ d).has b→ao.map (·.block)=some b:=by
  rw [hGd]
  rintro b (⟨ad',h1,h2⟩ | h1)
  ·simp only at h1;rw [h1];simp [h2]
  ·cases h1
 have hdg :∀b,(aQ d).has b→(gh g).has b:=by
  intro b hb
  have:=hdh b hb
  cases hao:ao with
  |none=>rw [hao] at this;cases this
  |some ad'=>rw [hao] at this;simp at this;subst this;exact .inr (by rw [hsub ad' hao];rfl)
 have hgg :∀b,(aQ g).has b→(gh g).has b∧ao.map (·.block)≠some b:=by
  rw [hGg]
  rintro b (⟨ad',k1,k2⟩ | k1)
  ·refine ⟨.inl ⟨ad',k1,k2⟩,fun e => ?_⟩
   cases hao:ao with
   |none=>rw [hao] at e;cases e
   |some Ak=>
    rw [hao] at e;simp at e
    have:=hsub Ak hao
    simp only at k1
    rw [h1] at k1;cases k1
    rw [e,←k2,h7] at this;cases this
  ·simp only at k1
   split at k1
   ·cases k1
   ·rename_i hc;exact ⟨.inr k1,hc⟩
 have hback :∀g1 b,(st'.o g1).aX=true→(aQ g1).has b→∃g0,(st.o g0).aX=true∧(gh g0).has b∧(g1≠g→g1≠d→g0=g1)∧((g1=g∨g1=d)→g0=g):=by
  intro g1 b h1 h2
  by_cases e:g1=g
  ·subst e;exact ⟨g1,hgo,(hgg b h2).1,fun h=>(h rfl).elim,fun _=>rfl⟩
  ·by_cases e2:g1=d
   ·subst e2;exact ⟨g,hgo,hdg b h2,fun _ h=>(h rfl).elim,fun _=>rfl⟩
   ·rw [hGo g1 e e2] at h2;rw [zf g1 e e2] at h1;exact ⟨g1,h1,h2,fun _ _=>rfl,fun h=>h.elim (fun h=>(e h).elim) (fun h=>(e2 h).elim)⟩
 have hl:Lets E st st' gh aQ w w:=by
  refine ⟨fun a' i' b hb=>⟨⟨hb.1,hb.2.1,fun g' hg' had => ?_⟩,rfl⟩,fun g' hg'=>.inr ?_⟩
  ·obtain ⟨g0,k1,k2,_⟩:=hback g' b hg' had;exact hb.2.2 g0 k1 k2
  ·by_cases e:g'=g
   ·subst e;rw [hGg,hog,ho];exact ⟨⟨rfl,rfl⟩,⟨rfl,rfl⟩⟩
   ·rw [hGo g' e (hne g' hg'),zf g' e (hne g' hg')];exact ⟨⟨rfl,rfl⟩,O.dM _⟩
 refine ⟨l',ao,k,aQ,hy,⟨ad,ob,h1,h3,h4,hv⟩,by rw [hGd],by rw [hGd],?_⟩
 rw [hst]
 refine ⟨h.step hl hss hus (fun g' => ?_) (fun g1 g2 b k1 k2 k3 k4 => ?_) (fun g1 b k1 k2 => ?_) (fun g1 i1 b k1 k2 k3 => ?_) (fun g1 k1 k2 b => ?_)
  (fun _ _ _=>rfl) (Nat.le_refl _) rfl rfl rfl (fun g' y hy => ?_) (fun g' hg' => ?_),hl⟩
 ·by_cases e:g'=g
  ·subst e
   rw [hog,hGg]
   refine .inr ⟨ad,ob,h1,h2,h3,h4,h6,⟨?_,fun b hb => ?_⟩,fun n' x' hx' j' y' hy' => ?_⟩
   ·simp only;split
    ·rfl
    ·exact h7
   ·simp only at hb;split at hb
    ·cases hb
    ·exact h7' b hb
   ·obtain ⟨v',hv',hr'⟩:=h8 n' x' hx' j' y' hy'
    refine ⟨v',hv',?_⟩
    unfold gB at hr' ⊢
    cases hc':ah.lookup j' with
    |none=>rw [hc'] at hr';exact hl.iY hr'
    |some sz2=>
     rw [hc'] at hr'
     simp only [fM] at hr' ⊢
     by_cases hnj:n=n'∧c=j'
     ·rw [if_pos hnj]
      obtain ⟨e1,e2⟩:=hnj
      subst e1 e2
      rw [hv] at hv';cases hv'
      exact ⟨FM,.own _ _ FM fun sz3 aiU hd3=>by rw [hod] at hd3;obtain ⟨e1,e2⟩:=O.iG hd3;rw [hGd,e2,e1]⟩
     ·rw [if_neg hnj]
      obtain ⟨l2,ao2,k2,q1,q2,q3,q4⟩:=hr'
      refine ⟨l2,ao2,k2,q1,q2,hl.Ag (fun _ _=>rfl) q3,fun Ak rX => ?_⟩
      have:=q4 Ak rX
      simp only
      rw [if_neg,this]
      intro e
      cases hao:ao with
      |none=>rw [hao] at e;cases e
      |some ad3=>
       rw [hao] at e;simp at e
       have h9:=hsub ad3 hao
       rw [e,this] at h9
       cases h9
       exact hnj ⟨rfl,rfl⟩
  ·by_cases e2:g'=d
   ·subst e2;rw [hod,hGd];exact hl.Ag (fun _ _=>rfl) hA
   ·rw [zf g' e e2,hGo g' e e2];exact hl.Ah (fun _ _ _=>rfl) (h.uo g') (h.aJ g')
 ·by_cases hm:(g1=g∨g1=d)∧(g2=g∨g2=d)
  ·rcases hm with ⟨m1,m2⟩
   rcases m1 with m1 | m1<;>rcases m2 with m2 | m2
   ·rw [m1,m2]
   ·subst m1 m2;exact absurd (hdh b k4) (hgg b k3).2
   ·subst m1 m2;exact absurd (hdh b k3) (hgg b k4).2
   ·rw [m1,m2]
  ·obtain ⟨p1,q1,q2,q3,q4⟩:=hback g1 b k1 k3
   obtain ⟨p2,r1,r2,r3,r4⟩:=hback g2 b k2 k4
   have:=h.inj p1 p2 b q1 r1 q2 r2
   by_cases m1:g1=g∨g1=d
   ·by_cases m2:g2=g∨g2=d
    ·exact absurd ⟨m1,m2⟩ hm
    ·rw [q4 m1,r3 (fun e=>m2 (.inl e)) (fun e=>m2 (.inr e))] at this
     exact absurd (.inl this.symm) m2
   ·by_cases m2:g2=g∨g2=d
    ·rw [r4 m2,q3 (fun e=>m1 (.inl e)) (fun e=>m1 (.inr e))] at this
     exact absurd (.inl this) m1
    ·rw [q3 (fun e=>m1 (.inl e)) (fun e=>m1 (.inr e)),r3 (fun e=>m2 (.inl e)) (fun e=>m2 (.inr e))] at this
     exact this
 ·obtain ⟨g0,q1,q2,_⟩:=hback g1 b k1 k2;exact h.wr g0 b q1 q2
 ·by_cases e:g1=g
  ·subst e;rw [hog] at k1;refine h.wi g1 i1 b ?_ (hgg b k2).1 k3;rw [ho];exact k1
  ·by_cases e2:g1=d
   ·subst e2;rw [hod] at k1;refine h.wi g i1 b ?_ (hdg b k2) k3;rw [ho];exact k1
   ·rw [zf g1 e e2] at k1;rw [hGo g1 e e2] at k2;exact h.wi g1 i1 b k1 k2 k3
 ·by_cases e:g1=g
  ·subst e;rw [hog] at k2;cases k2
  ·by_cases e2:g1=d
   ·subst e2;rw [hGd]
   ·rw [zf g1 e e2] at k1 k2;rw [hGo g1 e e2];exact h.ns g1 k1 k2 b
 ·by_cases e:g'=g
  ·subst e;rw [hog] at hy;simp [O.names,bn] at hy;subst hy;exact hud
  ·by_cases e2:g'=d
   ·subst e2;rw [hod] at hy;simp [O.names] at hy
   ·rw [zf g' e e2] at hy;exact hus _ (h.uo g' y hy)
 ·by_cases e:g'=g
  ·subst e;exact hus g' hgu
  ·by_cases e2:g'=d
   ·subst e2;exact hud
   ·rw [zf g' e e2] at hg';exact hus _ (h.ul g' hg')
end
end Go.Fw

namespace Go.Fw
set_option linter.unusedSectionVars false
variable [dA]
set_option linter.unusedVariables false
def lT (Pg:Program) (t:TypeId):TK→Prop
 |.int k=>Pg.underlying t=some (.int k)
 |.bool=>Pg.underlying t=some .bool
 |.str=>Pg.underlying t=some .string
 |.slice e=>Pg.underlying t=some (.slice e)
 |.map k e=>Pg.underlying t=some (.map k e)
 |.ptr =>∃e,Pg.underlying t=some (.pointer e)
 |.struct fs =>∃gs:Array Field,Pg.underlying t=some (.struct gs)∧gs.toList.map (fun f=>(f.offset,f.type))=fs
 |.arr n e=>Pg.underlying t=some (.array n e)
 |.other =>∃d,Pg.underlying t=some d∧(match d with | .struct _=>False | .array _ _=>False | _=>True)
structure lW (Pg:Program) (t:TypeId) (i:TI):Prop where
 row:(Pg.info? t).map (fun x=>(x.size,x.bytes,x.zero.map (·.cells.toList),x.zero.map fun z=>match z with | .agg _=>true | _=>false))=some (i.size,i.bytes,some i.zero,some i.agg)
 one:i.zero.all (·.oneCell')=true
 len:i.zero.length=i.size
 sm:i.size+1<MB
 kind:lT Pg t i.k
 eqs:i.eq=true→Pg.stoodInHeld t=false∧Pg.eqGuardType Pg.depth t=false∧∀f∈(Pg.fieldsOf t).toList,f.name≠"_"
def fF (Pg:Program) (tt:TT):Prop :=∀t i,tt t=some i→lW Pg t i
theorem lW.small {Pg:Program} {t:TypeId} {i:TI} (h:lW Pg t i):i.size<MB:=by have:=h.sm;omega
theorem lW.info {Pg:Program} {t:TypeId} {i:TI} (h:lW Pg t i) :
  ∃x z,Pg.info? t=some x∧x.size=i.size∧x.bytes=i.bytes∧x.zero=some z∧z.cells.toList=i.zero∧((match z with | .agg _=>true | _=>false)=i.agg):=by
 have h0:=h.row
 cases hx:Pg.info? t with
 |none=>rw [hx] at h0;simp at h0
 |some x=>
  rw [hx] at h0
  simp only [Option.map_some,Option.some.injEq,Prod.mk.injEq] at h0
  obtain ⟨h1,h2,h3,h4⟩:=h0
  cases hz:x.zero with
  |none=>rw [hz] at h3;simp at h3
  |some z=>
   rw [hz] at h3 h4
   simp only [Option.map_some,Option.some.injEq] at h3 h4
   exact ⟨x,z,rfl,h1,h2,hz,h3,h4⟩
section
variable {Pg:Program} {tt:TT} {w:World}
theorem rY {t:TypeId} {x:TypeInfo} (h:Pg.info? t=some x):(typeInfo t).run Pg w=.ok x w:=by
 simp [typeInfo,h]
theorem bM {t:TypeId} {i:TI} (h:lW Pg t i):(sizeOf t).run Pg w=.ok i.size w:=by
 obtain ⟨x,z,h1,h2,_⟩:=h.info
 simp [sizeOf,rY h1,h2]
theorem bP {t:TypeId} {d:TypeDesc} (h:Pg.underlying t=some d):(underlying t).run Pg w=.ok d w:=by
 simp [underlying,h]
theorem zi {t:TypeId} {i:TI} (h:lW Pg t i):(isAgg t).run Pg w=.ok i.agg w:=by
 have hk:=h.kind
 unfold isAgg TI.agg
 cases hi:i.k<;>rw [hi] at hk<;>simp only [lT] at hk
 case struct fs=>obtain ⟨gs,hu,_⟩:=hk;simp [bP hu]
 case ptr=>obtain ⟨e,hu⟩:=hk;simp [bP hu]
 case other=>obtain ⟨d,hu,hd⟩:=hk;cases d<;>simp_all [bP hu]
 all_goals simp [bP hk]
theorem iZ {t:TypeId} {i:TI} (h:lW Pg t i) :∃z,(zeroValue t).run Pg w=.ok z w∧z.cells.toList=i.zero∧((match z with | .agg _=>true | _=>false)=i.agg):=by
 obtain ⟨x,z,h1,h2,h3,h4,h5,h6⟩:=h.info
 exact ⟨z,by simp [zeroValue,rY h1,h4],h5,h6⟩
end
theorem eG {Pg:Program} {w w':World} {s:Sem Value} {v:Value} (h:s.run Pg w=.ok v w'):(do let x ←s;pure (Next.value x):Sem Next).run Pg w=.ok (.value v) w':=by
 rw [Sem.run_bind,h];rfl
theorem UF {Pg:Program} {w w':World} {s:Sem Unit} (h:s.run Pg w=.ok () w'):(do s;pure Next.skip:Sem Next).run Pg w=.ok .skip w':=by
 rw [Sem.run_bind,h];rfl
def Does (Pg:Program) (s:Sem Next) (w:World) (v:Value) (w':World):Prop:=s.run Pg w=.ok (.value v) w'∨(s.run Pg w=.ok .skip w'∧v=undef)
section
variable {E:Env} {st st':St} {gh aQ:Nat→Gh} {w w':World} {val:Nat→Value}
theorem bD.bC {x:W} {v:Value} (h:bD E st gh w (.v (.one x)) v):dP E st gh w x v:=by
 cases h with | v _ _ h=>cases h with | one _ _ h=>exact h
theorem bD.dF {a i:Bool} {x:P} {v:Value} (h:bD E st gh w (.v (.one (.p a i x))) v):aU w (E.ok st gh w a i) x v:=by
 cases h.bC with | p _ _ _ _ h=>exact h
theorem bD.FT {xs:List W} {v:Value} (h:bD E st gh w (.v (.agg xs)) v) :
  ∃cs:List Value,v=.agg cs.toArray∧xs.length=cs.length∧(∀c∈cs,c.oneCell'=true)∧∀(j:Nat) x u,xs[j]?=some x→cs[j]?=some u→dP E st gh w x u:=by
 cases h with | v _ _ h=>cases h with | agg _ cs hl hv h=>exact ⟨cs,rfl,hl,hv,h⟩
theorem bD.ofP {a i:Bool} {x:P} {v:Value} (h:aU w (E.ok st gh w a i) x v):bD E st gh w (.v (.one (.p a i x))) v:=.v _ _ (.one _ _ (.p _ _ _ _ h))
theorem bD.E_ {x:W} {v:Value} (h:dP E st gh w x v):bD E st gh w (.v (.one x)) v:=.v _ _ (.one _ _ h)
theorem aU.cZ {ok:Nat→Prop} {k:IntKind} {n:Int} {v:Value} (h:aU w ok (.int k n) v):v=.int k n:=by cases h;rfl
theorem aU.iI {ok:Nat→Prop} {b:Bool} {v:Value} (h:aU w ok (.bool b) v):v=.bool b:=by cases h;rfl
theorem aU.kX {ok:Nat→Prop} {s:ByteArray} {v:Value} (h:aU w ok (.str s) v):v=.string s:=by cases h;rfl
theorem still (h:Rel E st gh val w) {Pg:Program} {s:Sem Next} {x:S} {v:Value} (hr:s.run Pg w=.ok (.value v) w) (hx:bD E st gh w x v) (hu :∀g∈x.names,st.used g=true) :
  ∃v w' aQ,Does Pg s w v w'∧Rel E (st.au [] []) aQ val w'∧Lets E st (st.au [] []) gh aQ w w'∧bD E (st.au [] []) aQ w' x v∧∀g∈x.names,(st.au [] []).used g=true:=by
 have e:st.au [] []=st:=by simp [St.au]
 rw [e]
 exact ⟨v,w,gh,.inl hr,h,⟨fun a i b hb=>⟨hb,rfl⟩,fun g _=>.inr ⟨⟨rfl,rfl⟩,O.dM _⟩⟩,hx,hu⟩
end
def dD (Pg:Program) (tt:TT) (op:Op):Prop:=
 ∀(E:Env) (st:St) (gh:Nat→Gh) (val:Nat→Value) (w:World) (ρ:Operand→Value) (F:Operand→S) (o:Oper) (d:Nat) (r:Ae),o.op=op→Rel E st gh val w→
  (∀x,bD E st gh w (F x) (ρ x))→(∀x,∀g∈(F x).names,st.used g=true)→kernel tt d st.o F op o.type=some r→r.pre→(∀g∈r.new,st.used g=false)→
  ∃v w' aQ,Does Pg (execOp ρ o) w v w'∧Rel E (st.au (r.au r.val) r.new) aQ val w'∧Lets E st (st.au (r.au r.val) r.new) gh aQ w w'∧bD E (st.au (r.au r.val) r.new) aQ w' (r.dst r.val) v∧
   ∀g∈(r.dst r.val).names,(st.au (r.au r.val) r.new).used g=true
theorem Ru {Pg:Program} {tt:TT} (x:Operand):dD Pg tt (.move x):=by
 intro E st gh val w ρ F o d r ho h hF hFn hk hp hd
 simp only [kernel] at hk
 split at hk
 ·cases hk
 ·simp only [Option.some.injEq] at hk;subst hk
  exact still h (v:=ρ x) (by simp [execOp,ho]) (hF x) (hFn x)
theorem LY {Pg:Program} {tt:TT} (x:Operand):dD Pg tt (.assign x):=by
 intro E st gh val w ρ F o d r ho h hF hFn hk hp hd
 simp only [kernel] at hk
 split at hk
 ·cases hk
 ·simp only [Option.some.injEq] at hk;subst hk
  exact still h (v:=ρ x) (by simp [execOp,ho]) (hF x) (hFn x)
theorem Env.kC {E:Env} {st:St} {gh:Nat→Gh} {w:World} {a i a' i':Bool} {b:Nat} (ha:a=true→a'=true) (hi:i=true→i'=true) (h:E.ok st gh w a i b):E.ok st gh w a' i' b:=by
 refine ⟨?_,h.2⟩
 rcases h.1 with ⟨x,y⟩ | ⟨x,y⟩ | y
 ·exact .inl ⟨ha x,y⟩
 ·exact .inr (.inl ⟨hi x,y⟩)
 ·exact .inr (.inr y)
theorem Rw {Pg:Program} {tt:TT} (c x y:Operand):dD Pg tt (.pick c x y):=by
 intro E st gh val w ρ F o d r ho h hF hFn hk hp hd
 simp only [kernel] at hk
 split at hk
 ·rename_i a i b hc
  have rc:=hF c;rw [hc] at rc
  have hb:=rc.dF.iI
  have hS:bD E st gh w (bif b then F x else F y) (if b=true then ρ x else ρ y):=by cases b<;>first | exact hF x | exact hF y
  have hN :∀g∈(bif b then F x else F y).names,st.used g=true:=by cases b<;>first | exact hFn x | exact hFn y
  have hrun:(execOp ρ o).run Pg w=.ok (.value (if b=true then ρ x else ρ y)) w:=by simp [execOp,ho,hb,asBool]
  split at hk
  ·rename_i a1 i1 x1 a2 i2 y1 hx hy
   simp only [Option.some.injEq] at hk;subst hk
   refine still h (v:=if b=true then ρ x else ρ y) hrun ?_ (by intro g hg;simp [S.names,V.names,W.names] at hg)
   have rx:=hF x;rw [hx] at rx
   have ry:=hF y;rw [hy] at ry
   refine bD.ofP ?_
   cases b
   ·exact (ry.dF).mono fun _ hok=>⟨Env.kC (by intro h;simp [h]) (by intro h;simp [h]) hok,rfl⟩
   ·exact (rx.dF).mono fun _ hok=>⟨Env.kC (by intro h;simp [h]) (by intro h;simp [h]) hok,rfl⟩
  ·generalize (bif b then F x else F y)=s at hk hS hN
   split at hk
   ·cases hk
   ·simp only [Option.some.injEq] at hk;subst hk
    exact still h (v:=if b=true then ρ x else ρ y) hrun hS hN
 ·cases hk
def P.val:P→Value
 |.int k n=>.int k n
 |.bool b=>.bool b
 |.str s=>.string s
 |_=>undef
theorem UG {Pg:Program} {w:World} {ok ok' WB:Nat→Prop} {op:BinOp} {t:TypeId} {x y:P} {vx vy:Value} {ox oy:Operand} (rx:aU w ok x vx) (ry:aU w ok' y vy) (hp:P.OA op x y) :
  (eqGuard op t ox oy vx vy >>= fun _=>binOp op t vx vy).run Pg w=.ok (P.bin op x y).val w∧aU w WB (P.bin op x y) (P.bin op x y).val:=by
 cases x<;>cases y<;>simp only [P.OA] at hp<;>try exact hp.elim
 case int.int k a k' b=>
  obtain rfl:=rx.cZ
  obtain rfl:=ry.cZ
  have hg:(eqGuard op t ox oy (.int k a) (.int k' b)).run Pg w=.ok () w:=by simp [eqGuard]
  simp only [Sem.run_bind,hg,Result.andThen_ok]
  cases op
  case quo=>obtain ⟨rfl,hb⟩:=hp;exact ⟨by simp [binOp,Op.intDiv,hb,P.bin,P.val],.int _ _⟩
  case rem=>obtain ⟨rfl,hb⟩:=hp;exact ⟨by simp [binOp,Op.intDiv,hb,P.bin,P.val],.int _ _⟩
  case shl=>exact ⟨by simp [binOp,Op.shift,show ¬ b<0 by omega,P.bin,P.val],.int _ _⟩
  case shr=>exact ⟨by simp [binOp,Op.shift,show ¬ b<0 by omega,P.bin,P.val],.int _ _⟩
  case eql=>subst hp;exact ⟨by simp [binOp,Op.intCmp,P.bin,P.val],.bool _⟩
  case neq=>subst hp;exact ⟨by simp [binOp,Op.intCmp,P.bin,P.val],.bool _⟩
  case lss=>subst hp;exact ⟨by simp [binOp,Op.intCmp,P.bin,P.val],.bool _⟩
  case leq=>subst hp;exact ⟨by simp [binOp,Op.intCmp,P.bin,P.val],.bool _⟩
  case gtr=>subst hp;exact ⟨by simp [binOp,Op.intCmp,P.bin,P.val],.bool _⟩
  case geq=>subst hp;exact ⟨by simp [binOp,Op.intCmp,P.bin,P.val],.bool _⟩
  case add=>subst hp;exact ⟨by simp [binOp,Op.intArith,P.bin,P.val],.int _ _⟩
  case sub=>subst hp;exact ⟨by simp [binOp,Op.intArith,P.bin,P.val],.int _ _⟩
  case mul=>subst hp;exact ⟨by simp [binOp,Op.intArith,P.bin,P.val],.int _ _⟩
  case and=>subst hp;exact ⟨by simp [binOp,Op.intBits,P.bin,P.val,bits],.int _ _⟩
  case or=>subst hp;exact ⟨by simp [binOp,Op.intBits,P.bin,P.val,bits],.int _ _⟩
  case xor=>subst hp;exact ⟨by simp [binOp,Op.intBits,P.bin,P.val,bits],.int _ _⟩
  case andNot=>subst hp;exact ⟨by simp [binOp,Op.intBits,P.bin,P.val,bits],.int _ _⟩
 case str.str a b=>
  obtain rfl:=rx.kX
  obtain rfl:=ry.kX
  have hg:(eqGuard op t ox oy (.string a) (.string b)).run Pg w=.ok () w:=by simp [eqGuard]
  simp only [Sem.run_bind,hg,Result.andThen_ok]
  cases op<;>simp only at hp<;>try exact hp.elim
  case add=>
   have:¬ ((a.size+b.size:Nat):Int)>IntKind.i64.max:=by simp [IntKind.max,IntKind.signed,IntKind.bits];omega
   exact ⟨by simp only [binOp,Op.stringOp,if_neg this];simp [P.bin,P.val],.str _⟩
  all_goals exact ⟨by simp [binOp,Op.stringOp,P.bin,P.val],.bool _⟩
theorem Yy {Pg:Program} {w:World} {ok ok' WB:Nat→Prop} {op:BinOp} {t:TypeId} {x y:P} {vx vy:Value} {ox oy:Operand} (rx:aU w ok x vx) (ry:aU w ok' y vy) (hp:P.LU op x y)
  (ht:Pg.underlying t=some .bool) :
  (eqGuard op t ox oy vx vy >>= fun _=>binOp op t vx vy).run Pg w=.ok (P.bin op x y).val w∧aU w WB (P.bin op x y) (P.bin op x y).val:=by
 cases x<;>cases y<;>simp only [P.LU] at hp<;>try exact hp.elim
 case bool.bool a b=>
  obtain rfl:=rx.iI
  obtain rfl:=ry.iI
  have hg:(eqGuard op t ox oy (.bool a) (.bool b)).run Pg w=.ok () w:=by simp [eqGuard]
  simp only [Sem.run_bind,hg,Result.andThen_ok]
  have heq:(Op.equal t (.bool a) (.bool b)).run Pg w=.ok (a==b) w:=by
   unfold Op.equal Op.maxDepth
   show (Op.equalIn (9999+1) t _ _).run Pg w=_
   unfold Op.equalIn
   simp [bP ht]
  rcases hp with rfl | rfl
  ·exact ⟨by simp [binOp,heq,P.bin,P.val],.bool _⟩
  ·exact ⟨by simp [binOp,heq,P.bin,P.val,bne],.bool _⟩
theorem eX {Pg:Program} {tt:TT} {E:Env} {st:St} {gh:Nat→Gh} {val:Nat→Value} {w:World} (h:Rel E st gh val w) {s:Sem Next} {x:P} {v:Value} (hr:s.run Pg w=.ok (.value v) w)
  (hx :∀ok,aU w ok x v) :∃v w' aQ,Does Pg s w v w'∧Rel E (st.au [] []) aQ val w'∧Lets E st (st.au [] []) gh aQ w w'∧bD E (st.au [] []) aQ w' (scalar x) v∧
   ∀g∈(scalar x).names,(st.au [] []).used g=true:=
 still h hr (bD.ofP (hx _)) (by simp [scalar,S.names,V.names,W.names])
theorem DW {Pg:Program} {w:World} {tt:TT} (htt:fF Pg tt) {E:Env} {st:St} {gh:Nat→Gh} {d:Nat} {t:TypeId} {i:TI} (ht:tt t=some i) (hf:i.k.flat=true) {a1 i1 a2 i2:Bool} {x y:P} {u v:Value}
  (hx:dP E st gh w (.p a1 i1 x) u) (hy:dP E st gh w (.p a2 i2 y) v) (ha:UC i.k x y):(Op.equalIn (d+1) t u v).run Pg w=.ok (P.Yi x y) w:=by
 have hk:=(htt _ _ ht).kind
 cases hx with
 |p _ _ _ _ hx=>
  cases hy with
  |p _ _ _ _ hy=>
   revert hk hf ha
   cases i.k<;>intro hf ha hk<;>simp only [TK.flat] at hf<;>try (cases hf;done)
   all_goals (cases x<;>cases y<;>try exact False.elim ha)
   ·obtain rfl:=hx.cZ;obtain rfl:=hy.cZ;obtain rfl:_=_:=ha
    exact run_equalIn_int w d t _ _ _ _ hk
   ·obtain rfl:=hx.iI;obtain rfl:=hy.iI
    exact run_equalIn_bool' w d t _ _ hk
   ·obtain rfl:=hx.kX;obtain rfl:=hy.kX
    rw [run_equalIn_string w d t _ _ hk,←beq_toListBytes];rfl
theorem yc {Pg:Program} {w:World} {tt:TT} (htt:fF Pg tt) {t:TypeId} {i:TI} (ht:tt t=some i) (hf:i.k.flat=true) {cs:List Value} {n:Nat} {v:Value} (hv:cs[n]?=some v):(part t cs.toArray n).run Pg w=.ok v w:=by
 have ha:i.agg=false:=by
  revert hf;unfold TI.agg
  cases i.k<;>intro h<;>first | rfl | cases h
 simp only [part,Sem.run_bind,zi (htt _ _ ht),ha,Result.andThen_ok,Bool.false_eq_true,if_false]
 rw [List.getElem?_toArray,hv];rfl
theorem Am {Pg:Program} {w:World} {tt:TT} (htt:fF Pg tt) {E:Env} {st:St} {gh:Nat→Gh} {d:Nat} {cs ds:List Value} :∀(gs:List Field) (n:Nat) (xs ys:List W) (c:Prop×Bool),(∀f∈gs,f.name≠"_")→
  lU tt n (gs.map fun f=>(f.offset,f.type)) xs ys=some c→(∀(j:Nat) x,xs[j]?=some x→∃u,cs[n+j]?=some u∧dP E st gh w x u)→(∀(j:Nat) x,ys[j]?=some x→∃u,ds[n+j]?=some u∧dP E st gh w x u)→c.1→
  (Op.eqFields (d+1) cs.toArray ds.toArray gs).run Pg w=.ok c.2 w
 | [],n,[],[],c,_,h,_,_,_=>by
  simp only [List.map_nil,lU,Option.some.injEq] at h;subst h;rfl
 |f::gs,n,x::xs,y::ys,c,hn,h,hx,hy,hc=>by
  cases x with
  |p a1 i1 x=>cases y with
   |p a2 i2 y=>
    simp only [List.map_cons,lU] at h
    split at h
    ·rename_i i hi
     split at h
     ·rename_i hoff
      split at h
      ·rename_i c' hc'
       simp only [Option.some.injEq] at h;subst h
       obtain ⟨u,hu,ru⟩:=hx 0 _ rfl
       obtain ⟨v,hv,rv⟩:=hy 0 _ rfl
       obtain ⟨o1,o2,o3⟩:=hoff
       have ih:=Am htt (d:=d) (cs:=cs) (ds:=ds) gs (n+1) xs ys c' (fun f hf=>hn f (List.mem_cons_of_mem _ hf)) hc' (fun j x h=>by have:=hx (j+1) x h;rwa [show n+(j+1)=n+1+j by omega] at this) (fun j x h=>by have:=hy (j+1) x h;rwa [show n+(j+1)=n+1+j by omega] at this) hc.2
       have hne:=hn f List.mem_cons_self
       rw [Nat.add_zero] at hu hv
       simp only [Op.eqFields,if_pos hne,Sem.run_bind,o1,yc htt hi o2 hu,yc htt hi o2 hv,Result.andThen_ok,DW htt hi o2 ru rv hc.1]
       cases P.Yi x y
       ·rfl
       ·simpa using ih
      ·cases h
     ·cases h
    ·cases h
   |_=>simp [lU] at h
  |_=>simp [lU] at h
 | [],n,_::_,_,c,_,h,_,_,_=>by simp [lU] at h
 | [],n,[],_::_,c,_,h,_,_,_=>by simp [lU] at h
 |f::gs,n,[],_,c,_,h,_,_,_=>by simp [lU] at h
 |f::gs,n,x::xs,[],c,_,h,_,_,_=>by cases x<;>simp [lU] at h
theorem J7 {Pg:Program} {w:World} {tt:TT} (htt:fF Pg tt) {E:Env} {st:St} {gh:Nat→Gh} {d:Nat} {cs ds:List Value} {e:TypeId} :∀(m n:Nat) (xs ys:List W) (c:Prop×Bool),
  lU tt n ((List.range' n m).map fun i=>(i,e)) xs ys=some c→(∀(j:Nat) x,xs[j]?=some x→∃u,cs[n+j]?=some u∧dP E st gh w x u)→(∀(j:Nat) x,ys[j]?=some x→∃u,ds[n+j]?=some u∧dP E st gh w x u)→c.1→
  (Op.eqItems (d+1) e 1 cs.toArray ds.toArray (List.range' n m)).run Pg w=.ok c.2 w∧(0<m→∃i,tt e=some i∧i.size=1)
 |0,n,[],[],c,h,_,_,_=>by
  simp only [List.range'_zero,List.map_nil,lU,Option.some.injEq] at h;subst h;exact ⟨rfl,fun h=>absurd h (Nat.lt_irrefl 0)⟩
 |m+1,n,x::xs,y::ys,c,h,hx,hy,hc=>by
  rw [List.range'_succ] at h ⊢
  cases x with
  |p a1 i1 x=>cases y with
   |p a2 i2 y=>
    simp only [List.map_cons,lU] at h
    split at h
    ·rename_i i hi
     split at h
     ·rename_i hoff
      split at h
      ·rename_i c' hc'
       simp only [Option.some.injEq] at h;subst h
       obtain ⟨u,hu,ru⟩:=hx 0 _ rfl
       obtain ⟨v,hv,rv⟩:=hy 0 _ rfl
       obtain ⟨o1,o2,o3⟩:=hoff
       have ih:=(J7 htt (d:=d) (cs:=cs) (ds:=ds) m (n+1) xs ys c' hc' (fun j x h=>by have:=hx (j+1) x h;rwa [show n+(j+1)=n+1+j by omega] at this) (fun j x h=>by have:=hy (j+1) x h;rwa [show n+(j+1)=n+1+j by omega] at this) hc.2).1
       rw [Nat.add_zero] at hu hv
       refine ⟨?_,fun _=>⟨i,hi,o3⟩⟩
       simp only [Op.eqItems,Sem.run_bind,Nat.mul_one,yc htt hi o2 hu,yc htt hi o2 hv,Result.andThen_ok,DW htt hi o2 ru rv hc.1]
       cases P.Yi x y
       ·rfl
       ·simpa using ih
      ·cases h
     ·cases h
    ·cases h
   |_=>simp [lU] at h
  |_=>simp [lU] at h
 |0,n,_::_,_,c,h,_,_,_=>by simp [lU] at h
 |0,n,[],_::_,c,h,_,_,_=>by simp [lU] at h
 |m+1,n,[],_,c,h,_,_,_=>by simp [List.range'_succ,lU] at h
 |m+1,n,x::xs,[],c,h,_,_,_=>by cases x<;>simp [List.range'_succ,lU] at h
theorem OD {Pg:Program} {w:World} {tt:TT} (htt:fF Pg tt) {E:Env} {st:St} {gh:Nat→Gh} {t:TypeId} {i:TI} (ok:lW Pg t i) (hs:Pg.stoodInHeld t=false) (hn :∀f∈(Pg.fieldsOf t).toList,f.name≠"_") {xs ys:List W} {c:Prop×Bool} {cs ds:List Value}
  (h:lU tt 0 i.k.parts xs ys=some c) (hl:xs.length=cs.length) (hl':ys.length=ds.length) (hr :∀(j:Nat) x u,xs[j]?=some x→cs[j]?=some u→dP E st gh w x u) (hr' :∀(j:Nat) x u,ys[j]?=some x→ds[j]?=some u→dP E st gh w x u) (hc:c.1) :
  (Op.equalIn 10000 t (.agg cs.toArray) (.agg ds.toArray)).run Pg w=.ok c.2 w:=by
 have key :∀{zs:List W} {es:List Value},zs.length=es.length→(∀(j:Nat) x u,zs[j]?=some x→es[j]?=some u→dP E st gh w x u)→∀(j:Nat) x,zs[j]?=some x→∃u,es[0+j]?=some u∧dP E st gh w x u:=by
  intro zs es he hr j x hx
  have hj:=(List.getElem?_eq_some_iff.1 hx).1
  exact ⟨es[j]'(by omega),by rw [Nat.zero_add,List.getElem?_eq_getElem (by omega)],hr j x _ hx (List.getElem?_eq_getElem (by omega))⟩
 have hk:=ok.kind
 have k1:=key hl hr;have k2:=key hl' hr'
 cases hki:i.k with
 |struct fs=>
  rw [hki] at hk h
  obtain ⟨gs,g1,g2⟩:=hk
  have hf:Pg.fieldsOf t=gs:=by unfold Program.fieldsOf;rw [g1]
  rw [run_equalIn_struct w 9999 t _ _ (by rw [hf];exact g1) hs,hf]
  rw [hf] at hn
  simp only [TK.parts] at h
  rw [←g2] at h
  exact Am htt gs.toList 0 xs ys c hn h k1 k2 hc
 |arr n e=>
  rw [hki] at hk h
  simp only [TK.parts] at h
  split at h
  ·cases xs with
   |nil=>simp [lU] at h
   |cons x xs=>cases ys with
    |nil=>cases x<;>simp [lU] at h
    |cons y ys=>cases x<;>cases y<;>simp [lU] at h<;>(split at h<;>cases h)
  ·rename_i hn0
   obtain ⟨r1,r2⟩:=J7 htt (d:=9998) n 0 xs ys c h k1 k2 hc
   obtain ⟨ie,he,hsz⟩:=r2 (by omega)
   obtain ⟨info,z,hi,hsi,_⟩:=(htt _ _ he).info
   rw [run_equalIn_array w 9999 _ _ hk hi,List.range_eq_range']
   have:Pg.cellsOf e=1:=by unfold Program.cellsOf;rw [hi];simp [hsi,hsz]
   rw [this];exact r1
 |_=>
  rw [hki] at h
  simp only [TK.parts] at h
  cases xs with
  |nil=>simp [lU] at h
  |cons x xs=>cases ys with
   |nil=>cases x<;>simp [lU] at h
   |cons y ys=>cases x<;>cases y<;>simp [lU] at h<;>(split at h<;>cases h)
theorem WC {Pg:Program} {tt:TT} (htt:fF Pg tt) (op:BinOp) (t:TypeId) (x y:Operand) (u:TypeId):dD Pg tt (.binOp op t x y u):=by
 intro E st gh val w ρ F o d r ho h hF hFn hk hp hd
 simp only [kernel] at hk
 split at hk
 ·rename_i a i x' a' i' y' hx hy
  have rx:=hF x;rw [hx] at rx
  have ry:=hF y;rw [hy] at ry
  split at hk
  ·simp only [Option.some.injEq] at hk;subst hk
   have hb:=fun ok=>UG (Pg:=Pg) (WB:=ok) (t:=t) (ox:=x) (oy:=y) rx.dF ry.dF hp
   exact eX (tt:=tt) h (by unfold execOp;rw [ho];exact eG (hb fun _=>True).1) fun ok=>(hb ok).2
  ·simp only [Option.some.injEq] at hk;subst hk
   have hb:=fun ok=>UG (Pg:=Pg) (WB:=ok) (t:=t) (ox:=x) (oy:=y) rx.dF ry.dF hp
   exact eX (tt:=tt) h (by unfold execOp;rw [ho];exact eG (hb fun _=>True).1) fun ok=>(hb ok).2
  ·rename_i ht
   simp only [Option.some.injEq] at hk;subst hk
   have hb:=fun ok=>Yy (Pg:=Pg) (WB:=ok) (t:=t) (ox:=x) (oy:=y) rx.dF ry.dF hp (htt _ _ ht).kind
   exact eX (tt:=tt) h (by unfold execOp;rw [ho];exact eG (hb fun _=>True).1) fun ok=>(hb ok).2
  ·cases hk
 ·rename_i xs ys hx hy
  split at hk
  ·rename_i i ht
   split at hk
   ·rename_i c b hc hb
    split at hk
    ·rename_i he
     simp only [Option.some.injEq] at hk;subst hk
     have rx:=hF x;rw [hx] at rx
     have ry:=hF y;rw [hy] at ry
     obtain ⟨cs,hcs,hl,_,hr⟩:=rx.FT
     obtain ⟨ds,hds,hl',_,hr'⟩:=ry.FT
     obtain ⟨e1,e2,e3⟩:=(htt _ _ ht).eqs he
     have hrun:=OD htt (htt _ _ ht) e1 e3 hc hl hl' hr hr' hp
     refine eX (tt:=tt) h (v:=.bool (c.2==b)) ?_ fun ok=>.bool _
     unfold execOp;rw [ho]
     refine eG ?_
     rw [hcs,hds,Sem.run_bind,run_eqGuard_agg w op t x y _ _ e2,Result.andThen_ok]
     cases op<;>simp only [abt] at hb<;>cases hb
     ·rw [run_eql_struct,hrun,Result.andThen_ok];simp
     ·rw [run_neq_struct,hrun,Result.andThen_ok];cases c.2<;>rfl
    ·cases hk
   ·cases hk
  ·cases hk
 ·cases hk
theorem Yz {Pg:Program} {tt:TT} (op:UnOp) (t:TypeId) (x:Operand):dD Pg tt (.unOp op t x):=by
 intro E st gh val w ρ F o d r ho h hF hFn hk hp hd
 simp only [kernel] at hk
 split at hk
 ·rename_i a i x' hx
  simp only [Option.some.injEq] at hk;subst hk
  have rx:=hF x;rw [hx] at rx
  have rx:=rx.dF
  have hp:P.aeh op x':=hp
  have hb:(Op.unary op (ρ x)).run Pg w=.ok (P.un op x').val w∧∀ok,aU w ok (P.un op x') (P.un op x').val:=by
   cases op<;>cases x'<;>simp only [P.aeh] at hp
   ·rw [rx.cZ];exact ⟨by simp [Op.unary,Op.intArith,P.un,P.val],fun ok=>.int _ _⟩
   ·rw [rx.iI];exact ⟨by simp [Op.unary,P.un,P.val],fun ok=>.bool _⟩
  exact eX (tt:=tt) h (by unfold execOp;rw [ho];exact eG hb.1) hb.2
 ·cases hk
theorem bU {x:W} {g:Nat}:g∈(S.v (.one x)).names↔g∈x.names:=by simp [S.names,V.names]
theorem Addr.fK (b o n:Nat):(⟨b,o,none⟩:Addr).add n=⟨b,o+n,none⟩:=by
 unfold Addr.add
 split
 ·simp [*]
 ·rfl
theorem dP.Gt {E:Env} {st:St} {gh:Nat→Gh} {w:World} {x:W} {v:Value} (h:dP E st gh w x v) (hx:x.live st.o=true) :
  ∃b o,v=.pointer (some ⟨b,o,none⟩)∧∀n,dP E st gh w (x.shift n) (.pointer (some ⟨b,o+n,none⟩)):=by
 cases h with
 |box g off v hv hb=>
  simp only [W.live] at hx
  cases ho:st.o g with
  |box ws=>
   obtain ⟨ad,had,he⟩:=hb ws ho
   refine ⟨_,_,he,fun n=>.box g (off+n) _ rfl fun ws' _=>⟨ad,had,by rw [Nat.add_assoc]⟩⟩
  |_=>rw [ho] at hx;cases hx
 |ep g n off v hv hb=>
  simp only [W.live] at hx
  cases ho:(st.o g).dim with
  |some x=>
   obtain ⟨sz,len⟩:=x
   obtain ⟨ad,k,had,hn,hk,he⟩:=hb _ _ ho
   refine ⟨_,_,he,fun m=>.ep g n (off+m) _ rfl fun sz' len' ho' => ?_⟩
   rw [ho] at ho';cases ho'
   exact ⟨ad,k,had,hn,hk,by rw [Nat.add_assoc]⟩
  |none=>rw [ho] at hx;cases hx
 |sp a i row off b o hb hr=>exact ⟨b,o+off,rfl,fun n=>by rw [Nat.add_assoc];exact .sp a i row (off+n) b o hb hr⟩
 |_=>simp [W.live] at hx
theorem W.DX (n:Nat) (x:W):(x.shift n).names=x.names:=by cases x<;>simp [W.shift,W.names]
theorem Gu {Pg:Program} {tt:TT} (x:Operand):dD Pg tt (.nilCheck x):=by
 intro E st gh val w ρ F o d r ho h hF hFn hk hp hd
 simp only [kernel] at hk
 split at hk
 ·rename_i x' hx
  split at hk
  ·rename_i hl
   simp only [Option.some.injEq] at hk;subst hk
   have rx:=hF x;rw [hx] at rx
   obtain ⟨b,o',he,_⟩:=rx.bC.Gt hl
   exact still h (v:=ρ x) (by unfold execOp;rw [ho];simp [he]) rx (by have:=hFn x;rw [hx] at this;exact this)
  ·cases hk
 ·cases hk
theorem wF {tt:TT} {t:TypeId} {fs:List (Nat×TypeId)} {a b:Nat} {z:List Value} {n off sz:Nat} (ht:tt t=some ⟨.struct fs,a,b,z⟩) (hp:placeOf tt t n=some (off,sz)) :
  ∃u iu,fs[n]?=some (off,u)∧tt u=some iu∧iu.size=sz:=by
 unfold placeOf at hp
 rw [ht] at hp
 simp only at hp
 split at hp
 ·rename_i off' u hn
  cases hu:tt u with
  |none=>rw [hu] at hp;simp at hp
  |some iu=>
   rw [hu] at hp
   simp only [Option.map_some,Option.some.injEq,Prod.mk.injEq] at hp
   exact ⟨u,iu,by rw [hn,hp.1],hu,hp.2⟩
 ·cases hp
theorem Ap {Pg:Program} {t:TypeId} {fs:List (Nat×TypeId)} {a b:Nat} {z:List Value} (h:lW Pg t ⟨.struct fs,a,b,z⟩) {n off:Nat} {u:TypeId} (hn:fs[n]?=some (off,u)) :
  ∃gs f,Pg.underlying t=some (.struct gs)∧gs[n]?=some f∧f.offset=off∧f.type=u:=by
 obtain ⟨gs,hu,hf⟩:=h.kind
 rw [←hf] at hn
 simp only [List.getElem?_map,Option.map_eq_some_iff,Prod.mk.injEq] at hn
 obtain ⟨f,h1,h2,h3⟩:=hn
 exact ⟨gs,f,hu,by simpa using h1,h2,h3⟩
theorem Fa {Pg:Program} {tt:TT} (htt:fF Pg tt) (t:TypeId) (x:Operand) (n:Nat):dD Pg tt (.fieldAddr t x n):=by
 intro E st gh val w ρ F o d r ho h hF hFn hk hp hd
 simp only [kernel] at hk
 split at hk
 ·rename_i fs _ _ _ off' sz' x' ht hpl hx
  split at hk
  ·rename_i hl
   simp only [Option.some.injEq] at hk;subst hk
   have rx:=hF x;rw [hx] at rx
   obtain ⟨b,o',he,hsh⟩:=rx.bC.Gt hl.2
   obtain ⟨u,iu,h1,h2,h3⟩:=wF ht hpl
   obtain ⟨gs,f,g1,g2,g3,g4⟩:=Ap (htt _ _ ht) h1
   have hsz:(sizeOf f.type).run Pg w=.ok sz' w:=by rw [g4,←h3];exact bM (htt _ _ h2)
   have hr:(Instr.fieldAt t (ρ x) n).run Pg w=.ok (.pointer (some ⟨b,o'+off',none⟩)) w:=by
    have hne:sz'≠0:=by omega
    rw [he]
    simp [Instr.fieldAt,bP g1,g2,Instr.sureAddr,fieldPlace,hsz,hne,g3,Addr.fK]
   refine still h (v:=.pointer (some ⟨b,o'+off',none⟩)) (by unfold execOp;rw [ho];exact eG hr) (bD.E_ (hsh off')) fun g hg=>hFn x g ?_
   have hg:g∈(S.v (.one (x'.shift off'))).names:=hg
   rw [bU,W.DX] at hg
   rw [hx,bU];exact hg
  ·cases hk
 ·cases hk
theorem Jz {Pg:Program} {tt:TT} (t:Operand) (n:Nat):dD Pg tt (.extract t n):=by
 intro E st gh val w ρ F o d r ho h hF hFn hk hp hd
 simp only [kernel] at hk
 split at hk
 ·rename_i xs hx
  split at hk
  ·rename_i x' hn
   simp only [Option.some.injEq] at hk;subst hk
   have rx:=hF t;rw [hx] at rx
   cases hv:ρ t with
   |tuple vs=>
    rw [hv] at rx
    obtain ⟨l⟩:=vs
    cases rx with | jH _ _ hl hr=>
    have hlt:n<l.length:=by
     have:=(List.getElem?_eq_some_iff.1 hn).1;omega
    have hu:l[n]?=some l[n]:=List.getElem?_eq_getElem hlt
    refine still h (v:=l[n]) (by unfold execOp;rw [ho];refine eG ?_;rw [hv];simp [Instr.extract,hu]) (.v _ _ (hr n _ _ hn hu)) fun g hg => ?_
    exact hFn t g (by rw [hx];simp only [S.names,List.mem_flatMap];exact ⟨x',List.mem_of_getElem? hn,hg⟩)
   |_=>rw [hv] at rx;cases rx
  ·cases hk
 ·cases hk
theorem WE {E:Env} {st:St} {gh:Nat→Gh} {w:World} {x:W} {v:Value} {ask:Prop} {n:P} (h:dP E st gh w x v) (hl:lenOf st.o x=some (ask,n)) (ha:ask) :
  ∃ao m cap,v=.slice ao m cap∧n=.int .i64 (m:Nat):=by
 cases h with
 |p a i x v hx=>
  simp only [lenOf,Option.some.injEq,Prod.mk.injEq] at hl
  obtain ⟨rfl,rfl⟩:=hl
  cases x with
  |sl sz l=>
   cases hx with
   |nil sz ao cap=>exact ⟨ao,0,cap,rfl,rfl⟩
   |sl sz l a cap f h1 h2 h3 h4 h5 h6=>exact ⟨some a,_,cap,rfl,rfl⟩
  |_=>exact ha.elim
 |bg=>
  simp only [lenOf,Option.some.injEq,Prod.mk.injEq] at hl
  exact ⟨none,0,0,rfl,hl.2.symm⟩
 |own g v hv hx=>
  simp only [lenOf] at hl
  split at hl
  ·rename_i ho
   split at hl
   ·rename_i hlt
    simp only [Option.some.injEq,Prod.mk.injEq] at hl
    exact ⟨_,_,_,(hx _ _ ho).trans (fD hlt),hl.2.symm⟩
   ·cases hl
  ·cases hl
 |vw g lo hi v hv hx=>
  simp only [lenOf] at hl
  split at hl
  ·rename_i ho
   simp only [Option.some.injEq,Prod.mk.injEq] at hl
   obtain ⟨n',m',c',rfl,rfl,h1,h2,hc',he⟩:=hx _ _ ho
   exact ⟨_,m'-n',_,he,by rw [←hl.2];simp [P.nat,P.num]⟩
  ·cases hl
 |_=>simp [lenOf] at hl
theorem zl {α:Type} {a:Array α} {x:α} (h:a.toList=[x]):a=#[x]:=by
 cases a;simp_all
theorem pU {α:Type} {a:Array α} {x y:α} (h:a.toList=[x,y]):a=#[x,y]:=by
 cases a;simp_all
theorem gW {Pg:Program} {w w':World} {ρ:Operand→Value} {o:Oper} {b:Builtin} {args:Array Operand} {ts:Array TypeId} {n:Next} (ho:o.op=.call { callee:=.builtin b,args:=args,argTypes:=ts })
  (h:(builtin b ts o.type (args.map fun | .const _=>true | _=>false) (args.map ρ)).run Pg w=.ok n w'):(execOp ρ o).run Pg w=.ok n w':=by
 unfold execOp
 rw [ho]
 simp only [resolve,invoke,Sem.run_bind,Sem.run_pure,Result.andThen_ok]
 exact h
theorem WG {Pg:Program} {tt:TT} (htt:fF Pg tt) (args:Array Operand) (ts:Array TypeId):dD Pg tt (.call { callee:=.builtin .len,args:=args,argTypes:=ts }):=by
 intro E st gh val w ρ F o d r ho h hF hFn hk hp hd
 simp only [kernel] at hk
 split at hk
 ·rename_i x t ha ht
  obtain rfl:=zl ha
  obtain rfl:=zl ht
  split at hk
  ·rename_i e _ _ _ x' aem hx
   have rx:=hF x;rw [hx] at rx
   split at hk
   ·rename_i ask n hl
    simp only [Option.some.injEq] at hk;subst hk
    obtain ⟨ao,m,cap,hv,rfl⟩:=WE rx.bC hl hp
    have hu:=(htt _ _ aem).kind
    refine eX (tt:=tt) h (v:=.int .i64 m) (gW ho ?_) fun ok=>.int _ _
    simp only [lT] at hu
    simp [builtin,Builtin.len_,bP hu,hv,goInt]
   ·cases hk
  ·rename_i a i x' aem hx
   simp only [Option.some.injEq] at hk;subst hk
   have rx:=hF x;rw [hx] at rx
   have hu:=(htt _ _ aem).kind
   cases x' with
   |str s=>
    have hv:=rx.dF.kX
    refine eX (tt:=tt) h (v:=.int .i64 s.size) (gW ho ?_) fun ok=>.int _ _
    simp only [lT] at hu
    simp [builtin,Builtin.len_,bP hu,hv,goInt]
   |_=>exact hp.elim
  ·cases hk
 ·cases hk
theorem WH {Pg:Program} {tt:TT} (args:Array Operand) (ts:Array TypeId):dD Pg tt (.call { callee:=.builtin .min,args:=args,argTypes:=ts }):=by
 intro E st gh val w ρ F o d r ho h hF hFn hk hp hd
 simp only [kernel] at hk
 split at hk
 ·rename_i x y ha
  obtain rfl:=pU ha
  split at hk
  ·rename_i _ _ x' _ _ y' hx hy
   simp only [Option.some.injEq] at hk;subst hk
   have rx:=hF x;rw [hx] at rx
   have ry:=hF y;rw [hy] at ry
   obtain ⟨h1,h2⟩:=hp
   cases x'<;>simp only [iO] at h1
   cases y'<;>simp only [iO] at h2
   rename_i k a k' b
   refine eX (tt:=tt) h (v:=.int k (if b<a then b else a)) (gW ho ?_) fun ok=>.int _ _
   simp [builtin,Builtin.min_,Builtin.min2,rx.dF.cZ,ry.dF.cZ]
  ·cases hk
 ·rename_i x y z ha
  have ha':args=#[x,y,z]:=by
   have:=congrArg List.toArray ha
   simpa using this
  subst ha'
  split at hk
  ·rename_i _ _ x' _ _ y' _ _ z' hx hy hz
   simp only [Option.some.injEq] at hk;subst hk
   have rx:=hF x;rw [hx] at rx
   have ry:=hF y;rw [hy] at ry
   have rz:=hF z;rw [hz] at rz
   obtain ⟨h1,h2,h3⟩:=hp
   cases x'<;>simp only [iO] at h1
   cases y'<;>simp only [iO] at h2
   cases z'<;>simp only [iO] at h3
   rename_i k a k' b k'' c
   refine eX (tt:=tt) h (v:=.int k (if c<(if b<a then b else a) then c else (if b<a then b else a))) (gW ho ?_) fun ok=>.int _ _
   simp [builtin,Builtin.min_,Builtin.min2,rx.dF.cZ,ry.dF.cZ,rz.dF.cZ]
  ·cases hk
 ·cases hk
theorem WI {Pg:Program} {tt:TT} (args:Array Operand) (ts:Array TypeId):dD Pg tt (.call { callee:=.builtin .max,args:=args,argTypes:=ts }):=by
 intro E st gh val w ρ F o d r ho h hF hFn hk hp hd
 simp only [kernel] at hk
 split at hk
 ·rename_i x y ha
  obtain rfl:=pU ha
  split at hk
  ·rename_i _ _ x' _ _ y' hx hy
   simp only [Option.some.injEq] at hk;subst hk
   have rx:=hF x;rw [hx] at rx
   have ry:=hF y;rw [hy] at ry
   obtain ⟨h1,h2⟩:=hp
   cases x'<;>simp only [iO] at h1
   cases y'<;>simp only [iO] at h2
   rename_i k a k' b
   refine eX (tt:=tt) h (v:=.int k (if b>a then b else a)) (gW ho ?_) fun ok=>.int _ _
   simp [builtin,Builtin.max_,Builtin.max2,rx.dF.cZ,ry.dF.cZ]
  ·cases hk
 ·rename_i x y z ha
  have ha':args=#[x,y,z]:=by
   have:=congrArg List.toArray ha
   simpa using this
  subst ha'
  split at hk
  ·rename_i _ _ x' _ _ y' _ _ z' hx hy hz
   simp only [Option.some.injEq] at hk;subst hk
   have rx:=hF x;rw [hx] at rx
   have ry:=hF y;rw [hy] at ry
   have rz:=hF z;rw [hz] at rz
   obtain ⟨h1,h2,h3⟩:=hp
   cases x'<;>simp only [iO] at h1
   cases y'<;>simp only [iO] at h2
   cases z'<;>simp only [iO] at h3
   rename_i k a k' b k'' c
   refine eX (tt:=tt) h (v:=.int k (if c>(if b>a then b else a) then c else (if b>a then b else a))) (gW ho ?_) fun ok=>.int _ _
   simp [builtin,Builtin.max_,Builtin.max2,rx.dF.cZ,ry.dF.cZ,rz.dF.cZ]
  ·cases hk
 ·cases hk
theorem OE {Pg:Program} {tt:TT} (htt:fF Pg tt) (t:TypeId) (x ix:Operand):dD Pg tt (.index t x ix):=by
 intro E st gh val w ρ F o d r ho h hF hFn hk hp hd
 simp only [kernel] at hk
 split at hk
 ·rename_i _ _ _ _ _ x' _ _ n ht hx hn
  simp only [Option.some.injEq] at hk;subst hk
  have rx:=hF x;rw [hx] at rx
  have ry:=hF ix;rw [hn] at ry
  have hu:=(htt _ _ ht).kind
  simp only [lT] at hu
  obtain ⟨h1,h2⟩:=hp
  cases x'<;>simp only [P.isStr] at h1
  cases n<;>simp only [inRange] at h2
  rename_i s k n
  have hlt:n.toNat<s.size:=by simp only [P.bytes] at h2;omega
  have hr:(Instr.index t (ρ x) (ρ ix)).run Pg w=.ok (.int .u8 (s.data.getD n.toNat 0).toNat) w:=by
   rw [rx.dF.kX,ry.dF.cZ]
   have hs:s[n.toNat]?=some (s.data.getD n.toNat 0):=by
    have hlt':n.toNat<s.data.size:=hlt
    rw [getElem?_pos s n.toNat hlt]
    simp only [Array.getD,hlt',dite_true]
    rfl
   simp [Instr.index,asIntOf,bP hu,h2.1,hs]
  exact eX (tt:=tt) h (by unfold execOp;rw [ho];exact eG hr) fun ok=>.int _ _
 ·cases hk
theorem Gv {F:Operand→S} :∀{xs:List Operand} {ws:List W},(xs.mapM (fun x=>match F x with | .v (.one w)=>some w | _=>none))=some ws→
  ws.length=xs.length∧∀(j:Nat) x w,xs[j]?=some x→ws[j]?=some w→F x=.v (.one w)
 | [],ws,h=>by
  simp at h;subst h
  exact ⟨rfl,fun j x w hx=>by simp at hx⟩
 |x::xs,ws,h=>by
  simp only [List.mapM_cons,Option.bind_eq_bind,Option.bind_eq_some_iff,Option.pure_def,Option.some.injEq] at h
  obtain ⟨w0,h0,ws',h1,rfl⟩:=h
  obtain ⟨hl,hj⟩:=Gv h1
  refine ⟨by simp [hl],fun j x' w' hx hw => ?_⟩
  cases j with
  |zero=>
   simp at hx hw;subst hx hw
   split at h0
   ·rename_i w1 hw1;simp at h0;subst h0;exact hw1
   ·cases h0
  |succ j=>simp at hx hw;exact hj j x' w' hx hw
theorem Gw {Pg:Program} {tt:TT} (g:FuncId) (first caps:Array Operand):dD Pg tt (.makeFunc (.func g) first caps):=by
 intro E st gh val w ρ F o d r ho h hF hFn hk hp hd
 simp only [kernel] at hk
 split at hk
 ·rename_i hf
  split at hk
  ·rename_i ws hm
   simp only [Option.some.injEq] at hk;subst hk
   obtain ⟨hl,hj⟩:=Gv hm
   have hf0:first=#[]:=by simpa using hf
   have hrep:dP E st gh w (.clo g ws) (.func (.func g) #[] ((caps.toList.map ρ)).toArray):=by
    refine .clo g ws _ (by simp [hl]) fun j x v hx hv => ?_
    simp only [List.getElem?_map,Option.map_eq_some_iff] at hv
    obtain ⟨y,hy,rfl⟩:=hv
    have:=hF y;rw [hj j y x hy hx] at this
    exact this.bC
   refine still h (v:=.func (.func g) #[] ((caps.toList.map ρ)).toArray) (by unfold execOp;rw [ho];subst hf0;simp only [Array.map_empty,Instr.makeFunc,pure_bind,Sem.run_pure];congr 4;apply Array.ext';simp) (bD.E_ hrep) fun g' hg' => ?_
   have hg':g'∈(S.v (.one (.clo g ws))).names:=hg'
   rw [bU,W.names,List.mem_flatMap] at hg'
   obtain ⟨⟨x,hx⟩,_,hg'⟩:=hg'
   obtain ⟨j,hj',hxj⟩:=List.mem_iff_getElem.1 hx
   have aiV:ws[j]?=some x:=by rw [List.getElem?_eq_getElem hj',hxj]
   have hlt:j<caps.toList.length:=by omega
   have hy:caps.toList[j]?=some caps.toList[j]:=List.getElem?_eq_getElem hlt
   have:=hFn caps.toList[j] g'
   rw [hj j _ x hy aiV,bU] at this
   exact this hg'
  ·cases hk
 ·cases hk
end Go.Fw

namespace Go.Fw
set_option linter.unusedSectionVars false
variable [dA]
set_option linter.unusedVariables false
section
variable {E:Env} {st st':St} {gh aQ:Nat→Gh} {w w':World} {val:Nat→Value} {Pg:Program} {tt:TT}
theorem iJ {agg:Bool} {ws:List W} {cs:List Value} (hl:ws.length=cs.length) (hc :∀c∈cs,c.oneCell'=true) (hr :∀(j:Nat) x u,ws[j]?=some x→cs[j]?=some u→dP E st gh w x u)
  (v:Value) (hv:if agg=true then v=.agg cs.toArray else∀u,cs[0]?=some u→v=u):bD E st gh w (V.dh agg ws) v:=by
 unfold V.dh
 cases agg with
 |true=>simp only [if_true] at hv ⊢;subst hv;exact .v _ _ (.agg ws cs hl hc hr)
 |false=>
  simp only [Bool.false_eq_true,if_false] at hv ⊢
  split
  ·rename_i x
   have h0:0<cs.length:=by rw [←hl];simp
   have:=hv cs[0] (List.getElem?_eq_getElem h0)
   subst this
   exact bD.E_ (hr 0 x _ rfl (List.getElem?_eq_getElem h0))
  ·exact .no _
theorem gX {agg:Bool} {ws:List W} {g:Nat} (hg:g∈(V.dh agg ws).names) :∃x∈ws,g∈x.names:=by
 unfold V.dh at hg
 cases agg with
 |true=>simpa [S.names,V.names] using hg
 |false=>
  simp only [Bool.false_eq_true,if_false] at hg
  split at hg
  ·rename_i x;exact ⟨x,by simp,by simpa [S.names,V.names] using hg⟩
  ·simp [S.names] at hg
theorem kY (a:Addr) (cs:List Value) :∀(n i:Nat) (acc:Array Value),(∀j,j<n→w.cell? (a.add (i+j))=cs[j]?)→n≤cs.length→
  (loadCellsFrom a i n acc).run Pg w=.ok (acc++(cs.take n).toArray) w:=by
 intro n
 induction n generalizing cs with
 |zero=>intro i acc _ _;simp [loadCellsFrom]
 |succ n ih=>
  intro i acc hc hl
  cases cs with
  |nil=>simp at hl
  |cons c cs=>
   have h0:=hc 0 (by omega)
   simp only [Nat.add_zero,List.getElem?_cons_zero] at h0
   have hrest:=ih cs (i+1) (acc.push c) (fun j hj=>by
    have:=hc (j+1) (by omega)
    simp only [List.getElem?_cons_succ] at this
    rw [←this];congr 2;omega) (by simpa using hl)
   simp only [loadCellsFrom,Sem.run_bind,run_load,h0,Result.andThen_ok]
   rw [hrest]
   simp
theorem jl {t:TypeId} {i:TI} (h:lW Pg t i) (b o:Nat) (cs:List Value) (hl:cs.length=i.size) (hc :∀(j:Nat) u,cs[j]?=some u→w.cell? ⟨b,o+j,none⟩=some u) (hp:i.agg=false→0<i.size) :
  ∃v,(loadVar t ⟨b,o,none⟩).run Pg w=.ok v w∧(if i.agg=true then v=.agg cs.toArray else∀u,cs[0]?=some u→v=u):=by
 unfold loadVar
 simp only [Sem.run_bind,zi h,Result.andThen_ok]
 cases ha:i.agg with
 |true=>
  refine ⟨.agg cs.toArray,?_,by simp⟩
  have:=kY (Pg:=Pg) (w:=w) ⟨b,o,none⟩ cs i.size 0 #[] (fun j hj=>by
   rw [Addr.fK]
   have hlt:j<cs.length:=by omega
   rw [List.getElem?_eq_getElem hlt,Nat.zero_add]
   exact hc j _ (List.getElem?_eq_getElem hlt)) (by omega)
  simp only [if_true,Sem.run_bind,bM h,Result.andThen_ok,loadCells,this]
  simp [←hl]
 |false=>
  have h0:0<cs.length:=by have:=hp ha;omega
  have hcell:=hc 0 _ (List.getElem?_eq_getElem h0)
  simp only [Nat.add_zero] at hcell
  exact ⟨cs[0],by simp [run_load,hcell],by simp only [Bool.false_eq_true,if_false];intro u hu;rw [List.getElem?_eq_getElem h0] at hu;exact Option.some.inj hu⟩
theorem dP.oneCell {x:W} {v:Value} (h:dP E st gh w x v) (hx :∀b y,x≠.gd b y) (hn:x≠.no):v.oneCell'=true:=by
 cases h with
 |p a i x v h=>exact h.oneCell
 |gd b x v h=>exact absurd rfl (hx b x)
 |no v=>exact absurd rfl hn
 |bg=>rfl
 |sp a i row off b o hb h=>rfl
 |clo f caps vs hl h=>rfl
 |gl g=>rfl
 |_=>assumption
theorem yM.cells {ws:List W} {G:Gh} (h:yM E st gh w ws G) :∃ad,G.ad=some ad∧∃cs:List Value,cs.length=ws.length∧(∀c∈cs,c.oneCell'=true)∧
  (∀(j:Nat) u,cs[j]?=some u→w.cell? ⟨ad.block,ad.off+j,none⟩=some u)∧∀(j:Nat) x u,ws[j]?=some x→cs[j]?=some u→dP E st gh w x u:=by
 obtain ⟨ad,c,e,h1,h2,h3,h4,h5⟩:=h
 refine ⟨ad,h1,(c.toList.drop ad.off).take ws.length,by simp;omega,fun v hv => ?_,fun j u hu => ?_,fun j x u hx hu => ?_⟩
 ·obtain ⟨j,hj,rfl⟩:=List.mem_iff_getElem.1 hv
  have hjl:j<ws.length:=by simp at hj;omega
  obtain ⟨v,hv,ho,_⟩:=h5 j ws[j] (List.getElem?_eq_getElem hjl)
  have:((c.toList.drop ad.off).take ws.length)[j]=v:=by
   simp only [List.getElem_take,List.getElem_drop,Array.getElem_toList]
   exact (Array.getElem?_eq_some_iff.1 hv).2
  rw [this];exact ho
 ·have hjl:j<ws.length:=by have:=(List.getElem?_eq_some_iff.1 hu).1;simp at this;omega
  rw [List.getElem?_take,if_pos hjl,List.getElem?_drop,Array.getElem?_toList] at hu
  simp [World.cell?,h3,hu]
 ·have hjl:j<ws.length:=(List.getElem?_eq_some_iff.1 hx).1
  rw [List.getElem?_take,if_pos hjl,List.getElem?_drop,Array.getElem?_toList] at hu
  obtain ⟨v,hv,_,hr⟩:=h5 j x hx
  rw [hv] at hu;cases hu;exact hr
theorem Gx {sz k:Nat} {l:List (List P)} (h:k<ml sz l):sz<MB∧k<l.length:=by
 unfold ml at h
 split at h
 ·exact ⟨by assumption,h⟩
 ·omega
def YA (E:Env) (st:St) (gh:Nat→Gh) (w:World) (a i:Bool) (sz:Nat) (l:List (List P)) (G:Gh):Prop:=
 (G.ad=none∧G.cap=0∧l=[])∨
 ∃ad c e,G.ad=some ad∧ad.spot=none∧w.heap[ad.block]?=some (.cells c e (0,0))∧ad.off+G.cap*sz≤c.size∧(l.length≤G.cap∧G.cap≤9223372036854775807)∧(∀x∈l,x.length=sz)∧
  ∀(n:Nat) x,l[n]?=some x→∀(j:Nat) y,x[j]?=some y→∃v,c[ad.off+n*sz+j]?=some v∧aU w (E.ok st gh w a i) y v
theorem dw.old {a i:Bool} {sz:Nat} {l:List (List P)} {G:Gh} (hlt:sz<MB) (h:dw E st gh w a i sz l G):YA E st gh w a i sz l G:=by
 rcases h with ⟨h1,h2,h3,_⟩ | ⟨ad,ob,h1,h2,h3,h4,h5,h6⟩
 ·exact .inl ⟨h1,h2,h3⟩
 ·obtain ⟨c,e,rfl,q1,q2⟩:=h4.lt hlt
  rw [J4 hlt] at h5
  exact .inr ⟨ad,c,e,h1,h2,h3,q1,q2,h5,h6⟩
theorem dw.of {a i:Bool} {sz:Nat} {l:List (List P)} {G:Gh} (hlt:sz<MB) (h:YA E st gh w a i sz l G):dw E st gh w a i sz l G:=by
 rcases h with ⟨h1,h2,h3⟩ | ⟨ad,c,e,h1,h2,h3,q1,q2,h5,h6⟩
 ·exact .inl ⟨h1,h2,h3,hlt⟩
 ·exact .inr ⟨ad,_,h1,h2,h3,⟨hlt,rfl,q1,q2⟩,by rw [J4 hlt];exact h5,h6⟩
def UH (E:Env) (st:St) (gh:Nat→Gh) (w:World) (a i:Bool) (sz:Nat) (ah:List (Nat×Nat)) (l:List (List P)) (hole:Option (Nat×Nat×Nat)) (G:Gh):Prop:=
 (G.ad=none∧G.cap=0∧l=[]∧∀b,G.sub b=none)∨
 ∃ad c e,G.ad=some ad∧ad.spot=none∧w.heap[ad.block]?=some (.cells c e (0,0))∧ad.off+G.cap*sz≤c.size∧(l.length≤G.cap∧G.cap≤9223372036854775807)∧(∀x∈l,x.length=sz)∧
  (G.sub ad.block=none∧∀b,(G.sub b).isSome=true→∃ob,w.heap[b]?=some ob∧blk ob=true)∧
  ∀(n:Nat) x,l[n]?=some x→∀(j:Nat) y,x[j]?=some y→∃v,c[ad.off+n*sz+j]?=some v∧gB E st gh w a i G ah hole n j y v
theorem dY.old {a i:Bool} {sz:Nat} {ah:List (Nat×Nat)} {l:List (List P)} {hole:Option (Nat×Nat×Nat)} {G:Gh} (hlt:sz<MB) (h:dY E st gh w a i sz ah l hole G):UH E st gh w a i sz ah l hole G:=by
 rcases h with ⟨h1,h2,h3,h4,_⟩ | ⟨ad,ob,h1,h2,h3,h4,h5,h6⟩
 ·exact .inl ⟨h1,h2,h3,h4⟩
 ·obtain ⟨c,e,rfl,q1,q2⟩:=h4.lt hlt
  rw [J4 hlt] at h5
  exact .inr ⟨ad,c,e,h1,h2,h3,q1,q2,h5,h6⟩
theorem dY.of {a i:Bool} {sz:Nat} {ah:List (Nat×Nat)} {l:List (List P)} {hole:Option (Nat×Nat×Nat)} {G:Gh} (hlt:sz<MB) (h:UH E st gh w a i sz ah l hole G):dY E st gh w a i sz ah l hole G:=by
 rcases h with ⟨h1,h2,h3,h4⟩ | ⟨ad,c,e,h1,h2,h3,q1,q2,h5,h6⟩
 ·exact .inl ⟨h1,h2,h3,h4,hlt⟩
 ·exact .inr ⟨ad,_,h1,h2,h3,⟨hlt,rfl,q1,q2⟩,by rw [J4 hlt];exact h5,h6⟩
theorem o8 {a i:Bool} {sz:Nat} {l:List (List P)} {G:Gh} (hlt:sz<MB) (h:kF E st gh w (.arr true a i sz l) G):aU w (E.ok st gh w a i) (.sl sz l) (.slice G.ad l.length G.cap):=by
 have h:aU w (E.ok st gh w a i) (Yu sz l) (hdl sz G.ad (ml sz l) G.cap):=h
 rwa [Ce hlt,fD hlt,fB hlt] at h
theorem Cj {fz a i:Bool} {sz:Nat} {l:List (List P)} {G:Gh} (hlt:sz<MB) (h:kF E st gh w (.arr fz a i sz l) G) {n:Nat} {x:List P} (hx:l[n]?=some x) {ad:Addr} (had:G.ad=some ad) :
  x.length=sz∧∀(j:Nat) y,x[j]?=some y→∃v,w.cell? ⟨ad.block,ad.off+n*sz+j,none⟩=some v∧aU w (E.ok st gh w a i) y v:=by
 cases fz with
 |false=>
  rcases dw.old hlt h with ⟨h1,h2,h3⟩ | ⟨ad',c,e,h1,h2,h3,h4,h5,h6,h7⟩
  ·subst h3;simp at hx
  ·rw [had] at h1;cases h1
   refine ⟨h6 x (List.mem_of_getElem? hx),fun j y hy => ?_⟩
   obtain ⟨v,hv,hr⟩:=h7 n x hx j y hy
   exact ⟨v,by simp [World.cell?,h3,hv],hr⟩
 |true=>
  have h:=o8 hlt h
  rw [had] at h
  generalize hm:l.length=m at h
  cases h with
  |nil=>simp at hx
  |sl _ _ ad' cap f hs hok hcap hlen hc hr=>
   refine ⟨hlen x (List.mem_of_getElem? hx),fun j y hy=>⟨_,hc n x hx j y hy,hr n x hx j y hy⟩⟩
theorem OG {a i:Bool} {row:List P} {b o off n:Nat} (h :∀(j:Nat) y,row[j]?=some y→∃v,w.cell? ⟨b,o+j,none⟩=some v∧aU w (E.ok st gh w a i) y v) (hn:off+n≤row.length) :
  ∃cs:List Value,cs.length=n∧(∀(j:Nat) u,cs[j]?=some u→w.cell? ⟨b,o+off+j,none⟩=some u)∧(∀c∈cs,c.oneCell'=true)∧
   ∀(j:Nat) x u,((List.range n).map fun j=>W.p a i (row.getD (off+j) default))[j]?=some x→cs[j]?=some u→dP E st gh w x u:=by
 have key :∀j,j<n→∃v,w.cell? ⟨b,o+off+j,none⟩=some v∧aU w (E.ok st gh w a i) (row.getD (off+j) default) v:=by
  intro j hj
  have hlt:off+j<row.length:=by omega
  obtain ⟨v,hv,hr⟩:=h (off+j) row[off+j] (List.getElem?_eq_getElem hlt)
  refine ⟨v,by rw [←hv,Nat.add_assoc],?_⟩
  rw [List.getD_eq_getElem?_getD,List.getElem?_eq_getElem hlt];exact hr
 refine ⟨(List.range n).map fun j=>(w.cell? ⟨b,o+off+j,none⟩).getD undef,by simp,fun j u hu => ?_,fun c hc => ?_,fun j x u hx hu => ?_⟩
 ·simp only [List.getElem?_map,Option.map_eq_some_iff] at hu
  obtain ⟨k,hk,rfl⟩:=hu
  obtain ⟨hlt,rfl⟩:=List.getElem?_eq_some_iff.1 hk
  simp at hlt ⊢
  obtain ⟨v,hv,_⟩:=key j hlt
  rw [hv];rfl
 ·simp only [List.mem_map,List.mem_range] at hc
  obtain ⟨j,hj,rfl⟩:=hc
  obtain ⟨v,hv,hr⟩:=key j hj
  rw [hv];exact hr.oneCell
 ·simp only [List.getElem?_map,Option.map_eq_some_iff] at hx hu
  obtain ⟨k,hk,rfl⟩:=hx
  obtain ⟨k',hk',rfl⟩:=hu
  rw [hk] at hk';cases hk'
  obtain ⟨hlt,rfl⟩:=List.getElem?_eq_some_iff.1 hk
  simp at hlt ⊢
  obtain ⟨v,hv,hr⟩:=key j hlt
  rw [hv];exact .p _ _ _ _ hr
theorem nR {a i:Bool} {n:Nat} {f:Nat→P} {x:W} (hx:x∈(List.range n).map fun j=>W.p a i (f j)):x.names=[]:=by
 simp only [List.mem_map] at hx
 obtain ⟨j,_,rfl⟩:=hx
 simp [W.names]
theorem Rx (htt:fF Pg tt) (t:TypeId) (x:Operand):dD Pg tt (.load t x):=by
 intro E st gh val w ρ F o d r ho h hF hFn hk hp hd
 simp only [kernel] at hk
 split at hk
 ·rename_i i g off ht hx
  have rx:=hF x;rw [hx] at rx
  split at hk
  ·rename_i ws hog
   split at hk
   ·rename_i hlt
    simp only [Option.some.injEq] at hk;subst hk
    have hO:=h.aJ g;rw [hog] at hO
    obtain ⟨ad,had,cs,hl,hone,hcell,hrep⟩:=yM.cells hO
    obtain ⟨ad',LZ,hv⟩:=(by cases rx.bC with | box _ _ _ _ hb=>exact hb ws hog :∃ad,(gh g).ad=some ad∧ρ x=.pointer (some ⟨ad.block,ad.off+off,none⟩))
    rw [had] at LZ;cases LZ
    have hl':((cs.drop off).take i.size).length=i.size:=by simp;omega
    obtain ⟨v,hrun,hval⟩:=jl (Pg:=Pg) (w:=w) (htt _ _ ht) ad.block (ad.off+off) ((cs.drop off).take i.size) hl' (fun j u hu=>by
     have hj:j<i.size:=by have:=(List.getElem?_eq_some_iff.1 hu).1;omega
     rw [List.getElem?_take,if_pos hj,List.getElem?_drop] at hu
     rw [Nat.add_assoc];exact hcell _ _ hu) (fun _=>hlt.2)
    refine still h (v:=v) (by unfold execOp;rw [ho];exact eG (by rw [hv];simpa [Instr.loadAt,Instr.sureAddr] using hrun)) (iJ (cs:=(cs.drop off).take i.size) (by simp;omega) (fun c hc=>hone c (List.mem_of_mem_drop (List.mem_of_mem_take hc)))
     (fun j y u hy hu => ?_) v hval) fun g' hg' => ?_
    ·have hj:j<i.size:=by have:=(List.getElem?_eq_some_iff.1 hu).1;omega
     rw [List.getElem?_take,if_pos hj,List.getElem?_drop] at hy hu
     exact hrep _ _ _ hy hu
    ·obtain ⟨y,hy,hg'⟩:=gX hg'
     have hy':=List.mem_of_mem_drop (List.mem_of_mem_take hy)
     exact h.uo g g' (by rw [hog];simp only [O.names,List.mem_flatMap];exact ⟨y,hy',hg'⟩)
   ·cases hk
  ·cases hk
 ·rename_i i g n off ht hx
  have rx:=hF x;rw [hx] at rx
  split at hk
  ·rename_i fz a i' sz l hog
   split at hk
   ·rename_i hlt
    simp only [Option.some.injEq] at hk;subst hk
    have hO:=h.aJ g;rw [hog] at hO
    obtain ⟨ad,k,had,rfl,hk,hv⟩:=(by cases rx.bC with | ep _ _ _ _ _ hb=>exact hb _ _ (O.iq hog) :∃(ad:Addr) (k:Nat),(gh g).ad=some ad∧n=.int .i64 k∧k<ml sz l∧ρ x=.pointer (some ⟨ad.block,ad.off+k*sz+off,none⟩))
    obtain ⟨hsm,hk⟩:=Gx hk
    have hrow:l[k]?=some l[k]:=List.getElem?_eq_getElem hk
    obtain ⟨hlen,hc⟩:=Cj hsm hO hrow had
    have hget:l.getD (P.int .i64 (k:Int)).nat []=l[k]:=by
     have:(P.int .i64 (k:Int)).nat=k:=by simp [P.nat,P.num]
     rw [this,List.getD_eq_getElem?_getD,hrow];rfl
    obtain ⟨cs,hl,hcell,hone,hrep⟩:=OG (n:=i.size) (off:=off) hc (by omega)
    obtain ⟨v,hrun,hval⟩:=jl (Pg:=Pg) (w:=w) (htt _ _ ht) ad.block (ad.off+k*sz+off) cs hl hcell (fun _=>hlt.2)
    rw [hget]
    have hzw:((List.range i.size).map fun j=>W.p a i' (l[k].getD (off+j) (FN i.zero j)))=(List.range i.size).map fun j=>W.p a i' (l[k].getD (off+j) default):=by
     refine List.map_congr_left fun j hj => ?_
     have hj:j<i.size:=List.mem_range.1 hj
     have hlt':off+j<l[k].length:=by omega
     simp [List.getD_eq_getElem?_getD,List.getElem?_eq_getElem hlt']
    rw [hzw]
    exact still h (v:=v) (by unfold execOp;rw [ho];exact eG (by rw [hv];simpa [Instr.loadAt,Instr.sureAddr] using hrun)) (iJ (by simp [hl]) hone hrep v hval)
     fun g' hg'=>by obtain ⟨y,hy,hg'⟩:=gX hg';rw [nR hy] at hg';cases hg'
   ·cases hk
  ·cases hk
 ·rename_i i a i' row off ht hx
  have rx:=hF x;rw [hx] at rx
  split at hk
  ·rename_i hlt
   simp only [Option.some.injEq] at hk;subst hk
   obtain ⟨b,o',hb,hc,hv⟩:=(by generalize hz:ρ x=z at rx;cases rx.bC with | sp _ _ _ _ b o' hb hc=>exact ⟨b,o',hb,hc,hz.symm▸rfl⟩ :
    ∃b o',(row≠[]→E.ok st gh w a i' b)∧(∀(j:Nat) y,row[j]?=some y→∃u,w.cell? ⟨b,o'+j,none⟩=some u∧aU w (E.ok st gh w a i') y u)∧ρ x=.pointer (some ⟨b,o'+off,none⟩))
   obtain ⟨cs,hl,hcell,hone,hrep⟩:=OG (n:=i.size) (off:=off) hc hp
   obtain ⟨v,hrun,hval⟩:=jl (Pg:=Pg) (w:=w) (htt _ _ ht) b (o'+off) cs hl hcell (fun _=>hlt)
   exact still h (v:=v) (by unfold execOp;rw [ho];exact eG (by rw [hv];simpa [Instr.loadAt,Instr.sureAddr] using hrun)) (iJ (by simp [hl]) hone hrep v hval)
    fun g' hg'=>by obtain ⟨y,hy,hg'⟩:=gX hg';rw [nR hy] at hg';cases hg'
  ·cases hk
 ·cases hk
theorem WJ {t:TypeId} {i:TI} (h:lW Pg t i) (cs:List Value) (off:Nat) (hlt:off+i.size≤cs.length) (hp:0<i.size) :
  ∃v,(part t cs.toArray off).run Pg w=.ok v w∧(if i.agg=true then v=.agg ((cs.drop off).take i.size).toArray else∀u,((cs.drop off).take i.size)[0]?=some u→v=u):=by
 unfold part
 simp only [Sem.run_bind,zi h,Result.andThen_ok]
 cases ha:i.agg with
 |true=>
  refine ⟨.agg ((cs.drop off).take i.size).toArray,?_,by simp⟩
  simp only [if_true,Sem.run_bind,bM h,Result.andThen_ok]
  have:cs.toArray.extract off (off+i.size)=((cs.drop off).take i.size).toArray:=by
   simp [List.extract_toArray]
  rw [this];rfl
 |false=>
  have hlt':off<cs.length:=by omega
  refine ⟨cs[off],by simp [List.getElem?_eq_getElem hlt'],?_⟩
  simp only [Bool.false_eq_true,if_false]
  intro u hu
  rw [List.getElem?_take,if_pos hp,List.getElem?_drop] at hu
  rw [Nat.add_zero,List.getElem?_eq_getElem hlt'] at hu
  exact Option.some.inj hu
theorem OH (htt:fF Pg tt) (t:TypeId) (x:Operand) (n:Nat):dD Pg tt (.field t x n):=by
 intro E st gh val w ρ F o d r ho h hF hFn hk hp hd
 simp only [kernel] at hk
 split at hk
 ·rename_i fs _ _ _ ws ht hx
  have rx:=hF x;rw [hx] at rx
  obtain ⟨cs,hv,hl,hone,hrep⟩:=rx.FT
  split at hk
  ·rename_i off u hn
   split at hk
   ·rename_i iu hu
    split at hk
    ·rename_i hlt
     simp only [Option.some.injEq] at hk;subst hk
     obtain ⟨gs,f,g1,g2,g3,g4⟩:=Ap (htt _ _ ht) hn
     obtain ⟨v,hrun,hval⟩:=WJ (Pg:=Pg) (w:=w) (htt _ _ hu) cs off (by omega) hlt.2
     have hr:(Instr.field t (ρ x) n).run Pg w=.ok v w:=by
      rw [hv]
      simp only [Instr.field,Sem.run_bind,bP g1,Result.andThen_ok,g2,g3,g4,asAgg,Sem.run_pure]
      exact hrun
     refine still h (v:=v) (by unfold execOp;rw [ho];exact eG hr) (iJ (cs:=(cs.drop off).take iu.size) (by simp;omega) (fun c hc=>hone c (List.mem_of_mem_drop (List.mem_of_mem_take hc)))
      (fun j y u hy hu => ?_) v hval) fun g' hg' => ?_
     ·have hj:j<iu.size:=by have:=(List.getElem?_eq_some_iff.1 hu).1;simp at this;omega
      rw [List.getElem?_take,if_pos hj,List.getElem?_drop] at hy hu
      exact hrep _ _ _ hy hu
     ·obtain ⟨y,hy,hg'⟩:=gX hg'
      have hy':=List.mem_of_mem_drop (List.mem_of_mem_take hy)
      have:=hFn x g'
      rw [hx] at this
      exact this (by simp only [S.names,V.names,List.mem_flatMap];exact ⟨y,hy',hg'⟩)
    ·cases hk
   ·cases hk
  ·cases hk
 ·cases hk
theorem qP {n:P} {m:Nat} (h:inRange n m) :∃k j,n=.int k j∧0≤j∧j<m∧n.nat<m∧(n.nat:Int)=j:=by
 cases n<;>simp only [inRange] at h
 rename_i k j
 exact ⟨k,j,rfl,h.1,h.2,by simp [P.nat,P.num];omega,by simp [P.nat,P.num];omega⟩
theorem aU.zn {ok:Nat→Prop} {sz:Nat} {l:List (List P)} {v:Value} (h:aU w ok (.sl sz l) v) :∃ao cap,v=.slice ao l.length cap∧l.length≤cap∧
  (l≠[]→∃ad,ao=some ad∧ad.spot=none∧(0<sz→ok ad.block)∧(∀x∈l,x.length=sz)∧∃f:Nat→Nat→Value,(∀(i:Nat) x,l[i]?=some x→∀(j:Nat) y,x[j]?=some y→w.cell? ⟨ad.block,ad.off+i*sz+j,none⟩=some (f i j))∧
   ∀(i:Nat) x,l[i]?=some x→∀(j:Nat) y,x[j]?=some y→aU w ok y (f i j)):=by
 cases h with
 |nil sz ao cap=>exact ⟨ao,cap,rfl,Nat.zero_le _,fun h=>absurd rfl h⟩
 |sl sz l ad cap f hs hok hcap hlen hc hr=>exact ⟨some ad,cap,rfl,hcap,fun _=>⟨ad,rfl,hs,hok,hlen,f,hc,hr⟩⟩
theorem L6 {fz a i:Bool} {sz:Nat} {l:List (List P)} {G:Gh} (hlt:sz<MB) (h:kF E st gh w (.arr fz a i sz l) G):l.length≤G.cap:=by
 cases fz with
 |false=>
  rcases dw.old hlt h with ⟨h1,h2,h3⟩ | ⟨ad,c,e,q1,q2,q3,q4,q5,_⟩
  ·subst h3;exact Nat.zero_le _
  ·exact q5.1
 |true=>
  have h:=o8 hlt h
  obtain ⟨ao,cap,he,hc,_⟩:=h.zn
  cases he;exact hc
theorem uF {x:O} {G:Gh} (h:kF E st gh w x G) {sz len:Nat} (hd:x.dim=some (sz,len)):len≤G.cap∧(0<len→∃ad,G.ad=some ad∧ad.spot=none):=by
 cases x with
 |arr fz a i sz' l=>
  obtain ⟨rfl,rfl⟩:=O.iG hd
  rcases Nat.lt_or_ge sz' MB with hlt | hge
  rotate_left
  ·rw [show ml sz' l=0 from if_neg (Nat.not_lt.2 hge)];exact ⟨Nat.zero_le _,fun h=>absurd h (Nat.lt_irrefl 0)⟩
  rw [fB hlt]
  refine ⟨L6 hlt h,fun hp => ?_⟩
  cases fz with
  |false=>
   rcases dw.old hlt h with ⟨h1',h2',h3'⟩ | ⟨ad,c,e,q1,q2,_⟩
   ·subst h3';simp at hp
   ·exact ⟨ad,q1,q2⟩
  |true=>
   have h:=o8 hlt h
   obtain ⟨ao,cap,he,hc,hr⟩:=h.zn
   cases he
   obtain ⟨ad,h1,hs,_⟩:=hr (List.length_pos_iff.1 hp)
   exact ⟨ad,h1,hs⟩
 |ay a i sz' ah l hole=>
  simp only [O.dim,Option.some.injEq,Prod.mk.injEq] at hd
  obtain ⟨rfl,rfl⟩:=hd
  rcases Nat.lt_or_ge sz' MB with hlt | hge
  rotate_left
  ·rw [show ml sz' l=0 from if_neg (Nat.not_lt.2 hge)];exact ⟨Nat.zero_le _,fun h=>absurd h (Nat.lt_irrefl 0)⟩
  rw [fB hlt]
  rcases dY.old hlt h with ⟨h1',h2',h3',_⟩ | ⟨ad,c,e,q1,q2,q3,q4,q5,_⟩
  ·subst h3';exact ⟨Nat.zero_le _,fun hp=>by simp at hp⟩
  ·exact ⟨q5.1,fun _=>⟨ad,q1,q2⟩⟩
 |_=>cases hd
theorem run_indexAt_slice {t e:TypeId} {ie:TI} (hu:Pg.underlying t=some (.slice e)) (he:lW Pg e ie) (b o len cap:Nat) (k:IntKind) (j:Int) (h0:0≤j) (h1:j<len) :
  (Instr.indexAt t (.slice (some ⟨b,o,none⟩) len cap) (.int k j)).run Pg w=.ok (.pointer (some ⟨b,o+j.toNat*ie.size,none⟩)) w:=by
 simp only [Instr.indexAt,asIntOf,Sem.run_bind,Sem.run_pure,bP hu,Result.andThen_ok]
 simp [h0,h1,bM he,Addr.fK]
theorem Fb (htt:fF Pg tt) (t:TypeId) (x ix:Operand):dD Pg tt (.indexAddr t x ix):=by
 intro E st gh val w ρ F o d r ho h hF hFn hk hp hd
 simp only [kernel] at hk
 split at hk
 ·rename_i e _ _ _ x' _ _ n ht hx hn
  have rx:=hF x;rw [hx] at rx
  have rn:=hF ix;rw [hn] at rn
  have hu:=(htt _ _ ht).kind
  simp only [lT] at hu
  have hnx :∀g,g∈x'.names→st.used g=true:=fun g hg=>hFn x g (by rw [hx,bU];exact hg)
  split at hk
  ·rename_i ie g he
   split at hk
   ·rename_i sz l hog
    split at hk
    ·rename_i hsz
     simp only [Option.some.injEq] at hk;subst hk
     obtain ⟨k,j,hnk,h0,h1,h2,h3⟩:=qP hp
     have rn':ρ ix=.int k j:=by have:=rn.dF;rw [hnk] at this;exact this.cZ
     have hv:=(by cases rx.bC with | own _ _ _ hb=>exact (hb _ _ hog).trans (fD (by rw [hsz];exact (htt _ _ he).small)):ρ x=.slice (gh g).ad l (gh g).cap)
     obtain ⟨ad,had,hs⟩:=(uF (h.aJ g) hog).2 (by omega)
     have LZ:(gh g).ad=some ⟨ad.block,ad.off,none⟩:=by rw [had,←hs]
     have hr:(Instr.indexAt t (ρ x) (ρ ix)).run Pg w=.ok (.pointer (some ⟨ad.block,ad.off+n.nat*sz,none⟩)) w:=by
      have hj:j.toNat=n.nat:=by rw [hnk];rfl
      rw [hv,LZ,rn',run_indexAt_slice hu (htt _ _ he) _ _ _ _ _ _ h0 h1,hj,hsz]
     refine still h (v:=.pointer (some ⟨ad.block,ad.off+n.nat*sz,none⟩)) (by unfold execOp;rw [ho];exact eG hr) (bD.E_ (.ep g _ 0 _ rfl fun sz' len' ho' => ?_)) fun g' hg' => ?_
     ·rw [hog] at ho';cases ho'
      exact ⟨ad,n.nat,had,rfl,h2,by rw [Nat.add_zero]⟩
     ·have hg':g'∈(S.v (.one (.ep g (jJ n.nat) 0))).names:=hg'
      rw [bU] at hg'
      exact hnx g' (by simpa [W.names] using hg')
    ·cases hk
   ·cases hk
  ·rename_i ie g lo hi he
   split at hk
   ·rename_i sz l hog
    split at hk
    ·rename_i hsz
     simp only [Option.some.injEq] at hk;subst hk
     obtain ⟨k,j,hnk,h0,h1,h2,h3⟩:=qP hp
     have rn':ρ ix=.int k j:=by have:=rn.dF;rw [hnk] at this;exact this.cZ
     obtain ⟨p,q,vc,rfl,rfl,hpq,hql,hvc,hv⟩:=(by cases rx.bC with | vw _ _ _ _ _ hb=>exact hb _ _ hog :∃p q c:Nat,lo=.int .i64 p∧hi=.int .i64 q∧p≤q∧q≤l∧(q-p≤c∧p+c≤(gh g).cap)∧
      ρ x=.slice (if (gh g).cap=p then (gh g).ad else (gh g).ad.map (·.add (p*sz))) (q-p) c)
     have e1:(P.int .i64 (q:Int)).nat=q:=by simp [P.nat,P.num]
     have e2:(P.int .i64 (p:Int)).nat=p:=by simp [P.nat,P.num]
     rw [e1,e2] at h1 h2
     have hidx:p+n.nat<l:=by omega
     obtain ⟨hcap,had⟩:=uF (h.aJ g) hog
     obtain ⟨ad,had,hs⟩:=had (by omega)
     have hne:¬ (gh g).cap=p:=by omega
     have LZ:(gh g).ad=some ⟨ad.block,ad.off,none⟩:=by rw [had,←hs]
     have hr:(Instr.indexAt t (ρ x) (ρ ix)).run Pg w=.ok (.pointer (some ⟨ad.block,ad.off+(p+n.nat)*sz,none⟩)) w:=by
      have hj:j.toNat=n.nat:=by rw [hnk];rfl
      rw [hv,if_neg hne,LZ,rn']
      simp only [Option.map_some,Addr.fK]
      rw [run_indexAt_slice hu (htt _ _ he) _ _ _ _ _ _ h0 h1,hj,←hsz,Nat.add_mul,Nat.add_assoc]
     refine still h (v:=.pointer (some ⟨ad.block,ad.off+(p+n.nat)*sz,none⟩)) (by unfold execOp;rw [ho];exact eG hr) (bD.E_ (.ep g _ 0 _ rfl fun sz' len' ho' => ?_)) fun g' hg' => ?_
     ·rw [hog] at ho';cases ho'
      exact ⟨ad,p+n.nat,had,by rw [e2];rfl,hidx,by rw [Nat.add_zero]⟩
     ·have hg':g'∈(S.v (.one (.ep g (jJ ((P.int .i64 (p:Int)).nat+n.nat)) 0))).names:=hg'
      rw [bU] at hg'
      exact hnx g' (by simpa [W.names] using hg')
    ·cases hk
   ·cases hk
  ·rename_i ie a i y he
   simp only [Option.some.injEq] at hk;subst hk
   obtain ⟨hsl,hp⟩:=hp
   obtain ⟨k,j,hnk,h0,h1,h2,h3⟩:=qP hp
   have rn':ρ ix=.int k j:=by have:=rn.dF;rw [hnk] at this;exact this.cZ
   cases y with
   |sl sz l=>
    have hne:l≠[]:=by intro e;subst e;simp [P.list] at h2
    have hsz:sz=ie.size:=by rcases hsl with e | e;exact e;exact absurd e hne
    subst hsz
    have hrx:=rx.dF
    generalize hz:ρ x=z at hrx
    cases hrx with
    |nil=>exact absurd rfl hne
    |sl _ _ ad cap f hs hok hcap hlen hc hrr=>
     have h1:j<(l.length:Int):=h1
     have h2:n.nat<l.length:=h2
     obtain ⟨b0,o0,sp0⟩:=ad
     simp only at hs;subst hs
     have hrow:l[n.nat]?=some l[n.nat]:=List.getElem?_eq_getElem h2
     have hr:(Instr.indexAt t (ρ x) (ρ ix)).run Pg w=.ok (.pointer (some ⟨b0,o0+n.nat*ie.size,none⟩)) w:=by
      have hj:j.toNat=n.nat:=by rw [hnk];rfl
      rw [hz,rn',run_indexAt_slice hu (htt _ _ he) _ _ _ _ _ _ h0 h1,hj]
     have hget:(P.sl ie.size l).list.getD n.nat []=l[n.nat]:=by
      show l.getD n.nat []=_
      rw [List.getD_eq_getElem?_getD,hrow];rfl
     refine still h (v:=.pointer (some ⟨b0,o0+n.nat*ie.size,none⟩)) (by unfold execOp;rw [ho];exact eG hr) (bD.E_ ?_) fun g' hg' => ?_
     ·rw [hget]
      have:=dP.sp (E:=E) (st:=st) (gh:=gh) (w:=w) a i l[n.nat] 0 b0 (o0+n.nat*ie.size) (fun h0=>hok (by have:=hlen l[n.nat] (List.getElem_mem h2);have:=List.length_pos_iff.2 h0;omega)) (fun j y hy=>⟨_,hc _ _ hrow j y hy,hrr _ _ hrow j y hy⟩)
      simpa using this
     ·have hg':g'∈(S.v (.one (.sp a i ((P.sl ie.size l).list.getD n.nat []) 0))).names:=hg'
      rw [bU] at hg'
      simp [W.names] at hg'
   |_=>exact hsl.elim
  ·cases hk
 ·rename_i m e _ _ _ g _ _ n ht hx hn
  have rx:=hF x;rw [hx] at rx
  have rn:=hF ix;rw [hn] at rn
  have hu:=(htt _ _ ht).kind
  simp only [lT] at hu
  split at hk
  ·rename_i ie sz rows he hgt
   split at hk
   ·rename_i hc
    simp only [Option.some.injEq] at hk;subst hk
    obtain ⟨k,j,hnk,h0,h1,h2,h3⟩:=qP hp
    have rn':ρ ix=.int k j:=by have:=rn.dF;rw [hnk] at this;exact this.cZ
    have hv:ρ x=.pointer (some ⟨g,0,none⟩):=by
     have:=rx.bC
     generalize ρ x=z at this
     cases this;rfl
    obtain ⟨g1,g2,g3⟩:=E.hg g sz rows hgt
    have hlt:n.nat<rows.length:=by omega
    have hrow:rows[n.nat]?=some rows[n.nat]:=List.getElem?_eq_getElem hlt
    have hfr:w.heap[g]?=E.w0.heap[g]?:=h.frame g g1 g2
    have hj:j.toNat=n.nat:=by rw [hnk];rfl
    have hr:(Instr.indexAt t (ρ x) (ρ ix)).run Pg w=.ok (.pointer (some ⟨g,n.nat*sz,none⟩)) w:=by
     rw [hv,rn']
     simp only [Instr.indexAt,asIntOf,Sem.run_bind,Sem.run_pure,bP hu,Result.andThen_ok,Instr.sureAddr]
     simp [h0,h1,bM (htt _ _ he),Addr.fK,hj,hc.1]
    have hget:rows.getD n.nat []=rows[n.nat]:=by rw [List.getD_eq_getElem?_getD,hrow];rfl
    have hok:E.ok st gh w false false g:=⟨.inr (.inr (.inr (by unfold dA.has;rw [hgt];rfl))),Nat.lt_of_lt_of_le g1 h.size,fun g' ho had=>by
     rcases (h.wr g' g ho had).1 with q | q
     ·omega
     ·exact g2 q⟩
    refine still h (v:=.pointer (some ⟨g,n.nat*sz,none⟩)) (by unfold execOp;rw [ho];exact eG hr) (bD.E_ ?_) fun g' hg' => ?_
    ·show dP E st gh w (.sp false false (rows.getD n.nat []) 0) _
     rw [hget]
     exact dP.sp false false rows[n.nat] 0 g (n.nat*sz) (fun _=>hok) fun j y hy=>by
      obtain ⟨u,hu1,hu2⟩:=(g3 _ _ hrow).2 j y hy
      exact ⟨u,(World.cell?_of_block (w:=E.w0) hfr).trans hu1,hu2.mono fun _ f=>f.elim⟩
    ·have hg':g'∈(S.v (.one (.sp false false (rows.getD n.nat []) 0))).names:=hg'
     rw [bU] at hg'
     simp [W.names] at hg'
   ·cases hk
  ·cases hk
 ·rename_i m e _ _ _ x' _ _ k n hng ht hx hn
  have rx:=hF x;rw [hx] at rx
  have rn:=hF ix;rw [hn] at rn
  have hu:=(htt _ _ ht).kind
  simp only [lT] at hu
  split at hk
  ·rename_i ie he
   split at hk
   ·rename_i hc
    simp only [Option.some.injEq] at hk;subst hk
    obtain ⟨b,o',hv,hsh⟩:=rx.bC.Gt hc.2.2
    have hr:(Instr.indexAt t (ρ x) (ρ ix)).run Pg w=.ok (.pointer (some ⟨b,o'+n.toNat*ie.size,none⟩)) w:=by
     rw [hv,rn.dF.cZ]
     simp only [Instr.indexAt,asIntOf,Sem.run_bind,Sem.run_pure,bP hu,Result.andThen_ok,Instr.sureAddr]
     simp [hc.1,hc.2.1,bM (htt _ _ he),Addr.fK]
    refine still h (v:=.pointer (some ⟨b,o'+n.toNat*ie.size,none⟩)) (by unfold execOp;rw [ho];exact eG hr) (bD.E_ (hsh _)) fun g' hg'=>hFn x g' ?_
    have hg':g'∈(S.v (.one (x'.shift (n.toNat*ie.size)))).names:=hg'
    rw [bU,W.DX] at hg'
    rw [hx,bU];exact hg'
   ·cases hk
  ·cases hk
 ·cases hk
theorem Cm {b:Bool} {lo hi:Option Value} {len cap m k:Nat} (hlo:(lo=none∧m=0)∨∃kd,lo=some (.int kd m)) (hhi:(hi=none∧k=len)∨∃kd,hi=some (.int kd k)) (h1:m≤k) (h2:k≤cap) :
  (Instr.sliceBounds b len cap lo hi none).run Pg w=.ok (m,k,cap) w:=by
 have hb :∀(kd:IntKind) (n y:Nat) (c:BoundsCode),n≤y→(Instr.sliceBound (.int kd n) y c).run Pg w=.ok n w:=by
  intro kd n y c hn
  have:0≤(n:Int)∧(n:Int)≤y:=by omega
  simp [Instr.sliceBound,asIntOf,hn]
 unfold Instr.sliceBounds
 rcases hhi with ⟨rfl,rfl⟩ | ⟨kh,rfl⟩<;>rcases hlo with ⟨rfl,rfl⟩ | ⟨kl,rfl⟩
 ·simp
 ·simp [hb _ _ _ _ h1]
 ·simp [hb _ _ _ _ h2]
 ·simp [hb _ _ _ _ h2,hb _ _ _ _ h1]
theorem m_ {lo hi:Option Value} {len cap m k:Nat} (hlo:(lo=none∧m=0)∨∃kd,lo=some (.int kd m)) (hhi:(hi=none∧k=len)∨∃kd,hi=some (.int kd k)) (h1:m≤k) (h2:k≤cap) :
  (Instr.sliceBounds true len cap lo hi none).run Pg w=.ok (m,k,cap) w:=by
 have hb :∀(kd:IntKind) (n y:Nat) (c:BoundsCode),n≤y→(Instr.sliceBound (.int kd n) y c).run Pg w=.ok n w:=by
  intro kd n y c hn
  have:0≤(n:Int)∧(n:Int)≤y:=by omega
  simp [Instr.sliceBound,asIntOf,hn]
 unfold Instr.sliceBounds
 rcases hhi with ⟨rfl,rfl⟩ | ⟨kh,rfl⟩<;>rcases hlo with ⟨rfl,rfl⟩ | ⟨kl,rfl⟩
 ·simp
 ·simp [hb _ _ _ _ h1]
 ·simp [hb _ _ _ _ h2]
 ·simp [hb _ _ _ _ h2,hb _ _ _ _ h1]
theorem f_ {F:Operand→S} {ρ:Operand→Value} (hF :∀x,bD E st gh w (F x) (ρ x)) {dflt y:P} {lo:Option Operand} (h:kK dflt (lo.map F)=some y) {m:Nat} (hy:y=.int .i64 m) :
  (lo.map ρ=none∧dflt=.int .i64 m)∨∃kd,lo.map ρ=some (.int kd m):=by
 cases lo with
 |none=>simp only [Option.map_none,kK,Option.some.injEq] at h;subst h;exact .inl ⟨rfl,hy⟩
 |some x=>
  simp only [Option.map_some] at h ⊢
  have:=hF x
  unfold kK at h
  split at h
  ·rename_i he;cases he
  ·rename_i a i z he
   simp only [Option.some.injEq] at he h
   rw [he] at this
   subst h hy
   exact .inr ⟨.i64,by rw [this.dF.cZ]⟩
  ·cases h
theorem L8 (htt:fF Pg tt) (t:TypeId) (x hi mx:Operand):dD Pg tt (.slice t x none (some hi) (some mx)):=by
 intro E st gh val w ρ F o d r ho h hF hFn hk hp hd
 simp only [kernel] at hk
 unfold Aj at hk
 have hrun :∀(e:TypeId) (ao:Option Addr) (len cap k j:Nat) (ie:TI),Pg.underlying t=some (.slice e)→lW Pg e ie→ρ x=.slice ao len cap→ρ hi=.int .i64 k→ρ mx=.int .i64 j→k≤j→j≤cap→
   (execOp ρ o).run Pg w=.ok (.value (.slice (if j=0 then ao else ao.map (·.add 0)) k j)) w:=by
  intro e ao len cap k j ie hu he hv hh hm h1 h2
  unfold execOp
  rw [ho]
  refine eG ?_
  have b1:(j:Int)≤cap:=by omega
  have b2:(k:Int)≤j:=by omega
  simp [Instr.sliceAt,bP hu,Instr.slice,Instr.sliceBounds,Instr.sliceBound,asIntOf,hv,hh,hm,bM he,h1,h2,Result.andThen]
 split at hk
 ·rename_i e _ _ _ g _ _ h' _ _ m' ht hx hh hm
  have rx:=hF x;rw [hx] at rx
  have rh:=hF hi;rw [hh] at rh
  have rm:=hF mx;rw [hm] at rm
  have hu:=(htt _ _ ht).kind
  simp only [lT] at hu
  split at hk
  ·rename_i ie _ _ sz l he hog
   split at hk
   ·rename_i hsz
    simp only [Option.some.injEq] at hk;subst hk
    obtain ⟨k,j,rfl,rfl,hkj,hjl⟩:=hp
    have hsm:sz<MB:=by rw [hsz];exact (htt _ _ he).small
    have hv:=(by cases rx.bC with | own _ _ _ hb=>exact (hb _ _ (O.iq hog)).trans ((fD hsm).trans (by rw [fB hsm])):ρ x=.slice (gh g).ad l.length (gh g).cap)
    have hcap:=(uF (h.aJ g) (O.iq hog)).1
    rw [fB hsm] at hcap
    have hr:=hrun e _ _ _ k j ie hu (htt _ _ he) hv rh.dF.cZ rm.dF.cZ hkj (by omega)
    have hadd:(gh g).ad.map (·.add 0)=(gh g).ad:=by
     have hO:=h.aJ g;rw [hog] at hO
     rcases hO with ⟨z1,_⟩ | ⟨ad,ob,z1,z2,_⟩
     ·rw [z1];rfl
     ·obtain ⟨b0,o0,sp0⟩:=ad
      simp only at z2;subst z2
      rw [z1];rfl
    rw [hadd,ite_self] at hr
    refine still h hr (bD.E_ (.vw g (jJ 0) _ _ rfl fun sz' len' ho' => ?_)) fun g' hg' => ?_
    ·rw [hog] at ho'
     obtain ⟨rfl,rfl⟩:=O.iG (fz:=false) ho'
     rw [fB hsm]
     refine ⟨0,k,j,rfl,rfl,by omega,by omega,by omega,?_⟩
     rw [Nat.zero_mul,hadd,ite_self,Nat.sub_zero]
    ·have hg':g'∈(S.v (.one (.vw g (jJ 0) (P.int .i64 (k:Int))))).names:=hg'
     rw [bU] at hg'
     exact hFn x g' (by rw [hx,bU];simpa [W.names] using hg')
   ·cases hk
  ·cases hk
 ·rename_i e _ _ _ _ _ h' _ _ m' ht hx hh hm
  have rx:=hF x;rw [hx] at rx
  have rh:=hF hi;rw [hh] at rh
  have rm:=hF mx;rw [hm] at rm
  have hu:=(htt _ _ ht).kind
  simp only [lT] at hu
  split at hk
  rotate_left
  ·cases hk
  rename_i ie he
  simp only [Option.some.injEq] at hk;subst hk
  obtain ⟨rfl,rfl⟩:=hp
  have hv:ρ x=.slice none 0 0:=by
   have:=rx.bC
   generalize ρ x=z at this
   cases this;rfl
  have hr:(execOp ρ o).run Pg w=.ok (.value (.slice none 0 0)) w:=by
   unfold execOp
   rw [ho]
   refine eG ?_
   have hh':=rh.dF.cZ
   have hm':=rm.dF.cZ
   simp [Instr.sliceAt,bP hu,Instr.slice,Instr.sliceBounds,Instr.sliceBound,asIntOf,hv,hh',hm',bM (htt _ _ he),Result.andThen]
  exact still h hr (bD.E_ .bg) fun g' hg'=>by
   have hg':g'∈(S.v (.one W.bg)).names:=hg'
   rw [bU] at hg';simp [W.names] at hg'
 ·cases hk
theorem OI (htt:fF Pg tt) (t:TypeId) (x:Operand) (lo hi:Option Operand):dD Pg tt (.slice t x lo hi none):=by
 intro E st gh val w ρ F o d r ho h hF hFn hk hp hd
 simp only [kernel] at hk
 split at hk
 ·rename_i e _ _ _ x' ht hx
  have rx:=hF x;rw [hx] at rx
  have hu:=(htt _ _ ht).kind
  simp only [lT] at hu
  have hnx :∀g,g∈x'.names→st.used g=true:=fun g hg=>hFn x g (by rw [hx,bU];exact hg)
  have hrun :∀(ao:Option Addr) (len cap m k:Nat) (ie:TI),lW Pg e ie→ρ x=.slice ao len cap→(lo.map ρ=none∧m=0)∨(∃kd,lo.map ρ=some (.int kd m))→
    ((hi.map ρ=none∧k=len)∨∃kd,hi.map ρ=some (.int kd k))→m≤k→k≤cap→
    (execOp ρ o).run Pg w=.ok (.value (.slice (if cap=m then ao else ao.map (·.add (m*ie.size))) (k-m) (cap-m))) w:=by
   intro ao len cap m k ie he hv hlo hhi h1 h2
   unfold execOp
   rw [ho]
   refine eG ?_
   simp only [Option.map_none]
   have hs:=m_ (Pg:=Pg) (w:=w) (len:=len) hlo hhi h1 h2
   simp [Instr.sliceAt,bP hu,Instr.slice,hv,hs,bM he]
  split at hk
  ·rename_i ie ask len he hlen
   split at hk
   ·rename_i lo' hi' hlo hhi
    split at hk
    ·rename_i g
     split at hk
     ·rename_i sz l hog
      split at hk
      ·rename_i hsz
       simp only [Option.some.injEq] at hk;subst hk
       obtain ⟨m,k,hm,hk,hmk,hkl⟩:=hp
       have hsm:sz<MB:=by rw [hsz];exact (htt _ _ he).small
       have hv:=(by cases rx.bC with | own _ _ _ hb=>exact (hb _ _ hog).trans (fD hsm):ρ x=.slice (gh g).ad l (gh g).cap)
       have hcap:=(uF (h.aJ g) hog).1
       have Gy:(lo.map ρ=none∧m=0)∨∃kd,lo.map ρ=some (.int kd m):=(f_ hF hlo hm).imp (fun ⟨a,b⟩=>⟨a,by simp [jJ] at b;omega⟩) id
       have uG:(hi.map ρ=none∧k=l)∨∃kd,hi.map ρ=some (.int kd k):=(f_ hF hhi hk).imp (fun ⟨a,b⟩=>⟨a,by
        simp only [lenOf,hog,if_pos hsm,Option.some.injEq,Prod.mk.injEq] at hlen;rw [←hlen.2] at b;simp at b;omega⟩) id
       refine still h (hrun _ _ _ m k ie (htt _ _ he) hv Gy uG hmk (by omega)) (bD.E_ (.vw g lo' hi' _ rfl fun sz' len' ho' => ?_)) fun g' hg' => ?_
       ·rw [hog] at ho';cases ho'
        exact ⟨m,k,(gh g).cap-m,hm,hk,hmk,hkl,by omega,by rw [hsz]⟩
       ·have hg':g'∈(S.v (.one (.vw g lo' hi'))).names:=hg'
        rw [bU] at hg'
        exact hnx g' (by simpa [W.names] using hg')
      ·cases hk
     ·cases hk
    ·rename_i a i y
     simp only [Option.some.injEq] at hk;subst hk
     obtain ⟨hask,hsl,m,k,hm,hk,hmk,hkl⟩:=hp
     cases y with
     |sl sz l=>
      have hkl:k≤l.length:=hkl
      obtain ⟨ao,cap,hv,hcap,hcells⟩:=rx.dF.zn
      have Gy:(lo.map ρ=none∧m=0)∨∃kd,lo.map ρ=some (.int kd m):=(f_ hF hlo hm).imp (fun ⟨a,b⟩=>⟨a,by simp [jJ] at b;omega⟩) id
      have uG:(hi.map ρ=none∧k=l.length)∨∃kd,hi.map ρ=some (.int kd k):=(f_ hF hhi hk).imp (fun ⟨a,b⟩=>⟨a,by
       simp only [lenOf,Option.some.injEq,Prod.mk.injEq] at hlen;rw [←hlen.2] at b;simp [P.len] at b;omega⟩) id
      have e1:lo'.nat=m:=by rw [hm];simp [P.nat,P.num]
      have e2:hi'.nat=k:=by rw [hk];simp [P.nat,P.num]
      refine still h (hrun _ _ _ m k ie (htt _ _ he) hv Gy uG hmk (by omega)) (bD.ofP ?_) fun g' hg' => ?_
      ·show aU w _ (P.sub ie.size lo'.nat hi'.nat (.sl sz l)) _
       rw [e1,e2]
       have hlen':((l.take k).drop m).length=k-m:=by simp;omega
       refine aU.dX (htt _ _ he).small ?_
       show aU w _ (.sl ie.size ((l.take k).drop m)) _
       rcases Nat.lt_or_ge m k with hlt | hge
       ·have hne:l≠[]:=by intro e;subst e;simp at hkl;omega
        have hsz:sz=ie.size:=by rcases hsl with e | e;exact e;exact absurd e hne
        obtain ⟨ad,rfl,hs,hok,hrow,f,hc,hr⟩:=hcells hne
        have hcm:¬ cap=m:=by omega
        obtain ⟨b0,o0,sp0⟩:=ad
        simp only at hs;subst hs
        rw [if_neg hcm,Option.map_some,Addr.fK,←hlen']
        refine .sl _ _ _ _ (fun i j=>f (m+i) j) rfl (by rw [←hsz];exact hok) (by omega) (fun x hx=>by rw [←hsz];exact hrow x (List.mem_of_mem_take (List.mem_of_mem_drop hx))) (fun i x hx j y hy => ?_) fun i x hx j y hy => ?_
        ·rw [List.getElem?_drop,List.getElem?_take] at hx
         split at hx
         ·have e:o0+m*sz+i*sz+j=o0+(m+i)*sz+j:=by rw [Nat.add_mul];omega
          show w.cell? ⟨b0,o0+m*ie.size+i*ie.size+j,none⟩=_
          rw [←hsz,e]
          exact hc (m+i) x hx j y hy
         ·cases hx
        ·rw [List.getElem?_drop,List.getElem?_take] at hx
         split at hx
         ·exact hr (m+i) x hx j y hy
         ·cases hx
       ·have e3:k-m=0:=by omega
        have e4:(l.take k).drop m=[]:=List.eq_nil_of_length_eq_zero (by omega)
        rw [e3,e4]
        exact .nil _ _ _
      ·have hg':g'∈(S.v (.one (.p a i (P.sub ie.size lo'.nat hi'.nat (.sl sz l))))).names:=hg'
       rw [bU] at hg'
       simp [W.names] at hg'
     |_=>exact hsl.elim
    ·simp only [Option.some.injEq] at hk;subst hk
     obtain ⟨hm,hk⟩:=hp
     have hv:=(by generalize hz:ρ x=z at rx;cases rx.bC;rfl:ρ x=.slice none 0 0)
     have Gy:(lo.map ρ=none∧0=0)∨∃kd,lo.map ρ=some (.int kd (0:Nat)):=(f_ hF hlo hm).imp (fun ⟨a,b⟩=>⟨a,rfl⟩) id
     have uG:(hi.map ρ=none∧0=0)∨∃kd,hi.map ρ=some (.int kd (0:Nat)):=(f_ hF hhi hk).imp (fun ⟨a,b⟩=>⟨a,rfl⟩) id
     refine still h (hrun _ _ _ 0 0 ie (htt _ _ he) hv Gy uG (Nat.le_refl _) (Nat.le_refl _)) (bD.E_ ?_) fun g' hg' => ?_
     ·exact .bg
     ·have hg':g'∈(S.v (.one .bg)).names:=hg'
      rw [bU] at hg'
      simp [W.names] at hg'
    ·cases hk
   ·cases hk
  ·cases hk
 ·rename_i _ _ _ a i y ht hx
  have rx:=hF x;rw [hx] at rx
  have hu:=(htt _ _ ht).kind
  simp only [lT] at hu
  split at hk
  ·rename_i lo' hi' hlo hhi
   simp only [Option.some.injEq] at hk;subst hk
   obtain ⟨hs,m,k,hm,hk,hmk,hkl⟩:=hp
   cases y with
   |str s=>
    have hkl:k≤s.size:=hkl
    have hv:=rx.dF.kX
    have Gy:(lo.map ρ=none∧m=0)∨∃kd,lo.map ρ=some (.int kd m):=(f_ hF hlo hm).imp (fun ⟨a,b⟩=>⟨a,by simp [jJ] at b;omega⟩) id
    have uG:(hi.map ρ=none∧k=s.size)∨∃kd,hi.map ρ=some (.int kd k):=(f_ hF hhi hk).imp (fun ⟨a,b⟩=>⟨a,by simp [P.len] at b;omega⟩) id
    have hb:=Cm (Pg:=Pg) (w:=w) (b:=false) (len:=s.size) Gy uG hmk hkl
    have e1:lo'.nat=m:=by rw [hm];simp [P.nat,P.num]
    have e2:hi'.nat=k:=by rw [hk];simp [P.nat,P.num]
    refine eX (tt:=tt) h (v:=.string (s.extract m k)) ?_ fun ok => ?_
    ·unfold execOp
     rw [ho]
     refine eG ?_
     simp only [Option.map_none]
     simp [Instr.sliceAt,bP hu,Instr.slice,hv,hb]
    ·show aU w ok (P.str (s.extract lo'.nat hi'.nat)) _
     rw [e1,e2]
     exact .str _
   |_=>exact hs.elim
  ·cases hk
 ·cases hk
end
end Go.Fw

namespace Go.Fw
set_option linter.unusedSectionVars false
variable [dA]
set_option linter.unusedVariables false
section
variable {E:Env} {st st':St} {gh aQ:Nat→Gh} {w w':World} {val:Nat→Value} {Pg:Program} {tt:TT}
theorem cells_one {v:Value} (h:v.oneCell'=true):v.cells=#[v]:=by cases v<;>first | rfl | simp [Value.oneCell'] at h
theorem qK.cells {x:V} {v:Value} (h:qK E st gh w x v) (hs:x.solid=true) :∃cs:List Value,v.cells=cs.toArray∧cs.length=x.words.length∧(∀c∈cs,c.oneCell'=true)∧
  ∀(j:Nat) y u,x.words[j]?=some y→cs[j]?=some u→dP E st gh w y u:=by
 cases h with
 |one x v h=>
  have ho:v.oneCell'=true:=h.oneCell (by intro b y e;subst e;cases hs) (by intro e;subst e;cases hs)
  refine ⟨[v],by rw [cells_one ho],rfl,by simpa using ho,fun j y u hy hu => ?_⟩
  cases j with
  |zero=>simp [V.words] at hy hu;subst hy hu;exact h
  |succ j=>simp at hu
 |agg xs cs hl hv h=>exact ⟨cs,rfl,hl.symm,hv,h⟩
theorem bD.Gz {x:V} {v:Value} (h:bD E st gh w (.v x) v):qK E st gh w x v:=by cases h;assumption
theorem foldl_set (off:Nat) :∀(vs:List Value) (j:Nat) (a:Array Value),off+j+vs.length≤a.size→
  ((vs.zipIdx j).foldl (fun cs (p:Value×Nat)=>cs.setIfInBounds (off+p.2) p.1) a).toList=aA a.toList (off+j) vs:=by
 intro vs
 induction vs with
 |nil=>intro j a h;simp [aA]
 |cons v vs ih=>
  intro j a h
  simp only [List.zipIdx_cons,List.foldl_cons]
  rw [ih (j+1) _ (by simp at h ⊢;omega)]
  simp only [Array.toList_setIfInBounds,aA]
  simp at h
  apply List.ext_getElem?
  intro n
  simp only [List.getElem?_append,List.getElem?_take,List.getElem?_drop,List.length_append,List.length_take,List.length_set,List.getElem?_set,List.length_cons]
  have e1:min (off+(j+1)) a.toList.length=off+j+1:=by simp;omega
  have e2:min (off+j) a.toList.length=off+j:=by simp;omega
  rw [e1,e2]
  rcases Nat.lt_trichotomy n (off+j) with hn | hn | hn
  ·simp [hn,show n<off+j+1 by omega,show n<off+j+1+vs.length by omega,show n<off+j+(vs.length+1) by omega,show n<off+(j+1) by omega,show ¬ off+j=n by omega]
  ·subst hn
   have:off+j<a.size:=by omega
   simp [this,show off+j<off+j+1+vs.length by omega,show off+j<off+(j+1) by omega]
  ·by_cases h2:n<off+j+(vs.length+1)
   ·rw [if_pos (by omega),if_neg (by omega),if_pos (by omega),if_neg (by omega)]
    have:n-(off+j)=(n-(off+j+1))+1:=by omega
    rw [this,List.getElem?_cons_succ]
   ·rw [if_neg (by omega),if_neg (by omega)]
    have e:off+(j+1)+vs.length+(n-(off+j+1+vs.length))=off+j+(vs.length+1)+(n-(off+j+(vs.length+1))):=by omega
    rw [e,if_neg (by omega)]
theorem bK {α:Type} {l new:List α} {off:Nat} (h:off+new.length≤l.length):(aA l off new).length=l.length:=by
 simp [aA];omega
theorem cu {α:Type} {l new:List α} {off:Nat} (h:off+new.length≤l.length) (j:Nat):(aA l off new)[j]?=if off≤j∧j<off+new.length then new[j-off]? else l[j]?:=by
 unfold aA
 simp only [List.getElem?_append,List.getElem?_take,List.getElem?_drop,List.length_append,List.length_take]
 have e2:min off l.length=off:=by omega
 rw [e2]
 by_cases h1:j<off
 ·rw [if_pos (by omega),if_pos h1,if_pos h1,if_neg (by omega)]
 ·by_cases h2:j<off+new.length
  ·rw [if_pos h2,if_neg h1,if_pos ⟨by omega,h2⟩]
  ·rw [if_neg h2,if_neg (by omega)]
   congr 1;omega
theorem Aq {place place':Nat→Option (Nat×Nat)} (hpl :∀n p,place n=some p→place' n=some p) :∀(xs:List (Nat×S)) (vs:List (Nat×Value)) (ws ws':List W) (cs:List Value),xs.length=vs.length→
  (∀(j:Nat) x v,xs[j]?=some x→vs[j]?=some v→x.1=v.1∧bD E st gh w x.2 v.2)→ws.length=cs.length→(∀c∈cs,c.oneCell'=true)→
  (∀(j:Nat) x u,ws[j]?=some x→cs[j]?=some u→dP E st gh w x u)→kJ place ws xs=some ws'→
  ∃cs':List Value,Instr.fill place' cs.toArray vs=some cs'.toArray∧ws'.length=cs'.length∧(∀c∈cs',c.oneCell'=true)∧(∀(j:Nat) x u,ws'[j]?=some x→cs'[j]?=some u→dP E st gh w x u)∧ws'.length=ws.length
 | [],vs,ws,ws',cs,hl,hx,hlen,hone,hr,hf=>by
  simp only [kJ,Option.some.injEq] at hf;subst hf
  cases vs with
  |nil=>exact ⟨cs,rfl,hlen,hone,hr,rfl⟩
  |cons v vs=>simp at hl
 |(n,.v x)::xs,vs,ws,ws',cs,hl,hx,hlen,hone,hr,hf=>by
  cases vs with
  |nil=>simp at hl
  |cons v vs=>
   obtain ⟨n',v⟩:=v
   simp only [kJ] at hf
   split at hf
   ·rename_i off size hp
    split at hf
    ·rename_i hc
     obtain ⟨hn,hrx⟩:=hx 0 _ _ rfl rfl
     simp only at hn hrx
     subst hn
     obtain ⟨us,hus,L9,huo,hur⟩:=hrx.Gz.cells hc.2.2
     have hsz:us.length=size:=by rw [L9,hc.1]
     have hb:off+us.length≤cs.length:=by omega
     have hstep:Instr.fill place' cs.toArray ((n,v)::vs)=Instr.fill place' (aA cs off us).toArray vs:=by
      have hfold:=foldl_set off us 0 cs.toArray (by simp;omega)
      simp only [Instr.fill,hpl _ _ hp,hus]
      have h1:(decide (us.toArray.size≠size)||decide (off+us.toArray.size>cs.toArray.size))=false:=by simp;omega
      rw [h1]
      simp only [Bool.false_eq_true,if_false]
      congr 1
      apply Array.ext'
      have:us.toArray.zipIdx.foldl (fun cs (p:Value×Nat)=>cs.setIfInBounds (off+p.2) p.1) cs.toArray=(us.zipIdx 0).foldl (fun cs (p:Value×Nat)=>cs.setIfInBounds (off+p.2) p.1) cs.toArray:=by
       rw [←Array.foldl_toList];simp
      rw [this,hfold]
      simp
     have hwl:off+x.words.length≤ws.length:=by omega
     obtain ⟨cs',h1,h2,h3,h4,h5⟩:=Aq hpl xs vs (aA ws off x.words) ws' (aA cs off us) (by simpa using hl) (fun j a b ha hb=>hx (j+1) a b (by simpa using ha) (by simpa using hb))
      (by rw [bK hwl,bK hb,hlen]) (fun c hcm=>by
       obtain ⟨j,hj⟩:=List.mem_iff_getElem?.1 hcm
       rw [cu hb] at hj
       split at hj
       ·exact huo c (List.mem_of_getElem? hj)
       ·exact hone c (List.mem_of_getElem? hj)) (fun j a b ha hb'=>by
       rw [cu hwl] at ha
       rw [cu hb,L9] at hb'
       split at ha
       ·rename_i hin;rw [if_pos hin] at hb';exact hur _ _ _ ha hb'
       ·rename_i hin;rw [if_neg hin] at hb';exact hr _ _ _ ha hb') hf
     exact ⟨cs',by rw [hstep];exact h1,h2,h3,h4,by rw [h5,bK hwl]⟩
    ·cases hf
   ·cases hf
 |(n,.jH x)::xs,vs,ws,ws',cs,hl,hx,hlen,hone,hr,hf=>by simp [kJ] at hf
 |(n,.no)::xs,vs,ws,ws',cs,hl,hx,hlen,hone,hr,hf=>by simp [kJ] at hf
theorem Ry {v:Value} (h:v.oneCell'=true):dP E st gh w (cv v) v:=by
 unfold cv
 split
 ·exact .p _ _ _ _ (.int _ _)
 ·exact .p _ _ _ _ (.bool _)
 ·exact .p _ _ _ _ (.str _)
 ·exact .bg
 ·exact .p _ _ _ _ (.opq _ h)
theorem kL (v:Value):(cv v).names=[]:=by
 unfold cv;split<;>simp [W.names]
theorem nY {t:TypeId} {i:TI} (h:lW Pg t i):(∀c∈i.zero,c.oneCell'=true)∧(i.zero.map cv).length=i.zero.length∧∀(j:Nat) x u,(i.zero.map cv)[j]?=some x→i.zero[j]?=some u→dP E st gh w x u:=by
 have h1:=h.one
 rw [List.all_eq_true] at h1
 refine ⟨h1,by simp,fun j x u hx hu => ?_⟩
 simp only [List.getElem?_map,hu,Option.map_some,Option.some.injEq] at hx
 subst hx
 exact Ry (h1 u (List.mem_of_getElem? hu))
theorem rZ (w:World) (o:Obj):(w.heap.push o)[w.heap.size]?=some o:=by simp
theorem OJ (h:Rel E st gh val w) (d:Nat) (hd:st.used d=false) (ws:List W) (cs:List Value) (t:TypeId) (hl:ws.length=cs.length) (hone :∀c∈cs,c.oneCell'=true)
  (hr :∀(j:Nat) x u,ws[j]?=some x→cs[j]?=some u→dP E st gh w x u) (hn :∀x∈ws,∀g∈x.names,st.used g=true) :
  ∃aQ,Rel E (st.au [(d,.box ws)] [d]) aQ val { w with heap:=w.heap.push (.cells cs.toArray t) }∧Lets E st (st.au [(d,.box ws)] [d]) gh aQ w { w with heap:=w.heap.push (.cells cs.toArray t) }∧
   (aQ d).ad=some ⟨w.heap.size,0,none⟩ ∧(st.au [(d,.box ws)] [d]).o d=.box ws:=by
 have hm:=Rel.make h d hd (.box ws) cs.toArray t ⟨some ⟨w.heap.size,0,none⟩,0,fun _=>none⟩ rfl (fun _=>rfl) (fun aQ w' hlets hg hw=>by
  subst hw
  refine ⟨⟨w.heap.size,0,none⟩,cs.toArray,t,rfl,rfl,rZ _ _,by simp;omega,fun j x hx => ?_⟩
  have hlt:j<cs.length:=by have:=(List.getElem?_eq_some_iff.1 hx).1;omega
  have hc:cs[j]?=some cs[j]:=List.getElem?_eq_getElem hlt
  refine ⟨cs[j],by simp,hone _ (List.getElem_mem hlt),hlets.y9 (fun g hg=>hn x (List.mem_of_getElem? hx) g hg) (hr j x _ hx hc)⟩) (fun g hg=>by
  simp only [O.names,List.mem_flatMap] at hg
  obtain ⟨x,hx,hg⟩:=hg
  exact hn x hx g hg)
 exact ⟨_,hm.1,hm.2,by simp [dH],by simp [St.au,List.lookup]⟩
theorem OL (htt:fF Pg tt) (t:TypeId):dD Pg tt (.alloc t):=by
 intro E st gh val w ρ F o d r ho h hF hFn hk hp hd
 simp only [kernel] at hk
 split at hk
 ·rename_i i ht
  simp only [Option.some.injEq] at hk;subst hk
  obtain ⟨z,hz,hzc,_⟩:=iZ (Pg:=Pg) (w:=w) (htt _ _ ht)
  obtain ⟨hone,hl,hr⟩:=nY (E:=E) (st:=st) (gh:=gh) (w:=w) (htt _ _ ht)
  obtain ⟨aQ,h1,h2,h3,h4⟩:=OJ h d (hd d (by simp)) (i.zero.map cv) i.zero t hl hone hr (fun x hx g hg=>by
   simp only [List.mem_map] at hx;obtain ⟨v,_,rfl⟩:=hx;rw [kL] at hg;cases hg)
  have abv:z.cells=i.zero.toArray:=by rw [←hzc]
  refine ⟨.pointer (some ⟨w.heap.size,0,none⟩),_,aQ,.inl ?_,h1,h2,bD.E_ (.box d 0 _ rfl fun ws hws=>⟨_,h3,rfl⟩),fun g hg => ?_⟩
  ·unfold execOp;rw [ho]
   refine eG ?_
   simp [Instr.alloc,hz,newVar,newRow,abv]
  ·have hg:g∈(S.v (.one (.box d 0))).names:=hg
   rw [bU] at hg
   simp only [W.names,List.mem_singleton] at hg
   subst hg;simp [St.au]
 ·cases hk
theorem OM (htt:fF Pg tt) (t:TypeId) (x:Operand):dD Pg tt (.range t x):=by
 intro E st gh val w ρ F o d r ho h hF hFn hk hp hd
 simp only [kernel] at hk
 split at hk
 ·rename_i a i x' ht hx
  simp only [Option.some.injEq] at hk;subst hk
  have rx:=hF x;rw [hx] at rx
  have hu:=(htt _ _ ht).kind
  simp only [lT] at hu
  cases x' with
  |str bs=>
   have hv:=rx.dF.kX
   obtain ⟨h1,h2⟩:=h.Yx d (hd d (by simp)) (.it (.str bs) (jJ 0)) (.stringIter bs 0) ⟨some ⟨w.heap.size,0,none⟩,0,fun _=>none⟩ rfl (fun _=>rfl)
    (fun aQ w' _ _ hw=>⟨_,bs,0,rfl,rfl,rfl,by rw [hw];simp⟩) (fun g hg=>by simp [O.names] at hg)
   refine ⟨.pointer (some ⟨w.heap.size,0,none⟩),_,_,.inl ?_,h1,h2,bD.E_ (.lQ d _ rfl fun s n _=>⟨⟨w.heap.size,0,none⟩,by simp [dH],rfl⟩),fun g hg => ?_⟩
   ·unfold execOp;rw [ho]
    refine eG ?_
    rw [hv]
    simp [Instr.range,bP hu]
   ·have hg:g∈(S.v (.one (.lQ d))).names:=hg
    rw [bU] at hg
    simp only [W.names,List.mem_singleton] at hg
    subst hg;simp [St.au]
  |_=>exact hp.elim
 ·cases hk
theorem WL (htt:fF Pg tt) (t:TypeId) (x:Operand):dD Pg tt (.box t x):=by
 intro E st gh val w ρ F o d r ho h hF hFn hk hp hd
 simp only [kernel] at hk
 split at hk
 ·rename_i i x' ht hx
  split at hk
  ·rename_i hc
   simp only [Option.some.injEq] at hk;subst hk
   have rx:=hF x;rw [hx] at rx
   obtain ⟨cs,hv,hl,hone,hr⟩:=rx.Gz.cells hc.2
   obtain ⟨aQ,h1,h2,h3,h4⟩:=OJ h d (hd d (by simp)) x'.words cs t hl.symm hone hr (fun y hy g hg=>by
    have:=hFn x g;rw [hx] at this
    refine this ?_
    cases x' with
    |one z=>simp [V.words] at hy;subst hy;simpa [S.names,V.names] using hg
    |agg xs=>simp only [S.names,V.names,List.mem_flatMap];exact ⟨y,hy,hg⟩)
   refine ⟨.pointer (some ⟨w.heap.size,0,none⟩),_,aQ,.inl ?_,h1,h2,bD.E_ (.box d 0 _ rfl fun ws hws=>⟨_,h3,rfl⟩),fun g hg => ?_⟩
   ·unfold execOp;rw [ho]
    refine eG ?_
    simp [Instr.box,newVar,newRow,hv]
   ·have hg:g∈(S.v (.one (.box d 0))).names:=hg
    rw [bU] at hg
    simp only [W.names,List.mem_singleton] at hg
    subst hg;simp [St.au]
  ·cases hk
 ·cases hk
theorem yP {α β:Type} (f:α→Sem β) (g:α→β) :∀(l:List α),(∀x∈l,(f x).run Pg w=.ok (g x) w)→(l.mapM f).run Pg w=.ok (l.map g) w
 | [],_=>by simp
 |x::l,h=>by
  simp only [List.mapM_cons,Sem.run_bind,h x (by simp),Result.andThen_ok,yP f g l (fun y hy=>h y (by simp [hy])),Sem.run_pure,List.map_cons]
theorem DY {place:Nat→Option (Nat×Nat)} :∀(xs:List (Nat×S)) (ws ws':List W),kJ place ws xs=some ws'→∀y∈ws',∀g∈y.names,(∃z∈ws,g∈z.names)∨∃x∈xs,g∈x.2.names
 | [],ws,ws',h,y,hy,g,hg=>by simp [kJ] at h;subst h;exact .inl ⟨y,hy,hg⟩
 |(n,.v x)::xs,ws,ws',h,y,hy,g,hg=>by
  simp only [kJ] at h
  split at h
  ·split at h
   ·rcases DY xs _ _ h y hy g hg with ⟨z,hz,hg⟩ | ⟨x',hx',hg⟩
    ·unfold aA at hz
     simp only [List.mem_append] at hz
     rcases hz with (hz | hz) | hz
     ·exact .inl ⟨z,List.mem_of_mem_take hz,hg⟩
     ·refine .inr ⟨_,List.mem_cons_self,?_⟩
      cases x with
      |one z'=>simp [V.words] at hz;subst hz;simpa [S.names,V.names] using hg
      |agg zs=>simp only [S.names,V.names,List.mem_flatMap];exact ⟨z,hz,hg⟩
     ·exact .inl ⟨z,List.mem_of_mem_drop hz,hg⟩
    ·exact .inr ⟨x',List.mem_cons_of_mem _ hx',hg⟩
   ·cases h
  ·cases h
 |(n,.jH x)::xs,ws,ws',h,y,hy,g,hg=>by simp [kJ] at h
 |(n,.no)::xs,ws,ws',h,y,hy,g,hg=>by simp [kJ] at h
theorem CB {ρ:Operand→Value} {F:Operand→S} (hF :∀x,bD E st gh w (F x) (ρ x)) (parts:List (Nat×Operand)) (j:Nat) (x:Nat×S) (v:Nat×Value) (hx:(parts.map fun p=>(p.1,F p.2))[j]?=some x)
  (hv:(parts.map fun p=>(p.1,ρ p.2))[j]?=some v):x.1=v.1∧bD E st gh w x.2 v.2:=by
 simp only [List.getElem?_map,Option.map_eq_some_iff] at hx hv
 obtain ⟨p,hp,rfl⟩:=hx
 obtain ⟨q,hq,rfl⟩:=hv
 rw [hp] at hq;cases hq
 exact ⟨rfl,hF _⟩
theorem OO (htt:fF Pg tt) (t:TypeId) (parts:Array (Nat×Operand)):dD Pg tt (.build t parts):=by
 intro E st gh val w ρ F o d r ho h hF hFn hk hp hd
 simp only [kernel] at hk
 split at hk
 ·rename_i i ht
  split at hk
  ·rename_i hkn
   split at hk
   ·rename_i ws J8
    simp only [Option.some.injEq] at hk;subst hk
    obtain ⟨z,hz,hzc,_⟩:=iZ (Pg:=Pg) (w:=w) (htt _ _ ht)
    obtain ⟨hone,hl,hr⟩:=nY (E:=E) (st:=st) (gh:=gh) (w:=w) (htt _ _ ht)
    have abv:z.cells=i.zero.toArray:=by rw [←hzc]
    have hparts:(parts.map fun (p:Nat×Operand)=>(p.1,ρ p.2)).toList=parts.toList.map fun p=>(p.1,ρ p.2):=by simp
    have hkind:=(htt _ _ ht).kind
    have fin :∀(place':Nat→Option (Nat×Nat)),(∀n p,placeOf tt t n=some p→place' n=some p)→
      ∃cs':List Value,Instr.fill place' z.cells (parts.map fun (p:Nat×Operand)=>(p.1,ρ p.2)).toList=some cs'.toArray∧bD E st gh w (.v (.agg ws)) (.agg cs'.toArray):=by
     intro place' hpl
     obtain ⟨cs',h1,h2,h3,h4,h5⟩:=Aq (E:=E) (st:=st) (gh:=gh) (w:=w) hpl _ (parts.toList.map fun p=>(p.1,ρ p.2)) _ _ i.zero (by simp) (fun j x v hx hv=>CB hF _ j x v hx hv) hl hone hr J8
     exact ⟨cs',by rw [hparts,abv];exact h1,.v _ _ (.agg _ _ h2 h3 h4)⟩
    have YB :∀g∈(S.v (.agg ws)).names,st.used g=true:=by
     intro g hg
     simp only [S.names,V.names,List.mem_flatMap] at hg
     obtain ⟨y,hy,hg⟩:=hg
     rcases DY _ _ _ J8 y hy g hg with ⟨u,hu,hg⟩ | ⟨x,hx,hg⟩
     ·simp only [List.mem_map] at hu;obtain ⟨v,_,rfl⟩:=hu;rw [kL] at hg;cases hg
     ·simp only [List.mem_map] at hx;obtain ⟨p,_,rfl⟩:=hx;exact hFn _ g hg
    obtain ⟨k,size,bytes,zero⟩:=i
    simp only at abv hz hone hl hr
    cases k with
    |struct fs=>
     obtain ⟨gs,hu,hfs⟩:=hkind
     have hkn:(fs.all fun f=>(tt f.2).isSome)=true:=hkn
     rw [List.all_eq_true] at hkn
     have hsz :∀f∈gs.toList,∃iu,tt f.type=some iu:=by
      intro f hf
      have:=hkn (f.offset,f.type) (by rw [←hfs];exact List.mem_map.2 ⟨f,hf,rfl⟩)
      exact Option.isSome_iff_exists.1 this
     have hmap:(gs.mapM fun f=>do pure (f.offset,←sizeOf f.type):Sem (Array (Nat×Nat))).run Pg w=.ok (gs.map fun f=>(f.offset,((tt f.type).map (·.size)).getD 0)) w:=by
      have:(gs.toList.mapM fun f=>do pure (f.offset,←sizeOf f.type):Sem (List (Nat×Nat))).run Pg w=.ok (gs.toList.map fun f=>(f.offset,((tt f.type).map (·.size)).getD 0)) w:=by
       refine yP _ _ _ fun f hf => ?_
       obtain ⟨iu,hiu⟩:=hsz f hf
       simp [bM (htt _ _ hiu),hiu]
      rw [←Array.toArray_toList (xs:=gs),List.mapM_toArray,Sem.run_map,this]
      simp only [Result.andThen_ok]
      congr 1
      apply Array.ext'
      simp
     obtain ⟨cs',h1,h2⟩:=fin (fun n=>(gs.map fun f=>(f.offset,((tt f.type).map (·.size)).getD 0))[n]?) (fun n p hpn=>by
      obtain ⟨off,sz⟩:=p
      obtain ⟨u,iu,e1,e2,e3⟩:=wF ht hpn
      rw [←hfs] at e1
      simp only [List.getElem?_map,Option.map_eq_some_iff,Prod.mk.injEq] at e1
      obtain ⟨f,g1,g2,g3⟩:=e1
      simp only [Array.getElem?_map,Option.map_eq_some_iff]
      exact ⟨f,by simpa using g1,by rw [g2,g3,e2];simp [e3]⟩)
     refine still h (v:=.agg cs'.toArray) (by
      unfold execOp;rw [ho]
      refine eG ?_
      simp only [Instr.build,Sem.run_bind,hz,Result.andThen_ok,bP hu,hmap]
      simp only [h1]
      rfl) h2 YB
    |arr n e=>
     simp only [lT] at hkind
     have hkn:(tt e).isSome=true:=hkn
     obtain ⟨ie,hie⟩:=Option.isSome_iff_exists.1 hkn
     obtain ⟨cs',h1,h2⟩:=fin (fun n=>some (n*ie.size,ie.size)) (fun m p hpm=>by
      unfold placeOf at hpm
      rw [ht] at hpm
      simp only [hie,Option.map_some] at hpm
      split at hpm
      ·exact hpm
      ·cases hpm)
     refine still h (v:=.agg cs'.toArray) (by
      unfold execOp;rw [ho]
      refine eG ?_
      simp only [Instr.build,Sem.run_bind,hz,Result.andThen_ok,bP hkind,bM (htt _ _ hie)]
      simp only [h1]
      rfl) h2 YB
    |_=>cases hkn
   ·cases hk
  ·cases hk
 ·cases hk
theorem aU.adv {ok:Nat→Prop} {sz:Nat} {l:List (List P)} {ao:Option Addr} {len cap:Nat} (h:aU w ok (.sl sz l) (.slice ao len cap)) {c:Nat} (hc:l.length≤c):aU w ok (.sl sz l) (.slice ao len c):=by
 cases h with
 |nil=>exact .nil _ _ _
 |sl _ _ ad _ f hs hok hcap hlen hc' hr=>exact .sl _ _ _ _ f hs hok hc hlen hc' hr
theorem aU.sub {ok:Nat→Prop} {sz:Nat} {l:List (List P)} {ao:Option Addr} {len cap:Nat} (h:aU w ok (.sl sz l) (.slice ao len cap)) {m k:Nat} (hmk:m≤k) (hkl:k≤l.length) :
  aU w ok (.sl sz ((l.take k).drop m)) (.slice (if cap=m then ao else ao.map (·.add (m*sz))) (k-m) (cap-m)):=by
 obtain ⟨ao',cap',he,hcap,hcells⟩:=h.zn
 cases he
 have hlen':((l.take k).drop m).length=k-m:=by simp;omega
 rcases Nat.lt_or_ge m k with hlt | hge
 ·have hne:l≠[]:=by intro e;subst e;simp at hkl;omega
  obtain ⟨ad,rfl,hs,hok,hrow,f,hc,hr⟩:=hcells hne
  have hcm:¬ cap=m:=by omega
  obtain ⟨b0,o0,sp0⟩:=ad
  simp only at hs;subst hs
  rw [if_neg hcm,Option.map_some,Addr.fK,←hlen']
  refine .sl _ _ _ _ (fun i j=>f (m+i) j) rfl hok (by omega) (fun x hx=>hrow x (List.mem_of_mem_take (List.mem_of_mem_drop hx))) (fun i x hx j y hy => ?_) fun i x hx j y hy => ?_
  ·rw [List.getElem?_drop,List.getElem?_take] at hx
   split at hx
   ·have e:o0+m*sz+i*sz+j=o0+(m+i)*sz+j:=by rw [Nat.add_mul];omega
    show w.cell? ⟨b0,o0+m*sz+i*sz+j,none⟩=_
    rw [e]
    exact hc (m+i) x hx j y hy
   ·cases hx
  ·rw [List.getElem?_drop,List.getElem?_take] at hx
   split at hx
   ·exact hr (m+i) x hx j y hy
   ·cases hx
 ·have e3:k-m=0:=by omega
  have e4:(l.take k).drop m=[]:=List.eq_nil_of_length_eq_zero (by omega)
  rw [e3,e4]
  exact .nil _ _ _
theorem FU:st.au [] []=st:=by simp [St.au]
theorem kM (o:Nat→O) (gs:List Nat) (g:Nat):(gs.map (aC o)).lookup g=if g∈gs then some (aC o g).2 else none:=by
 induction gs with
 |nil=>simp
 |cons x gs ih=>
  simp only [List.map_cons]
  by_cases e:g=x
  ·subst e
   have:(aC o g)=(g,(aC o g).2):=rfl
   rw [this,List.lookup]
   simp
  ·have hne:(g==x)=false:=by simpa using e
   have:(aC o x)=(x,(aC o x).2):=rfl
   rw [this,List.lookup,hne]
   simp only [ih,List.mem_cons,e,false_or]
theorem _root_.Go.Fw.O.like.trans {x y z:O} (h1:x.like y) (h2:y.like z):x.like z:=by
 cases x<;>cases y<;>cases z<;>first | exact h1.elim | exact h2.elim | trivial | exact ⟨h1.1.trans h2.1,h1.2.trans h2.2⟩
theorem L_ {α:Type} {l:List α} {c:Nat} {y:α} (h:c<l.length) (j:Nat):(aA l c [y])[j]?=if j=c then some y else l[j]?:=by
 rw [cu (by simp;omega)]
 by_cases e:j=c
 ·subst e;rw [if_pos ⟨Nat.le_refl _,by simp⟩,if_pos rfl];simp
 ·rw [if_neg e,if_neg];simp;omega
theorem jc {l:List (List P)} {n c:Nat} {y:P}:(iH l n c y).length=l.length:=by simp [iH]
theorem wG {l:List (List P)} {n c:Nat} {y:P} {n':Nat} {x':List P} (h:(iH l n c y)[n']?=some x'):(n'≠n∧l[n']?=some x')∨(n'=n∧∃x,l[n]?=some x∧x'=aA x c [y]):=by
 unfold iH at h
 rw [List.getElem?_set] at h
 split at h
 ·rename_i e
  split at h
  ·rename_i hlt
   refine .inr ⟨e.symm,l[n],List.getElem?_eq_getElem hlt,?_⟩
   rw [List.getD_eq_getElem?_getD,List.getElem?_eq_getElem hlt] at h
   simpa using h.symm
  ·cases h
 ·rename_i e;exact .inl ⟨fun x=>e x.symm,h⟩
theorem Ar {l:List (List P)} {n c sz:Nat} {y:P} (hl :∀x∈l,x.length=sz) (hc:c<sz) :∀x∈iH l n c y,x.length=sz:=by
 intro x hx
 obtain ⟨j,hj⟩:=List.mem_iff_getElem?.1 hx
 rcases wG hj with ⟨_,h⟩ | ⟨_,x0,h,rfl⟩
 ·exact hl x (List.mem_of_getElem? h)
 ·have:=hl x0 (List.mem_of_getElem? h)
  rw [bK (by simp;omega),this]
theorem uH {o:Nat→O} {g:Nat} {a i:Bool} {sz:Nat} {l:List (List P)} (h:plainO o g=some (a,i,sz,l)) :
  (∃fz,o g=.arr fz a i sz l)∨(∃ah,o g=.ay a i sz ah l none)∨
  ∃a0 i0 ah l0 n c d fz' a' i' sz' l',o g=.ay a0 i0 sz ah l0 (some (n,c,d))∧o d=.arr fz' a' i' sz' l'∧ah.lookup c=some sz'∧c<rw sz∧a=(a0||a')∧i=(i0||i')∧l=iH l0 n c (P.dX sz' l'):=by
 unfold plainO at h
 cases ho:o g with
 |arr fz a' i' sz' l'=>rw [ho] at h;simp only [Option.some.injEq,Prod.mk.injEq] at h;obtain ⟨rfl,rfl,rfl,rfl⟩:=h;exact .inl ⟨fz,rfl⟩
 |ay a' i' sz' ah l' hole=>
  rw [ho] at h
  rcases hole with _ | ⟨n,c,d⟩
  ·simp only [Option.some.injEq,Prod.mk.injEq] at h;obtain ⟨rfl,rfl,rfl,rfl⟩:=h;exact .inr (.inl ⟨ah,rfl⟩)
  ·simp only at h
   cases hd:o d with
   |arr fz2 a2 i2 sz2 l2=>
    rw [hd] at h
    simp only at h
    split at h
    ·rename_i hc
     simp only [Option.some.injEq,Prod.mk.injEq] at h
     obtain ⟨rfl,rfl,rfl,rfl⟩:=h
     exact .inr (.inr ⟨a',i',ah,l',n,c,d,fz2,a2,i2,sz2,l2,rfl,hd,hc.1,hc.2,rfl,rfl,rfl⟩)
    ·cases h
   |_=>rw [hd] at h;cases h
 |_=>rw [ho] at h;cases h
theorem Rz {o:Nat→O} {g:Nat} {fz a i:Bool} {sz:Nat} {l:List (List P)} (h:o g=.arr fz a i sz l):plainO o g=some (a,i,sz,l):=by simp [plainO,h]
theorem DZ {o:Nat→O} {g:Nat} {a i:Bool} {sz:Nat} {l:List (List P)} (h:plainO o g=some (a,i,sz,l)):(o g).like (.arr true a i sz l):=by
 rcases uH h with ⟨fz,h⟩ | ⟨ah,h⟩ | ⟨a0,i0,ah,l0,n,c,d,fz',a',i',sz',l',h',_,_,_,_,_,rfl⟩
 ·rw [h];exact ⟨rfl,rfl⟩
 ·rw [h];exact ⟨rfl,rfl⟩
 ·rw [h'];exact ⟨rfl,by simp only [ml,jc]⟩
theorem GH {o:Nat→O} {g:Nat} {a i:Bool} {sz:Nat} {l:List (List P)} (h:plainO o g=some (a,i,sz,l)):(o g).dim=some (sz,ml sz l):=O.Af (DZ h) rfl
theorem uI {o:Nat→O} {g:Nat} {a i:Bool} {sz:Nat} {l:List (List P)} (h:plainO o g=some (a,i,sz,l)):wB o ((o g).names++[g]):=by
 have hg:(plainO o g).isSome=true:=by rw [h];rfl
 rcases uH h with ⟨fz,h⟩ | ⟨ah,h⟩ | ⟨a0,i0,ah,l0,n,c,d,fz',a',i',sz',l',h,hd,_⟩
 ·intro x hx;rw [h] at hx;simp [O.names] at hx;subst hx;exact ⟨hg,by rw [h];simp [O.names]⟩
 ·intro x hx;rw [h] at hx;simp [O.names,bn] at hx;subst hx;exact ⟨hg,by rw [h];simp [O.names,bn]⟩
 ·intro x hx
  rw [h] at hx ⊢
  simp only [O.names,bn,List.cons_append,List.nil_append,List.mem_cons,List.not_mem_nil,or_false] at hx ⊢
  rcases hx with rfl | rfl
  ·exact ⟨by rw [Rz hd];rfl,by rw [hd];simp [O.names]⟩
  ·exact ⟨hg,by rw [h];simp [O.names,bn]⟩
theorem wB.used {gs:List Nat} (h:Rel E st gh val w) (hg:wB st.o gs) {g:Nat} (hm:g∈gs):st.used g=true:=by
 refine h.ul g fun e => ?_
 have:=(hg g hm).1
 simp [plainO,e] at this
theorem lG {o:Nat→O} {g:Nat} {a i:Bool} {sz:Nat} {l:List (List P)} (h:plainO o g=some (a,i,sz,l)):(Fw.aC o g).2=.arr true a i sz l:=by simp [Fw.aC,h]
theorem dS (gs:List Nat) (g:Nat):(st.au (gs.map (Fw.aC st.o)) []).o g=if g∈gs then (Fw.aC st.o g).2 else st.o g:=by
 show (match (gs.map (Fw.aC st.o)).lookup g with | some x=>x | none=>st.o g)=_
 rw [kM]
 split<;>rename_i h
 ·split at h
  ·rename_i hm;rw [if_pos hm];exact (Option.some.inj h).symm
  ·cases h
 ·split at h
  ·cases h
  ·rename_i hm;rw [if_neg hm]
theorem Rel.freezes (gs:List Nat) (h:Rel E st gh val w) (hg:wB st.o gs) :
  Rel E (st.au (gs.map (Fw.aC st.o)) []) gh val w∧Lets E st (st.au (gs.map (Fw.aC st.o)) []) gh gh w w:=by
 have hso:=dS (st:=st) gs
 have hss:(st.au (gs.map (Fw.aC st.o)) []).s=st.s:=rfl
 have hsu :∀g,st.used g=true→(st.au (gs.map (Fw.aC st.o)) []).used g=true:=fun g hg=>by simp [St.au,hg]
 generalize st.au (gs.map (Fw.aC st.o)) []=st' at hso hss hsu ⊢
 have hin :∀g∈gs,∃a i sz l,plainO st.o g=some (a,i,sz,l)∧st'.o g=.arr true a i sz l:=by
  intro g hm
  obtain ⟨⟨a,i,sz,l⟩,hp⟩:=Option.isSome_iff_exists.1 (hg g hm).1
  exact ⟨a,i,sz,l,hp,by rw [hso,if_pos hm,lG hp]⟩
 have hown :∀g',(st'.o g').aX=true→(st.o g').aX=true∧g'∉gs:=by
  intro g' hg'
  by_cases hm:g'∈gs
  ·obtain ⟨a,i,sz,l,_,e⟩:=hin g' hm
   rw [e] at hg';cases hg'
  ·rw [hso,if_neg hm] at hg';exact ⟨hg',hm⟩
 have hl:Lets E st st' gh gh w w:=by
  refine ⟨fun a' i' b hb=>⟨⟨hb.1,hb.2.1,fun g' hg'=>hb.2.2 g' (hown g' hg').1⟩,rfl⟩,fun g' _=>.inr ⟨⟨rfl,rfl⟩,?_⟩⟩
  by_cases hm:g'∈gs
  ·obtain ⟨a,i,sz,l,hp,e⟩:=hin g' hm
   rw [e];exact DZ hp
  ·rw [hso,if_neg hm];exact O.dM _
 have UJ :∀g b a i,g∈gs→(st.o g).inner=some i→(gh g).has b→E.ok st' gh w a i b:=fun g b a i hm hi hb=>
  h.abu hi hb fun g' hg'=>⟨(hown g' hg').1,fun e=>(hown g' hg').2 (e▸hm)⟩
 have hplain :∀g fz a i sz l,g∈gs→st.o g=.arr fz a i sz l→aU w (E.ok st' gh w a i) (Yu sz l) (hdl sz (gh g).ad (ml sz l) (gh g).cap):=by
  intro g fz a i sz l hm ho
  have hO:=h.aJ g
  rw [ho] at hO
  cases fz with
  |true=>exact hl.iY hO
  |false=>exact dw.plain hO hl fun ad had=>UJ g _ a i hm (by rw [ho];rfl) (Gh.jk had)
 have hsub :∀g a i sz ah l hole n j sz' y v,g∈gs→st.o g=.ay a i sz ah l hole→yN E st gh w a i (gh g) sz' n j y v→aU w (E.ok st' gh w a i) y v:=by
  intro g a i sz ah l hole n j sz' y v hm ho hr
  obtain ⟨l',ao,k,rfl,rfl,hA,hs⟩:=hr
  exact aU.ofO (dw.plain hA hl fun ad had=>UJ g _ a i hm (by rw [ho];rfl) (.inr (by rw [hs ad had];rfl)))
 refine ⟨h.step hl hss hsu (fun g' => ?_) (fun g1 g2 b h1 h2=>h.inj g1 g2 b (hown g1 h1).1 (hown g2 h2).1) (fun g1 b h1=>h.wr g1 b (hown g1 h1).1)
  (fun g1 i1 b h1 h2 h3=>by
   have e:=(hown g1 (O.jK h1)).2
   rw [hso,if_neg e] at h1;exact h.wi g1 i1 b h1 h2 h3)
  (fun g1 h1 h2=>by
   have e:=(hown g1 h1).2
   rw [hso,if_neg e] at h1 h2;exact h.ns g1 h1 h2)
  (fun _ _ _=>rfl) (Nat.le_refl _) rfl rfl rfl (fun g' x hx => ?_) (fun g' hg' => ?_),hl⟩
 ·by_cases hm:g'∈gs
  ·obtain ⟨a,i,sz,l,hp,e⟩:=hin g' hm
   rw [e]
   show aU w (E.ok st' gh w a i) (Yu sz l) (hdl sz (gh g').ad (ml sz l) (gh g').cap)
   rcases uH hp with ⟨fz,ho⟩ | ⟨ah,ho⟩ | ⟨a0,i0,ah,l0,n,c,d,fz',a',i',sz',l',ho,hd,hc,hcs,rfl,rfl,rfl⟩
   ·exact hplain g' fz a i sz l hm ho
   ·have hO:=h.aJ g'
    rw [ho] at hO
    rcases hO with ⟨h1,h2,h3,_,h9⟩ | ⟨ad,ob,h1,h2,h3,h4,h6,h7,h8⟩
    ·subst h3;rw [h1,Ce h9,fD h9,fB h9];exact .nil sz none _
    ·rw [h1]
     refine .Rq h2 h3 h4 (UJ g' _ a i hm (by rw [ho];rfl) (Gh.jk h1)) h6 (fun n x hx j y hy => ?_)
     ·obtain ⟨v,hv,hr⟩:=h8 n x hx j y hy
      refine ⟨v,hv,?_⟩
      unfold gB at hr
      cases hc:ah.lookup j with
      |none=>rw [hc] at hr;exact hl.iY hr
      |some sz'=>rw [hc] at hr;simp only [fM] at hr;exact hsub g' a i sz ah l none n j sz' y v hm ho hr
   ·have hdm:d∈gs:=(hg g' hm).2 d (by rw [ho];simp [O.names,bn])
    have hO:=h.aJ g'
    rw [ho] at hO
    rcases hO with ⟨h1,h2,h3,_,h9⟩ | ⟨ad,ob,h1,h2,h3,h4,h6,h7,h8⟩
    ·subst h3;rw [h1,Ce h9,fD h9,fB h9];exact .nil sz none _
    ·rw [h1]
     have m0 :∀b,E.ok st' gh w a0 i0 b→E.ok st' gh w (a0||a') (i0||i') b:=fun b hb=>Env.kC (by simp;exact fun h=>.inl h) (by simp;exact fun h=>.inl h) hb
     have m1 :∀b,E.ok st' gh w a' i' b→E.ok st' gh w (a0||a') (i0||i') b:=fun b hb=>Env.kC (by simp;exact fun h=>.inr h) (by simp;exact fun h=>.inr h) hb
     have key :∀(n':Nat) x,(iH l0 n c (P.dX sz' l'))[n']?=some x→∀(j:Nat) y,x[j]?=some y→∃v,vM sz ad.off n' j ob=some v∧aU w (E.ok st' gh w (a0||a') (i0||i')) y v:=by
      intro n' x hx j y hy
      have hold :∀x0 y0,l0[n']?=some x0→x0[j]?=some y0→¬ (n=n'∧c=j)→∃v,vM sz ad.off n' j ob=some v∧aU w (E.ok st' gh w (a0||a') (i0||i')) y0 v:=by
       intro x0 y0 hx0 hy0 hne
       obtain ⟨v,hv,hr⟩:=h8 n' x0 hx0 j y0 hy0
       refine ⟨v,hv,?_⟩
       unfold gB at hr
       cases hcj:ah.lookup j with
       |none=>rw [hcj] at hr;exact (hl.iY hr).mono fun b hb=>⟨m0 b hb,rfl⟩
       |some sz2=>
        rw [hcj] at hr
        simp only [fM] at hr
        rw [if_neg hne] at hr
        exact (hsub g' a0 i0 sz ah l0 _ n' j sz2 y0 v hm ho hr).mono fun b hb=>⟨m0 b hb,rfl⟩
      rcases wG hx with ⟨hne,hx0⟩ | ⟨rfl,x0,hx0,rfl⟩
      ·exact hold x y hx0 hy fun e=>hne e.1.symm
      ·have hlen:=h6 x0 (List.mem_of_getElem? hx0)
       rw [L_ (by omega)] at hy
       split at hy
       ·rename_i hj
        subst hj
        cases hy
        have hlt:j<x0.length:=by omega
        obtain ⟨v,hv,hr⟩:=h8 n' x0 hx0 j x0[j] (List.getElem?_eq_getElem hlt)
        refine ⟨v,hv,?_⟩
        unfold gB at hr
        rw [hc] at hr
        simp only [fM] at hr
        rw [if_pos ⟨trivial,trivial⟩] at hr
        have hv':=(by cases hr.2 with | own _ _ _ hb=>exact hb _ _ (O.iq hd):v=hdl sz' (gh d).ad (ml sz' l') (gh d).cap)
        rw [hv']
        exact (aU.ofO (hplain d fz' a' i' sz' l' hdm hd)).mono fun b hb=>⟨m1 b hb,rfl⟩
       ·rename_i hj;exact hold x0 y hx0 hy fun e=>hj e.2.symm
     exact .Rq h2 h3 (by rw [jc];exact h4) (m0 _ (UJ g' _ a0 i0 hm (by rw [ho];rfl) (Gh.jk h1))) (Ar h6 hcs) key
  ·rw [hso,if_neg hm]
   exact hl.Ah (fun _ _ _=>rfl) (h.uo g') (h.aJ g')
 ·by_cases hm:g'∈gs
  ·obtain ⟨a,i,sz,l,_,e⟩:=hin g' hm
   rw [e] at hx;simp [O.names] at hx
  ·rw [hso,if_neg hm] at hx;exact hsu x (h.uo g' x hx)
 ·by_cases hm:g'∈gs
  ·exact hsu g' (wB.used h hg hm)
  ·rw [hso,if_neg hm] at hg';exact hsu g' (h.ul g' hg')
theorem Mc (h:Rel E st gh val w) {x:W} {v:Value} (r:dP E st gh w x v) {y:P} {a i:Bool} {gs:List Nat} (ht:x.toP st.o=some (y,a,i,gs)) :
  wB st.o gs∧∀st',(∀g∈gs,st'.o g=(Fw.aC st.o g).2)→Rel E st' gh val w→Lets E st st' gh gh w w→aU w (E.ok st' gh w a i) y v:=by
 cases r with
 |p a' i' x v hx=>
  simp only [W.toP,Option.some.injEq,Prod.mk.injEq] at ht
  obtain ⟨rfl,rfl,rfl,rfl⟩:=ht
  exact ⟨wB.nil,fun st' _ _ hl=>hl.iY hx⟩
 |bg=>
  simp only [W.toP,Option.some.injEq,Prod.mk.injEq] at ht
  obtain ⟨rfl,rfl,rfl,rfl⟩:=ht
  exact ⟨wB.nil,fun st' _ _ hl=>.nil _ _ _⟩
 |own g v hv hx=>
  simp only [W.toP] at ht
  split at ht
  ·rename_i a' i' sz l ho
   simp only [Option.some.injEq,Prod.mk.injEq] at ht
   obtain ⟨rfl,rfl,rfl,rfl⟩:=ht
   refine ⟨uI ho,fun st' hst h' hl => ?_⟩
   have hO:=h'.aJ g
   rw [hst g (by simp),lG ho] at hO
   rw [hx _ _ (GH ho)]
   exact aU.ofO hO
  ·cases ht
 |vw g lo hi v hv hx=>
  simp only [W.toP] at ht
  split at ht
  ·rename_i a' i' sz l ho
   split at ht
   rotate_left
   ·cases ht
   rename_i hlt
   simp only [Option.some.injEq,Prod.mk.injEq] at ht
   obtain ⟨rfl,rfl,rfl,rfl⟩:=ht
   refine ⟨uI ho,fun st' hst h' hl => ?_⟩
   have hO:=h'.aJ g
   rw [hst g (by simp),lG ho] at hO
   have hO:=o8 hlt hO
   obtain ⟨n,m,c,rfl,rfl,h1,h2,hc,he⟩:=hx _ _ (GH ho)
   rw [he]
   have e1:(P.int .i64 (n:Int)).nat=n:=by simp [P.nat,P.num]
   have e2:(P.int .i64 (m:Int)).nat=m:=by simp [P.nat,P.num]
   rw [e1,e2]
   rw [fB hlt] at h2
   exact aU.dX hlt ((aU.sub hO h1 h2).adv (by simp;omega))
  ·cases ht
 |_=>simp [W.toP] at ht
theorem pV (h:Rel E st gh val w) :∀{ws:List W} {cs:List Value} {ps:List P} {a i:Bool} {gs:List Nat},ws.length=cs.length→(∀(j:Nat) x u,ws[j]?=some x→cs[j]?=some u→dP E st gh w x u)→
  nV st.o ws=some (ps,a,i,gs)→ps.length=ws.length∧wB st.o gs∧∀st',(∀g∈gs,st'.o g=(Fw.aC st.o g).2)→Rel E st' gh val w→
   Lets E st st' gh gh w w→∀(j:Nat) y u,ps[j]?=some y→cs[j]?=some u→aU w (E.ok st' gh w a i) y u
 | [],cs,ps,a,i,gs,hl,hr,ht=>by
  simp only [nV,Option.some.injEq,Prod.mk.injEq] at ht
  obtain ⟨rfl,rfl,rfl,rfl⟩:=ht
  exact ⟨rfl,wB.nil,fun st' _ _ _ j y u hy=>by simp at hy⟩
 |x::ws,cs,ps,a,i,gs,hl,hr,ht=>by
  cases cs with
  |nil=>simp at hl
  |cons c cs=>
   simp only [nV] at ht
   split at ht
   ·rename_i y1 a1 i1 gs1 ys a2 i2 gs2 h1 h2
    simp only [Option.some.injEq,Prod.mk.injEq] at ht
    obtain ⟨rfl,rfl,rfl,rfl⟩:=ht
    obtain ⟨k1,k2⟩:=Mc h (hr 0 x c rfl rfl) h1
    obtain ⟨q0,q1,q2⟩:=pV h (by simpa using hl) (fun j a b ha hb=>hr (j+1) a b (by simpa using ha) (by simpa using hb)) h2
    refine ⟨by simp [q0],k1.append q1,fun st' hst h' hlet j y u hy hu => ?_⟩
    cases j with
    |zero=>
     simp at hy hu;subst hy hu
     exact (k2 st' (fun g hg=>hst g (by simp [hg])) h' hlet).mono fun b hb=>⟨Env.kC (by simp;exact fun h=>.inl h) (by simp;exact fun h=>.inl h) hb,rfl⟩
    |succ j=>
     exact (q2 st' (fun g hg=>hst g (by simp [hg])) h' hlet j y u (by simpa using hy) (by simpa using hu)).mono fun b hb=>⟨Env.kC (by simp;exact fun h=>.inr h) (by simp;exact fun h=>.inr h) hb,rfl⟩
   ·cases ht
theorem bT {α:Type} (ws:List α) (n:Nat):(dZ ws n).length=n*ws.length:=by
 induction n with
 |zero=>simp [dZ]
 |succ n ih=>simp [dZ,ih,Nat.add_mul];omega
theorem gy {α:Type} (ws:List α) :∀(n i:Nat),i<n*ws.length→(dZ ws n)[i]?=ws[i % ws.length]?
 |0,i,h=>by simp at h
 |n+1,i,h=>by
  simp only [dZ,List.getElem?_append]
  split
  ·rename_i hlt;rw [Nat.mod_eq_of_lt hlt]
  ·rename_i hge
   have hh:i-ws.length<n*ws.length:=by rw [Nat.add_mul] at h;omega
   rw [gy ws n _ hh]
   congr 1
   have:i=(i-ws.length)+ws.length:=by omega
   rw [this,Nat.add_mod_right]
   congr 1;omega
theorem lX {z:Array Value} {zs:List Value} (hz:z.toList=zs) (n:Nat) (h0:0<zs.length):(Array.range (n*zs.length)).map (fun i=>z[i % z.size]!)=(dZ zs n).toArray:=by
 apply Array.ext'
 apply List.ext_getElem?
 intro i
 have hsz:z.size=zs.length:=by rw [←hz];simp
 simp only [Array.toList_map,Array.toList_range,List.getElem?_map]
 by_cases hi:i<n*zs.length
 ·rw [List.getElem?_range hi]
  simp only [Option.map_some]
  rw [gy zs n i hi]
  have hm:i % zs.length<zs.length:=Nat.mod_lt _ h0
  rw [List.getElem?_eq_getElem hm]
  congr 1
  have hm':i % z.size<z.size:=by rw [hsz];exact hm
  rw [getElem!_pos z _ hm']
  have hzs:zs=z.toList:=hz.symm
  subst hzs
  simp only [Array.getElem_toList,Array.length_toList]
 ·rw [List.getElem?_eq_none (by simp;omega),List.getElem?_eq_none (by rw [bT];omega)]
  rfl
theorem gq {α:Type} (sz:Nat) :∀(n:Nat) (l:List α),(chunks sz n l).length=n
 |0,_=>rfl
 |n+1,l=>by simp [chunks,gq sz n]
theorem pW {α:Type} (sz:Nat) :∀(n:Nat) (l:List α) (m:Nat),m<n→(chunks sz n l)[m]?=some ((l.drop (m*sz)).take sz)
 |0,l,m,h=>by omega
 |n+1,l,0,h=>by simp [chunks]
 |n+1,l,m+1,h=>by
  simp only [chunks,List.getElem?_cons_succ]
  rw [pW sz n _ m (by omega),List.drop_drop]
  congr 3
  rw [Nat.add_mul];omega
theorem Au (h:Rel E st gh val w) (d:Nat) (hd:st.used d=false) (a i:Bool) (sz:Nat) (l:List (List P)) (c:Array Value) (t:TypeId) (cap:Nat) (hsm:sz<MB) (hcap:l.length≤cap∧cap≤9223372036854775807) (hc:cap*sz≤c.size) (hrow :∀x∈l,x.length=sz)
  (hr :∀(n:Nat) x,l[n]?=some x→∀(j:Nat) y,x[j]?=some y→∃v,c[n*sz+j]?=some v∧aU w (E.ok st gh w a i) y v) :
  ∃aQ,Rel E (st.au [(d,.arr false a i sz l)] [d]) aQ val { w with heap:=w.heap.push (.cells c t) }∧Lets E st (st.au [(d,.arr false a i sz l)] [d]) gh aQ w { w with heap:=w.heap.push (.cells c t) }∧
   aQ d=⟨some ⟨w.heap.size,0,none⟩,cap,fun _=>none⟩ ∧(st.au [(d,.arr false a i sz l)] [d]).o d=.arr false a i sz l:=by
 have hm:=Rel.make h d hd (.arr false a i sz l) c t ⟨some ⟨w.heap.size,0,none⟩,cap,fun _=>none⟩ rfl (fun _=>rfl) (fun aQ w' hlets hg hw=>by
  subst hw
  refine dw.of hsm (.inr ⟨⟨w.heap.size,0,none⟩,c,t,rfl,rfl,rZ _ _,by simpa using hc,hcap,hrow,fun n x hx j y hy => ?_⟩)
  obtain ⟨v,hv,hrp⟩:=hr n x hx j y hy
  exact ⟨v,by simpa using hv,hlets.iY hrp⟩) (fun g hg=>by simp [O.names] at hg)
 exact ⟨_,hm.1,hm.2,by simp [dH],by simp [St.au,List.lookup]⟩
theorem Lets.trans {st1 st2 st3:St} {jT wH gh3:Nat→Gh} {w1 w2 w3:World} (h1:Lets E st1 st2 jT wH w1 w2) (h2:Lets E st2 st3 wH gh3 w2 w3) (hu :∀g,st1.used g=true→st2.used g=true) :
  Lets E st1 st3 jT gh3 w1 w3:=by
 refine ⟨fun a i b hb => ?_,fun g hg => ?_⟩
 ·have k1:=h1.ok a i b hb
  have k2:=h2.ok a i b k1.1
  exact ⟨k2.1,k2.2.trans k1.2⟩
 ·rcases h2.names g (hu g hg) with k2 | ⟨e2,k2⟩
  ·exact .inl k2
  ·rcases h1.names g hg with k1 | ⟨e1,k1⟩
   ·rw [k1] at k2
    cases hz:st3.o g with
    |none=>exact .inl rfl
    |_=>rw [hz] at k2;simp [O.like] at k2
   ·exact .inr ⟨⟨e2.1.trans e1.1,e2.2.trans e1.2⟩,O.like.trans k1 k2⟩
theorem lookup_append {o:Nat→O} {gs:List Nat} {d:Nat} {x:O} (hd:d∉gs) (hn:List Nat) :
  (st.au (gs.map (Fw.aC st.o)) []).au [(d,x)] [d]=st.au (gs.map (Fw.aC st.o)++[(d,x)]) [d]:=by
 unfold St.au
 congr 1
 ·funext g
  have key:((gs.map (Fw.aC st.o))++[(d,x)]).lookup g=if g∈gs then some (Fw.aC st.o g).2 else if g=d then some x else none:=by
   clear hd
   induction gs with
   |nil=>
    by_cases e:g=d
    ·subst e;simp
    ·have:(g==d)=false:=by simpa using e
     simp [List.lookup,this,e]
   |cons y gs ih=>
    simp only [List.map_cons,List.cons_append]
    by_cases e:g=y
    ·subst e
     have:(Fw.aC st.o g)=(g,(Fw.aC st.o g).2):=rfl
     rw [this,List.lookup];simp
    ·have hne:(g==y)=false:=by simpa using e
     have:(Fw.aC st.o y)=(y,(Fw.aC st.o y).2):=rfl
     rw [this,List.lookup,hne]
     simp only [ih,List.mem_cons,e,false_or]
  rw [key]
  by_cases e:g=d
  ·subst e
   simp [List.lookup,hd]
  ·have hne:(g==d)=false:=by simpa using e
   have hl:[(d,x)].lookup g=none:=by simp [List.lookup,hne]
   rw [hl]
   show (match (gs.map (Fw.aC st.o)).lookup g with | some x=>x | none=>st.o g)=_
   rw [kM]
   by_cases hm:g∈gs
   ·simp [hm]
   ·simp [hm,e]
theorem CG (htt:fF Pg tt) (t:TypeId) (n:Nat) (parts:Array (Nat×Operand)):dD Pg tt (.buildSlice t n parts):=by
 intro E st gh val w ρ F o d r ho h hF hFn hk hp hd
 simp only [kernel] at hk
 split at hk
 ·rename_i e _ _ _ ht
  split at hk
  ·rename_i ie he
   split at hk
   ·rename_i ws J8
    split at hk
    ·rename_i ps a i gs hps
     split at hk
     ·rename_i hcap0
      have hcap:n*ie.size≤16777216:=by omega
      simp only [Option.some.injEq] at hk;subst hk
      have hu:=(htt _ _ ht).kind
      simp only [lT] at hu
      obtain ⟨z,hz,hzc,_⟩:=iZ (Pg:=Pg) (w:=w) (htt _ _ he)
      obtain ⟨hone,hl,hr⟩:=nY (E:=E) (st:=st) (gh:=gh) (w:=w) (htt _ _ he)
      have hzl:=(htt _ _ he).len
      have hparts:(parts.map fun (p:Nat×Operand)=>(p.1,ρ p.2)).toList=parts.toList.map fun p=>(p.1,ρ p.2):=by simp
      obtain ⟨cs',h1,h2,h3,h4,h5⟩:=Aq (E:=E) (st:=st) (gh:=gh) (w:=w) (place':=fun i=>some (i*ie.size,ie.size)) (fun m p hpm=>by split at hpm;exact hpm;cases hpm) _ (parts.toList.map fun p=>(p.1,ρ p.2)) _ _
       (dZ ie.zero n) (by simp) (fun j x v hx hv=>CB hF _ j x v hx hv) (by rw [bT,bT,hl]) (fun c hc=>by
        obtain ⟨j,hj⟩:=List.mem_iff_getElem?.1 hc
        have hlt:j<n*ie.zero.length:=by have:=(List.getElem?_eq_some_iff.1 hj).1;rwa [bT] at this
        rw [gy _ _ _ hlt] at hj
        exact hone c (List.mem_of_getElem? hj)) (fun j x u hx hu=>by
        have hlt:j<n*ie.zero.length:=by have:=(List.getElem?_eq_some_iff.1 hu).1;rwa [bT] at this
        rw [gy _ _ _ hlt] at hu
        rw [gy _ _ _ (by rw [hl];exact hlt),hl] at hx
        exact hr _ _ _ hx hu) J8
      obtain ⟨q0,q1,q2⟩:=pV h h2 h4 hps
      obtain ⟨f1,f2⟩:=Rel.freezes gs h q1
      have hreads:=q2 _ (fun g hg=>by rw [dS,if_pos hg]) f1 f2
      have D5:st.used d=false:=hd d (by simp)
      have hdg:d∉gs:=fun hm=>by
       rw [wB.used h q1 hm] at D5;cases D5
      have hws:ws.length=n*ie.size:=by rw [h5,bT,hl,hzl]
      have aeo:ps.length=n*ie.size:=by rw [q0,hws]
      obtain ⟨aQ,m1,m2,m3,m4⟩:=Au f1 d (by simpa [St.au] using D5) a i ie.size (chunks ie.size n ps) cs'.toArray e n (htt _ _ he).small ⟨by rw [gq];exact Nat.le_refl _,by omega⟩ (by simp;omega) (fun x hx=>by
        obtain ⟨m,hm⟩:=List.mem_iff_getElem?.1 hx
        have hlt:m<n:=by have:=(List.getElem?_eq_some_iff.1 hm).1;rwa [gq] at this
        rw [pW _ _ _ _ hlt] at hm
        simp only [Option.some.injEq] at hm;subst hm
        simp [aeo]
        have:(m+1)*ie.size≤n*ie.size:=Nat.mul_le_mul_right _ hlt
        rw [Nat.add_mul] at this;omega) (fun m x hx j y hy=>by
        have hlt:m<n:=by have:=(List.getElem?_eq_some_iff.1 hx).1;rwa [gq] at this
        rw [pW _ _ _ _ hlt] at hx
        simp only [Option.some.injEq] at hx;subst hx
        rw [List.getElem?_take] at hy
        split at hy
        ·rename_i hj
         rw [List.getElem?_drop] at hy
         have hlt2:m*ie.size+j<cs'.length:=by
          have:=(List.getElem?_eq_some_iff.1 hy).1;omega
         exact ⟨cs'[m*ie.size+j],by simp,hreads _ _ _ hy (List.getElem?_eq_getElem hlt2)⟩
        ·cases hy)
      rw [lookup_append (o:=st.o) hdg []] at m1 m2 m4
      refine ⟨.slice (some ⟨w.heap.size,0,none⟩) n n,_,aQ,.inl ?_,m1,Lets.trans f2 m2 (fun g hg=>by simpa [St.au] using hg),bD.E_ (.own d _ rfl fun sz' len' ho' => ?_),fun g hg => ?_⟩
      ·unfold execOp;rw [ho]
       refine eG ?_
       have hle:¬ n*ie.size>2 ^ 24:=by omega
       have fin :∀Z:Array Value,(Array.range (n*ie.size)).map (fun i=>Z[i % Z.size]!)=(dZ ie.zero n).toArray→
         Instr.fill (fun i=>some (i*ie.size,ie.size)) ((Array.range (n*ie.size)).map fun i=>Z[i % Z.size]!) (parts.map fun (p:Nat×Operand)=>(p.1,ρ p.2)).toList=some cs'.toArray:=by
        intro Z hZ;rw [hZ,hparts,h1]
       by_cases h0:n*ie.size=0
       ·have e0:dZ ie.zero n=[]:=List.eq_nil_of_length_eq_zero (by rw [bT,hzl,h0])
        have e1:=fin #[] (by rw [h0,e0];simp)
        simp only [Instr.buildSlice,Sem.run_bind,bP hu,Result.andThen_ok,bM (htt _ _ he),if_neg hle,if_pos h0,Sem.run_pure]
        simp only [e1]
        simp [newRow]
       ·have hpos:0<ie.zero.length:=by rw [hzl];rcases Nat.eq_zero_or_pos ie.size with h | h;(rw [h] at h0;simp at h0);exact h
        have e1:=fin z.cells (by have:=lX hzc n hpos;rw [hzl] at this;exact this)
        simp only [Instr.buildSlice,Sem.run_bind,bP hu,Result.andThen_ok,bM (htt _ _ he),if_neg hle,if_neg h0,hz,Sem.run_pure]
        simp only [e1]
        simp [newRow]
      ·have Me:(O.arr false a i ie.size (chunks ie.size n ps)).dim=some (sz',len'):=(congrArg O.dim m4.symm).trans ho'
       obtain ⟨rfl,rfl⟩:=O.iG Me
       rw [m3,fB (htt _ _ he).small,fD (htt _ _ he).small,gq]
      ·have hg:g∈(S.v (.one (.own d))).names:=hg
       rw [bU] at hg
       simp only [W.names,List.mem_singleton] at hg
       subst hg;simp [St.au]
     ·cases hk
    ·cases hk
   ·cases hk
  ·cases hk
 ·cases hk
end
end Go.Fw

namespace Go.Fw
set_option linter.unusedSectionVars false
variable [dA]
set_option linter.unusedVariables false
section
variable {E:Env} {st st':St} {gh aQ:Nat→Gh} {w w':World} {val:Nat→Value} {Pg:Program} {tt:TT}
theorem Fe (htt:fF Pg tt) (t:TypeId) (n c:Operand):dD Pg tt (.makeSlice t n c):=by
 intro E st gh val w ρ F o d r ho h hF hFn hk hp hd
 simp only [kernel] at hk
 split at hk
 ·rename_i e _ _ _ _ _ n' _ _ c' ht hn hc
  split at hk
  ·rename_i ie he
   split at hk
   ·rename_i ps hps
    split at hk
    ·rename_i hpos
     simp only [Option.some.injEq] at hk;subst hk
     obtain ⟨m,k,rfl,rfl,hmk,hby,hkm⟩:=hp
     have hu:=(htt _ _ ht).kind
     simp only [lT] at hu
     have rn:=hF n;rw [hn] at rn
     have rc:=hF c;rw [hc] at rc
     obtain ⟨x,z,g1,g2,g3,g4,g5,g6⟩:=(htt _ _ he).info
     obtain ⟨hone,hl,hr⟩:=nY (E:=E) (st:=st) (gh:=gh) (w:=w) (htt _ _ he)
     have hzl:=(htt _ _ he).len
     obtain ⟨q0,q1,q2⟩:=pV h hl hr hps
     have hreads:=q2 st (by simp) h ⟨fun a i b hb=>⟨hb,rfl⟩,fun g _=>.inr ⟨⟨rfl,rfl⟩,O.dM _⟩⟩
     have D5:st.used d=false:=hd d (by simp)
     have hpl:ps.length=ie.size:=by rw [q0,hl,hzl]
     have e1:(P.int .i64 (m:Int)).nat=m:=by simp [P.nat,P.num]
     obtain ⟨aQ,m1,m2,m3,m4⟩:=Au h d D5 false false ie.size (List.replicate m ps) (dZ ie.zero k).toArray e k (htt _ _ he).small ⟨by simpa using hmk,by omega⟩ (by simp [bT,hzl]) (fun x hx=>by
       rw [List.mem_replicate] at hx;rw [hx.2,hpl]) (fun q x hx j y hy=>by
       rw [List.getElem?_replicate] at hx
       split at hx
       ·rename_i hq
        simp only [Option.some.injEq] at hx;subst hx
        have hj:j<ie.size:=by have:=(List.getElem?_eq_some_iff.1 hy).1;omega
        have hlt:q*ie.size+j<k*ie.zero.length:=by
         rw [hzl]
         have:(q+1)*ie.size≤k*ie.size:=Nat.mul_le_mul_right _ (by omega)
         rw [Nat.add_mul] at this;omega
        have hz':ie.zero[j]?=some ie.zero[j]:=List.getElem?_eq_getElem (by omega)
        refine ⟨ie.zero[j],?_,hreads j y _ hy hz'⟩
        simp only [List.getElem?_toArray]
        have hmod:(q*ie.size+j) % ie.zero.length=j:=by rw [hzl,Nat.mul_comm,Nat.mul_add_mod,Nat.mod_eq_of_lt hj]
        rw [gy _ _ _ hlt,hmod]
        exact hz'
       ·cases hx)
     refine ⟨.slice (some ⟨w.heap.size,0,none⟩) m k,_,aQ,.inl ?_,by simpa [e1,P.list] using m1,by simpa [e1,P.list] using m2,bD.E_ (.own d _ rfl fun sz' len' ho' => ?_),fun g hg => ?_⟩
     ·unfold execOp;rw [ho]
      refine eG ?_
      have hrun:=run_make (P:=Pg) w t e x z hu g1 g4 .i64 .i64 (m:Int) (k:Int) (by omega) (by omega) (by rw [g3];omega) (by omega)
      rw [rn.dF.cZ,rc.dF.cZ,hrun]
      have:=lX g5 k (by rw [hzl];exact hpos)
      rw [hzl] at this
      simp only [Int.toNat_natCast,g2,madeCells,this]
     ·rw [e1] at ho'
      have Me:(O.arr false false false ie.size (List.replicate m ps)).dim=some (sz',len'):=(congrArg O.dim m4.symm).trans ho'
      obtain ⟨rfl,rfl⟩:=O.iG Me
      rw [m3,fB (htt _ _ he).small,fD (htt _ _ he).small,List.length_replicate]
     ·have hg:g∈(S.v (.one (.own d))).names:=hg
      rw [bU] at hg
      simp only [W.names,List.mem_singleton] at hg
      subst hg;simp [St.au]
    ·cases hk
   ·cases hk
  ·cases hk
 ·cases hk
theorem iE (b o:Nat) (e:TypeId) :∀(vs:List Value) (i:Nat) (w:World) (c:Array Value),w.heap[b]?=some (.cells c e (0,0))→(∀v∈vs,v.oneCell'=true)→o+i+vs.length≤c.size→
  ∃w' c',(storeCells ⟨b,o,none⟩ vs i).run Pg w=.ok () w'∧w'.heap[b]?=some (.cells c' e (0,0))∧c'.toList=aA c.toList (o+i) vs∧(∀b',b'≠b→w'.heap[b']?=w.heap[b']?)∧w'.heap.size=w.heap.size∧
   w'.os=w.os∧w'.tape=w.tape∧w'.output=w.output
 | [],i,w,c,hb,_,_=>⟨w,c,rfl,hb,by simp [aA],fun _ _=>rfl,rfl,rfl,rfl,rfl⟩
 |v::vs,i,w,c,hb,hone,hlt=>by
  have hci:o+i<c.size:=by simp at hlt;omega
  have hcell:w.cell? ⟨b,o+i,none⟩=some c[o+i]:=by simp [World.cell?,hb,hci]
  have hfr:w.frozen? ⟨b,o+i,none⟩=false:=by simp [World.frozen?,hb]
  have hst':(store ((⟨b,o,none⟩:Addr).add i) v).run Pg w=.ok () (w.setCell ⟨b,o+i,none⟩ v):=by
   rw [Addr.fK,run_store Pg w _ v .plain (hone v (by simp)),hcell]
   simp [hfr]
  have hb':(w.setCell ⟨b,o+i,none⟩ v).heap[b]?=some (.cells (c.setIfInBounds (o+i) v) e (0,0)):=by
   simp [World.setCell,Array.getElem?_modify,hb]
  obtain ⟨w',c',h1,h2,h3,h4,h5,h6,h7,h8⟩:=iE b o e vs (i+1) (w.setCell ⟨b,o+i,none⟩ v) _ hb' (fun v hv=>hone v (by simp [hv])) (by simp at hlt ⊢;omega)
  refine ⟨w',c',?_,h2,?_,fun b' hne=>(h4 b' hne).trans ?_,by rw [h5];simp [World.setCell],h6,h7,h8⟩
  ·unfold storeCells
   rw [Sem.run_bind]
   rw [hst']
   exact h1
  ·rw [h3]
   have:=foldl_set o (v::vs) i c (by simp at hlt ⊢;omega)
   have h2':=foldl_set o vs (i+1) (c.setIfInBounds (o+i) v) (by simp at hlt ⊢;omega)
   rw [←this]
   simp only [List.zipIdx_cons,List.foldl_cons]
   rw [h2']
  ·simp only [World.setCell,Array.getElem?_modify]
   rw [if_neg (fun e=>hne e.symm)]
theorem r_ {t:TypeId} {i:TI} (h:lW Pg t i) (b o:Nat) {v:Value} {cs:List Value} (hv:v.cells=cs.toArray) (hl:cs.length=i.size) (hone :∀c∈cs,c.oneCell'=true) {c:Array Value} {e:TypeId}
  (hb:w.heap[b]?=some (.cells c e (0,0))) (hlt:o+i.size≤c.size) :
  ∃w' c',(storeVar t ⟨b,o,none⟩ v).run Pg w=.ok () w'∧w'.heap[b]?=some (.cells c' e (0,0))∧c'.toList=aA c.toList o cs∧(∀b',b'≠b→w'.heap[b']?=w.heap[b']?)∧w'.heap.size=w.heap.size∧
   w'.os=w.os∧w'.tape=w.tape∧w'.output=w.output:=by
 obtain ⟨w',c',h1,h2,h3,h4⟩:=iE (Pg:=Pg) b o e cs 0 w c hb hone (by omega)
 refine ⟨w',c',?_,h2,h3,h4⟩
 have hne:¬ v.cells.size≠i.size:=by rw [hv];simp [hl]
 unfold storeVar
 simp only [Sem.run_bind,bM h,Result.andThen_ok,if_neg hne]
 rw [hv]
 exact h1
theorem yM.block {ws:List W} {G:Gh} (h:yM E st gh w ws G) {ad:Addr} (had:G.ad=some ad):ad.spot=none∧∃c e,w.heap[ad.block]?=some (.cells c e (0,0))∧ad.off+ws.length≤c.size∧
  ∀(j:Nat) x,ws[j]?=some x→∃v,c[ad.off+j]?=some v∧v.oneCell'=true∧dP E st gh w x v:=by
 obtain ⟨ad',c,e,h1,h2,h3,h4,h5⟩:=h
 rw [had] at h1;cases h1
 exact ⟨h2,c,e,h3,h4,h5⟩
theorem RD {F:Operand→S} (hFn :∀x,∀g∈(F x).names,st.used g=true) {y:Operand} {y':V} (hy:F y=.v y') :∀x∈y'.words,∀g∈x.names,st.used g=true:=by
 intro x hx g hg
 have:=hFn y g;rw [hy] at this
 refine this ?_
 cases y' with
 |one z=>simp [V.words] at hx;subst hx;simpa [S.names,V.names] using hg
 |agg xs=>simp only [S.names,V.names,List.mem_flatMap];exact ⟨x,hx,hg⟩
theorem MC {α:Type} {l new:List α} {off:Nat} {x:α} (h:x∈aA l off new):x∈l∨x∈new:=by
 unfold aA at h
 simp only [List.mem_append] at h
 rcases h with (h | h) | h
 ·exact .inl (List.mem_of_mem_take h)
 ·exact .inr h
 ·exact .inl (List.mem_of_mem_drop h)
theorem wI {o:Nat→O} {gs:List Nat} {d:Nat} {x:O} (hd:d∉gs) :
  (st.au (gs.map (Fw.aC st.o)) []).au [(d,x)] []=st.au (gs.map (Fw.aC st.o)++[(d,x)]) []:=by
 have:=lookup_append (st:=st) (o:=o) (x:=x) hd []
 have ho:=congrArg St.o this
 unfold St.au at ho ⊢
 simp only at ho ⊢
 rw [ho]
 simp
theorem OQ (htt:fF Pg tt) (t:TypeId) (x y:Operand):dD Pg tt (.store t x y):=by
 intro E st gh val w ρ F o d r ho h hF hFn hk hp hd
 simp only [kernel] at hk
 split at hk
 ·rename_i i g off y' ht hx hy
  have rx:=hF x;rw [hx] at rx
  have ry:=hF y;rw [hy] at ry
  split at hk
  ·rename_i ws hog
   split at hk
   ·rename_i hc
    simp only [Option.some.injEq] at hk;subst hk
    have hO:yM E st gh w ws (gh g):=by have:=h.aJ g;rw [hog] at this;exact this
    obtain ⟨ad,had,hv⟩:=(by cases rx.bC with | box _ _ _ _ hb=>exact hb ws hog :∃ad,(gh g).ad=some ad∧ρ x=.pointer (some ⟨ad.block,ad.off+off,none⟩))
    obtain ⟨hs,c,e,hb,hlt,hcells⟩:=hO.block had
    obtain ⟨us,hus,L9,huo,hur⟩:=ry.Gz.cells hc.2.2
    have RF:us.length=i.size:=by rw [L9,hc.2.1]
    obtain ⟨w',c',h1,h2,h3,h4,h5,h6,h7,h8⟩:=r_ (Pg:=Pg) (htt _ _ ht) ad.block (ad.off+off) hus RF huo hb (by omega)
    have hyu:=RD hFn hy
    have sW:c'.size=c.size:=by
     have:=congrArg List.length h3
     rw [bK (by simp;omega)] at this;simpa using this
    have hm:=Rel.write h g ad (by rw [hog];rfl) had (.box (aA ws off y'.words)) (by rw [hog];trivial) w' h4 h5 h6 h7 h8 rfl (fun i e=>by cases e) (fun _=>by rw [hog];rfl) (fun hlets=>by
     refine ⟨ad,c',e,had,hs,h2,by rw [bK (by omega),sW];exact hlt,fun j z hz => ?_⟩
     rw [cu (by omega)] at hz
     have hget:c'[ad.off+j]?=(aA c.toList (ad.off+off) us)[ad.off+j]?:=by rw [←h3];simp
     rw [cu (by simp;omega)] at hget
     split at hz
     ·rename_i hin
      rw [if_pos (by omega)] at hget
      have hj':j-off<us.length:=by omega
      have e1:ad.off+j-(ad.off+off)=j-off:=by omega
      rw [e1,List.getElem?_eq_getElem hj'] at hget
      exact ⟨_,hget,huo _ (List.getElem_mem hj'),hlets.y9 (hyu z (List.mem_of_getElem? hz)) (hur _ _ _ hz (List.getElem?_eq_getElem hj'))⟩
     ·rename_i hin
      rw [if_neg (by omega)] at hget
      obtain ⟨v,hv,hvo,WM⟩:=hcells j z hz
      refine ⟨v,by rw [hget];simpa using hv,hvo,hlets.y9 (fun g' hg'=>h.uo g g' ?_) WM⟩
      rw [hog];simp only [O.names,List.mem_flatMap];exact ⟨z,List.mem_of_getElem? hz,hg'⟩) (fun g' hg'=>by
     simp only [O.names,List.mem_flatMap] at hg'
     obtain ⟨z,hz,hg'⟩:=hg'
     rcases MC hz with hz | hz
     ·exact h.uo g g' (by rw [hog];simp only [O.names,List.mem_flatMap];exact ⟨z,hz,hg'⟩)
     ·exact hyu z hz g' hg')
    refine ⟨undef,w',gh,.inr ⟨?_,rfl⟩,hm.1,hm.2,.no _,fun g hg=>by simp [S.names] at hg⟩
    unfold execOp;rw [ho]
    refine UF ?_
    rw [hv]
    simpa [Instr.storeAt,Instr.sureAddr] using h1
   ·cases hk
  ·cases hk
 ·rename_i i g n off y' ht hx hy
  have rx:=hF x;rw [hx] at rx
  have ry:=hF y;rw [hy] at ry
  split at hk
  ·rename_i a i' sz l ps a' i'' gs hog hps
   split at hk
   ·rename_i hc
    obtain ⟨hc1,hc2,hc3,hc4,hc5⟩:=hc
    simp only [Option.some.injEq] at hk;subst hk
    have hg:g∉gs:=fun hm=>by simp [hm] at hc5
    obtain ⟨us,hus,L9,huo,hur⟩:=ry.Gz.cells hc4
    have RF:us.length=i.size:=by rw [L9,hc3]
    obtain ⟨q0,q1,q2⟩:=pV h L9.symm hur hps
    obtain ⟨f1,f2⟩:=Rel.freezes gs h q1
    have hreads:=q2 _ (fun g hg=>by rw [dS,if_pos hg]) f1 f2
    have GI:(st.au (gs.map (Fw.aC st.o)) []).o g=.arr false a i' sz l:=by rw [dS,if_neg hg];exact hog
    obtain ⟨ad,k,had,hn,hk,hv⟩:=(by cases rx.bC with | ep _ _ _ _ _ hb=>exact hb _ _ (O.iq hog) :∃(ad:Addr) (k:Nat),(gh g).ad=some ad∧n=.int .i64 k∧k<ml sz l∧ρ x=.pointer (some ⟨ad.block,ad.off+k*sz+off,none⟩))
    obtain ⟨hsm,hk⟩:=Gx hk
    have hO:dw E (st.au (gs.map (Fw.aC st.o)) []) gh w a i' sz l (gh g):=by have:=f1.aJ g;rw [GI] at this;exact this
    rcases dw.old hsm hO with ⟨z1,z2,z3⟩ | ⟨ad',c,e,z1,hs,hb,hlt,hcap,hrow,hcells⟩
    ·subst z3;simp at hk
    rw [had] at z1;cases z1
    have en:n.nat=k:=by rw [hn];simp [P.nat,P.num]
    have hlk:l[k]?=some l[k]:=List.getElem?_eq_getElem hk
    have adw:l.getD n.nat []=l[k]:=by rw [en,List.getD_eq_getElem?_getD,hlk];rfl
    have hrl:l[k].length=sz:=hrow _ (List.getElem_mem hk)
    have hle:(k+1)*sz≤(gh g).cap*sz:=Nat.mul_le_mul_right _ (by have:=hcap.1;omega)
    rw [Nat.add_mul,Nat.one_mul] at hle
    obtain ⟨w',c',h1,h2,h3,h4,h5,h6,h7,h8⟩:=r_ (Pg:=Pg) (htt _ _ ht) ad.block (ad.off+k*sz+off) hus RF huo hb (by omega)
    have sW:c'.size=c.size:=by
     have:=congrArg List.length h3
     rw [bK (by simp;omega)] at this;simpa using this
    have hm:=Rel.write f1 g ad (by rw [GI];rfl) had (.arr false (a||a') (i'||i'') sz (l.set k (aA l[k] off ps))) (by rw [GI];exact ⟨rfl,by simp [ml]⟩) w' h4 h5 h6 h7 h8 rfl (fun i1 e1=>by cases e1;exact ⟨i',by rw [GI];rfl,fun hi=>by simp [hi]⟩) (fun _=>by rw [GI];rfl) (fun hlets=>by
     refine dw.of hsm (.inr ⟨ad,c',e,had,hs,h2,by rw [sW];exact hlt,by simpa using hcap,fun z hz => ?_,fun m z hz j yy hyy => ?_⟩)
     ·obtain ⟨m,hm⟩:=List.mem_iff_getElem?.1 hz
      rw [List.getElem?_set] at hm
      split at hm
      ·simp only [Option.some.injEq] at hm;subst hm
       rw [bK (by rw [hrl];omega),hrl]
      ·exact hrow z (List.mem_of_getElem? hm)
     ·have hget:c'[ad.off+m*sz+j]?=(aA c.toList (ad.off+k*sz+off) us)[ad.off+m*sz+j]?:=by rw [←h3];simp
      rw [cu (by simp;omega)] at hget
      rw [List.getElem?_set] at hz
      split at hz
      ·rename_i hkm
       subst hkm
       simp only [Option.some.injEq] at hz;subst hz
       rw [cu (by rw [hrl];omega)] at hyy
       split at hyy
       ·rename_i hin
        have hj':j-off<us.length:=by omega
        rw [if_pos (by omega)] at hget
        have e1:ad.off+k*sz+j-(ad.off+k*sz+off)=j-off:=by omega
        rw [e1,List.getElem?_eq_getElem hj'] at hget
        refine ⟨_,hget,(hlets.iY (hreads _ _ _ hyy (List.getElem?_eq_getElem hj'))).mono fun b hb=>⟨Env.kC (by simp;exact fun h=>.inr h) (by simp;exact fun h=>.inr h) hb,rfl⟩⟩
       ·rename_i hin
        have hjs:j<sz:=by have:=(List.getElem?_eq_some_iff.1 hyy).1;omega
        rw [if_neg (by omega)] at hget
        obtain ⟨v,hv,WM⟩:=hcells k _ hlk j yy hyy
        refine ⟨v,by rw [hget];simpa using hv,(hlets.iY WM).mono fun b hb=>⟨Env.kC (by simp;exact fun h=>.inl h) (by simp;exact fun h=>.inl h) hb,rfl⟩⟩
      ·rename_i hkm
       have hjs:j<sz:=by have:=(List.getElem?_eq_some_iff.1 hyy).1;have:=hrow z (List.mem_of_getElem? hz);omega
       have hout:¬ (ad.off+k*sz+off≤ad.off+m*sz+j∧ad.off+m*sz+j<ad.off+k*sz+off+us.length):=by
        rcases Nat.lt_or_gt_of_ne hkm with hlt' | hgt
        ·have:(k+1)*sz≤m*sz:=Nat.mul_le_mul_right _ hlt'
         rw [Nat.add_mul,Nat.one_mul] at this;omega
        ·have:(m+1)*sz≤k*sz:=Nat.mul_le_mul_right _ hgt
         rw [Nat.add_mul,Nat.one_mul] at this;omega
       rw [if_neg hout] at hget
       obtain ⟨v,hv,WM⟩:=hcells m z hz j yy hyy
       refine ⟨v,by rw [hget];simpa using hv,(hlets.iY WM).mono fun b hb=>⟨Env.kC (by simp;exact fun h=>.inl h) (by simp;exact fun h=>.inl h) hb,rfl⟩⟩) (fun g' hg'=>by simp [O.names] at hg')
    rw [wI (o:=st.o) hg] at hm
    refine ⟨undef,w',gh,.inr ⟨?_,rfl⟩,by rw [adw,en];exact hm.1,by rw [adw,en];exact Lets.trans f2 hm.2 (fun g hg=>by simpa [St.au] using hg),.no _,fun g hg=>by simp [S.names] at hg⟩
    unfold execOp;rw [ho]
    refine UF ?_
    rw [hv]
    simpa [Instr.storeAt,Instr.sureAddr] using h1
   ·cases hk
  ·cases hk
 ·cases hk
end
end Go.Fw

namespace Go.Fw
set_option linter.unusedSectionVars false
variable [dA]
set_option linter.unusedVariables false
section
variable {E:Env} {st st':St} {gh aQ:Nat→Gh} {w w':World} {val:Nat→Value} {Pg:Program} {tt:TT}
theorem zo {t:TypeId} {i:TI} (h:lW Pg t i):MB≤nX i∧rw (nX i)=i.size+1∧decide (2*MB≤nX i)=i.agg:=by
 have hs:=h.sm
 unfold nX rw
 have e:MB=1000000:=rfl
 cases i.agg
 ·simp only [Bool.false_eq_true,if_false]
  refine ⟨by omega,?_,decide_eq_false (by omega)⟩
  rw [if_neg (by omega),show MB+(1+i.size)=(i.size+1)+MB by omega,Nat.add_mod_right,Nat.mod_eq_of_lt (by omega)]
 ·simp only [if_true]
  refine ⟨by omega,?_,decide_eq_true (by omega)⟩
  rw [if_neg (by omega),show 2*MB+(1+i.size)=(i.size+1)+MB+MB by omega,Nat.add_mod_right,Nat.add_mod_right,Nat.mod_eq_of_lt (by omega)]
def wJ (w:World) (ok:Nat→Prop) (sz:Nat) (l:List (List P)) (es:Array MapEntry):Prop:=
 Gp sz l.length es∧(∀x∈l,x.length=rw sz)∧∀(n:Nat) x,l[n]?=some x→∀(j:Nat) y,x[j]?=some y→∃v,Jy es n j=some v∧aU w ok y v
theorem wJ.mono {ok ok':Nat→Prop} {sz:Nat} {l:List (List P)} {es:Array MapEntry} (hm :∀y v,aU w ok y v→aU w' ok' y v) (h:wJ w ok sz l es):wJ w' ok' sz l es:=
 ⟨h.1,h.2.1,fun n x hx j y hy=>let ⟨v,hv,hr⟩:=h.2.2 n x hx j y hy;⟨v,hv,hm y v hr⟩⟩
theorem OT {a i:Bool} {sz:Nat} {l:List (List P)} {G:Gh} (hge:MB≤sz) (h:dw E st gh w a i sz l G) :∃ad es ck,G.ad=some ad∧ad.spot=none∧w.heap[ad.block]?=some (.map es ck)∧wJ w (E.ok st gh w a i) sz l es:=by
 rcases h with ⟨_,_,_,h4⟩ | ⟨ad,ob,h1,h2,h3,h4,h5,h6⟩
 ·exact absurd h4 (Nat.not_lt.2 hge)
 ·obtain ⟨es,ck,rfl,he⟩:=h4.ge hge
  exact ⟨ad,es,ck,h1,h2,h3,he,h5,h6⟩
theorem UK {ok:Nat→Prop} {sz:Nat} {l:List (List P)} {v:Value} (h:aU w ok (.mp sz l) v) :∃r es ck,v=.map (some r)∧w.heap[r]?=some (.map es ck)∧wJ w ok sz l es:=by
 cases h with
 |mp _ _ r es ck f hok hb he hlen hc hr=>exact ⟨r,es,ck,rfl,hb,he,hlen,fun n x hx j y hy=>⟨_,hc n x hx j y hy,hr n x hx j y hy⟩⟩
theorem YC (h:Rel E st gh val w) {x:W} {v:Value} (r:dP E st gh w x v) {sz:Nat} (hge:MB≤sz) {ask:Prop} {l:List (List P)} {a i:Bool} (hx:x.ents st.o sz=some (ask,l,a,i)) (ha:ask) :
  ∃b es ck,v=.map (some b)∧w.heap[b]?=some (.map es ck)∧wJ w (E.ok st gh w a i) sz l es:=by
 cases r with
 |p a' i' x v hp=>
  simp only [W.ents,Option.some.injEq,Prod.mk.injEq] at hx
  obtain ⟨rfl,rfl,rfl,rfl⟩:=hx
  cases x with
  |mp sz' l'=>obtain rfl:sz'=sz:=ha;exact UK hp
  |_=>exact ha.elim
 |own g v hv ho=>
  simp only [W.ents] at hx
  split at hx
  ·rename_i fz a' i' sz' l' hog
   split at hx
   ·rename_i hsz
    subst hsz
    simp only [Option.some.injEq,Prod.mk.injEq] at hx
    obtain ⟨rfl,rfl,rfl,rfl⟩:=hx
    have hO:=h.aJ g;rw [hog] at hO
    have hv:=ho _ _ (O.iq hog)
    rw [Gq hge] at hv
    cases fz with
    |false=>
     obtain ⟨ad,es,ck,h1,h2,h3,h4⟩:=OT hge hO
     exact ⟨ad.block,es,ck,by rw [hv,h1];rfl,h3,h4⟩
    |true=>
     have hO:aU w (E.ok st gh w a' i') (Yu sz' l') (hdl sz' (gh g).ad (ml sz' l') (gh g).cap):=hO
     rw [Ro hge,Gq hge] at hO
     obtain ⟨r,es,ck,h1,h2,h3⟩:=UK hO
     exact ⟨r,es,ck,hv.trans h1,h2,h3⟩
   ·cases hx
  ·cases hx
 |_=>simp [W.ents] at hx
def TK.desc:TK→TypeDesc
 |.int k=>.int k
 |.bool=>.bool
 |_=>.string
theorem OU {t:TypeId} {i:TI} (h:lW Pg t i) (hf:i.k.flat=true):Pg.underlying t=some i.k.desc:=by
 have hk:=h.kind
 revert hk hf
 cases i.k<;>intro hf hk<;>first | exact hk | cases hf
theorem OV {ok:Nat→Prop} {k:TK} {x:P} {v:Value} (hr:aU w ok x v) (hk:x.isKey k):MapKept.IsKey k.desc v:=by
 cases k<;>cases x<;>simp only [P.isKey] at hk<;>first | exact hk.elim | skip
 ·obtain rfl:=hr.cZ;exact hk.symm
 ·obtain rfl:=hr.iI;trivial
 ·obtain rfl:=hr.kX;trivial
theorem GK {ok ok':Nat→Prop} {k:TK} {x y:P} {u v:Value} (hx:aU w ok x u) (hy:aU w ok' y v) (kx:x.isKey k) (ky:y.isKey k):Instr.sameNow k.desc u v=some (P.Yi x y)∧(P.Yi x y=true→u=v):=by
 cases k<;>cases x<;>cases y<;>simp only [P.isKey] at kx ky<;>first | exact kx.elim | exact ky.elim | skip
 ·obtain rfl:=hx.cZ;obtain rfl:=hy.cZ;subst kx;subst ky
  exact ⟨by simp [Instr.sameNow,TK.desc,P.Yi],fun h=>by have:=eq_of_beq h;rw [this]⟩
 ·obtain rfl:=hx.iI;obtain rfl:=hy.iI
  exact ⟨rfl,fun h=>by have:=eq_of_beq h;rw [this]⟩
 ·obtain rfl:=hx.kX;obtain rfl:=hy.kX
  exact ⟨rfl,fun h=>by have:=(MapKept.bytes_beq _ _).1 h;rw [this]⟩
def jd (kp:P):List (List P)→Option Nat
 | []=>none
 |r::l=>match uz kp r with
  |true=>some 0
  |false=>(jd kp l).map (· + 1)
theorem GL {kp:P} {ps:List P} :∀{l:List (List P)},qN kp ps l=(match jd kp l with
  |some j=>(l.getD j []).drop 1
  |none=>ps)∧pR kp l=(jd kp l).isSome∧wC kp ps l=(match jd kp l with
  |some j=>l.set j (kp::ps)
  |none=>l++[kp::ps])∧∀j,jd kp l=some j→j<l.length∧uz kp (l.getD j [])=true
 | []=>⟨rfl,rfl,rfl,fun j h=>by cases h⟩
 |r::l=>by
  obtain ⟨h1,h2,h3,h4⟩:=GL (kp:=kp) (ps:=ps) (l:=l)
  unfold qN at h1
  cases hr:uz kp r with
  |true=>exact ⟨by simp [qN,jd,hr],by simp [pR,jd,hr],by simp [wC,jd,hr],fun j h=>by simp [jd,hr] at h;subst h;exact ⟨by simp,by simpa using hr⟩⟩
  |false=>
   cases hk:jd kp l with
   |none=>
    rw [hk] at h1 h2 h3
    refine ⟨by simpa [qN,jd,hr,hk] using h1,by simpa [pR,jd,hr,hk] using h2,by simpa [wC,jd,hr,hk] using h3,fun j h=>by simp [jd,hr,hk] at h⟩
   |some m=>
    rw [hk] at h1 h2 h3
    obtain ⟨h5,h6⟩:=h4 m hk
    refine ⟨by simpa [qN,jd,hr,hk] using h1,by simpa [pR,jd,hr,hk] using h2,by simpa [wC,jd,hr,hk] using h3,fun j h => ?_⟩
    simp [jd,hr,hk] at h;subst h
    exact ⟨by simpa using h5,by simpa using h6⟩
theorem Aw {ok ok':Nat→Prop} {k:TK} {kp:P} {kv:Value} (hk:aU w ok kp kv) (hkk:kp.isKey k) :∀(es:List MapEntry) (l:List (List P)) (i:Nat),es.length=l.length→
  (∀(n:Nat) r e,l[n]?=some r→es[n]?=some e→(r.getD 0 default).isKey k∧aU w ok' (r.getD 0 default) e.key)→
  Instr.findNow k.desc kv es i=some (match jd kp l with
   |some j=>(es[j]?).map fun e=>(i+j,e.val)
   |none=>none)
 | [],[],i,_,_=>rfl
 |e::es,r::l,i,hl,h=>by
  obtain ⟨h1,h2⟩:=h 0 r e rfl rfl
  have hs:=(GK hk h2 hkk h1).1
  have ih:=Aw hk hkk es l (i+1) (by simpa using hl) fun n r e hr he=>h (n+1) r e hr he
  unfold Instr.findNow
  rw [hs]
  show (match some (uz kp r) with | some true=>_ | some false=>_ | none=>_)=_
  cases hb:uz kp r with
  |true=>simp [jd,hb]
  |false=>
   simp only [jd,hb]
   rw [ih]
   cases jd kp l with
   |none=>rfl
   |some j=>
    simp only [Option.map_some,List.getElem?_cons_succ]
    cases es[j]? with
    |none=>rfl
    |some e=>simp only [Option.map_some];rw [show i+1+j=i+(j+1) by omega]
 | [],_::_,i,hl,_=>by simp at hl
 |_::_,[],i,hl,_=>by simp at hl
theorem J9 {ok ok':Nat→Prop} {k:TK} {kp:P} {kv:Value} {sz:Nat} {l:List (List P)} {es:Array MapEntry} (h:wJ w ok' sz l es) (hp:0<rw sz) (hk:aU w ok kp kv) (ha:Yw k kp l) :
  Instr.findNow k.desc kv es.toList 0=some (match jd kp l with
   |some j=>(es[j]?).map fun e=>(j,e.val)
   |none=>none):=by
 have:=Aw (ok':=ok') hk ha.1 es.toList l 0 (by simpa using h.1.2.1) fun n r e hr he=>by
  have hr0:0<r.length:=by rw [h.2.1 r (List.mem_of_getElem? hr)];exact hp
  have hg:r[0]?=some (r.getD 0 default):=by rw [List.getD_eq_getElem?_getD,List.getElem?_eq_getElem hr0];rfl
  obtain ⟨v,hv,hrep⟩:=h.2.2 n r hr 0 _ hg
  refine ⟨ha.2 r (List.mem_of_getElem? hr),?_⟩
  unfold Jy at hv
  rw [Array.getElem?_toList] at he
  rw [he] at hv
  simp only [List.getElem?_cons_zero,Option.some.injEq] at hv
  rw [hv];exact hrep
 rw [this]
 simp only [Array.getElem?_toList,Nat.zero_add]
theorem JA (htt:fF Pg tt) (t:TypeId):dD Pg tt (.makeMap t none):=by
 intro E st gh val w ρ F o d r ho h hF hFn hk hp hd
 simp only [kernel] at hk
 split at hk
 ·rename_i kt et _ _ _ ht
  split at hk
  ·rename_i ie he
   simp only [Option.some.injEq] at hk;subst hk
   have D5:st.used d=false:=hd d (by simp)
   obtain ⟨hge,hrw,_⟩:=zo (htt _ _ he)
   have hm:=Rel.Yx h d D5 (.arr false false false (nX ie) []) (.map #[] 0) ⟨some ⟨w.heap.size,0,none⟩,0,fun _=>none⟩ rfl (fun _=>rfl) (fun aQ w' hlets hg hw=>by
    subst hw
    exact .inr ⟨⟨w.heap.size,0,none⟩,.map #[] 0,rfl,rfl,rZ _ _,(show Gp (nX ie) 0 #[] from ⟨hge,rfl,fun n e h=>by simp at h⟩),fun x hx=>(by cases hx),fun n x hx=>by simp at hx⟩) (fun g hg=>by simp [O.names] at hg)
   refine ⟨.map (some w.heap.size),_,_,.inl ?_,hm.1,hm.2,bD.E_ (.own d _ rfl fun sz' len' ho' => ?_),fun g hg => ?_⟩
   ·unfold execOp;rw [ho]
    refine eG ?_
    rfl
   ·have Me:(O.arr false false false (nX ie) []).dim=some (sz',len'):=by
     have:(st.au [(d,O.arr false false false (nX ie) [])] [d]).o d=O.arr false false false (nX ie) []:=by simp [St.au,List.lookup]
     rw [←this];exact ho'
    obtain ⟨rfl,rfl⟩:=O.iG Me
    rw [Gq hge]
    simp [dH]
   ·have hg:g∈(S.v (.one (.own d))).names:=hg
    rw [bU] at hg
    simp only [W.names,List.mem_singleton] at hg
    subst hg;simp [St.au]
  ·cases hk
 ·cases hk
theorem WO {r:List P} {j:Nat} {d:P}:(r.drop 1).getD j d=r.getD (j+1) d:=by
 simp [List.getD_eq_getElem?_getD,Nat.add_comm]
theorem MF (htt:fF Pg tt) (t:TypeId) (x k:Operand) (c:Bool):dD Pg tt (.lookup t x k c):=by
 intro E st gh val w ρ F o d r ho h hF hFn hk hp hd
 simp only [kernel] at hk
 unfold FP at hk
 split at hk
 ·rename_i kt et _ _ _ x' _ _ kp ht hx hkx
  have rx:=hF x;rw [hx] at rx
  have rk:=hF k;rw [hkx] at rk
  have hu:=(htt _ _ ht).kind
  simp only [lT] at hu
  split at hk
  ·rename_i ik ie hik hie
   split at hk
   ·rename_i ask l a i ps YD hps
    split at hk
    ·rename_i hc
     simp only [Option.some.injEq] at hk;subst hk
     obtain ⟨hask,hkey⟩:=hp
     obtain ⟨hge,hrw,hagg⟩:=zo (htt _ _ hie)
     obtain ⟨b,es,ck,hv,hb,hE⟩:=YC h rx.bC hge YD hask
     have hd:=OU (htt _ _ hik) hc.1
     have hkd:=OV rk.dF hkey.1
     have hfind:=J9 hE (by omega) rk.dF hkey
     obtain ⟨z,hz,hzc,hza⟩:=iZ (Pg:=Pg) (w:=w) (htt _ _ hie)
     obtain ⟨hone,hl,hr⟩:=nY (E:=E) (st:=st) (gh:=gh) (w:=w) (htt _ _ hie)
     obtain ⟨q0,q1,q2⟩:=pV h hl hr hps
     have hreads:=q2 st (by simp) h ⟨fun a i b hb=>⟨hb,rfl⟩,fun g _=>.inr ⟨⟨rfl,rfl⟩,O.dM _⟩⟩
     have hzl:=(htt _ _ hie).len
     have hpl:ps.length=ie.size:=by rw [q0,hl,hzl]
     obtain ⟨k1,k2,k3,k4⟩:=GL (kp:=kp) (ps:=ps) (l:=l)
     have key :∃v,(Instr.lookup t (ρ x) (ρ k) c).run Pg w=.ok (if c=true then .tuple #[v,.bool (pR kp l)] else v) w∧bD E st gh w (V.dh ie.agg ((List.range ie.size).map fun j=>.p a i ((qN kp ps l).getD j (FN ie.zero j)))) v:=by
      have hrun :∀(v:Value) (bb:Bool),(match (match jd kp l with | some j=>(es[j]?).map fun e=>(j,e.val) | none=>none:Option (Nat×Value)) with
        |some (_,u)=>bb=true∧v=u
        |none=>bb=false∧v=z)→(Instr.lookup t (ρ x) (ρ k) c).run Pg w=.ok (if c=true then .tuple #[v,.bool bb] else v) w:=by
       intro v bb hm
       rw [hv]
       generalize hq:(match jd kp l with | some j=>(es[j]?).map fun e=>(j,e.val) | none=>none:Option (Nat×Value))=q at hm hfind
       simp only [Instr.lookup,Sem.run_bind,bP hu,Result.andThen_ok,MapKept.run_getObj_map hb,Sem.run_pure,MapKept.run_checkKey hd hkd,MapKept.run_findKey hd hfind]
       cases q with
       |none=>obtain ⟨rfl,rfl⟩:=hm;simp [hz,Result.andThen]
       |some y=>obtain ⟨rfl,rfl⟩:=hm;simp
      cases hix:jd kp l with
      |none=>
       rw [hix] at k1 k2 hrun
       refine ⟨z,by rw [k2];exact hrun z _ ⟨rfl,rfl⟩,?_⟩
       simp only at k1
       rw [k1]
       refine iJ (cs:=ie.zero) (by simp [hzl]) hone (fun j y u hy hu => ?_) z ?_
       ·have hj:j<ie.size:=by have:=(List.getElem?_eq_some_iff.1 hu).1;omega
        simp only [List.getElem?_map,List.getElem?_range hj,Option.map_some,Option.some.injEq] at hy
        subst hy
        have hpj:ps[j]?=some (ps.getD j (FN ie.zero j)):=by rw [List.getD_eq_getElem?_getD,List.getElem?_eq_getElem (by omega)];rfl
        exact .p _ _ _ _ ((hreads j _ u hpj hu).mono fun b hb=>⟨Env.kC (by simp) (by simp) hb,rfl⟩)
       ·rw [←hza]
        cases z with
        |agg cs=>simp only [if_true];rw [←hzc];rfl
        |_=>simp only [Bool.false_eq_true,if_false];intro u hu;rw [←hzc] at hu;simpa [Value.cells] using hu
      |some j=>
       obtain ⟨k5,k6⟩:=k4 j hix
       have hes:j<es.size:=by rw [hE.1.2.1];exact k5
       have hej:es[j]?=some es[j]:=Array.getElem?_eq_getElem hes
       rw [hix] at k1 k2 hrun
       refine ⟨es[j].val,by rw [k2];exact hrun _ _ (by simp [hej]),?_⟩
       simp only at k1
       have hlj:l[j]?=some l[j]:=List.getElem?_eq_getElem k5
       have hgj:l.getD j []=l[j]:=by rw [List.getD_eq_getElem?_getD,hlj];rfl
       have hrl:l[j].length=ie.size+1:=by rw [hE.2.1 _ (List.getElem_mem k5),hrw]
       obtain ⟨e1,e2⟩:=hE.1.2.2 j _ hej
       rw [hagg] at e1
       have hcl:es[j].val.cells.toList.length=ie.size:=by simp;omega
       have hcell :∀m y,l[j][m+1]?=some y→∃u,es[j].val.cells.toList[m]?=some u∧aU w (E.ok st gh w a i) y u:=fun m y hy=>by
        obtain ⟨u,hu,GN⟩:=hE.2.2 j _ hlj (m+1) y hy
        unfold Jy at hu
        rw [hej] at hu
        exact ⟨u,by simpa using hu,GN⟩
       rw [k1,hgj]
       refine iJ (cs:=es[j].val.cells.toList) (by simp;omega) (fun u hu => ?_) (fun m y u hy hu => ?_) _ ?_
       ·obtain ⟨m,hm⟩:=List.mem_iff_getElem?.1 hu
        have hml:m<ie.size:=by have:=(List.getElem?_eq_some_iff.1 hm).1;omega
        obtain ⟨u',hu',GN⟩:=hcell m _ (List.getElem?_eq_getElem (show m+1<l[j].length by omega))
        rw [hm] at hu';cases hu'
        exact GN.oneCell
       ·have hml:m<ie.size:=by have:=(List.getElem?_eq_some_iff.1 hu).1;omega
        simp only [List.getElem?_map,List.getElem?_range hml,Option.map_some,Option.some.injEq] at hy
        subst hy
        obtain ⟨u',hu',GN⟩:=hcell m _ (List.getElem?_eq_getElem (show m+1<l[j].length by omega))
        rw [hu] at hu';cases hu'
        rw [WO,List.getD_eq_getElem?_getD,List.getElem?_eq_getElem (show m+1<l[j].length by omega)]
        exact .p _ _ _ _ GN
       ·rw [←e1]
        cases es[j].val with
        |agg cs=>simp [Value.Gn,Value.cells]
        |_=>simp [Value.Gn,Value.cells]
     obtain ⟨v,hrun,hrep⟩:=key
     have hnm :∀g,g∉(V.dh ie.agg ((List.range ie.size).map fun j=>W.p a i ((qN kp ps l).getD j (FN ie.zero j)))).names:=fun g hg=>by
      obtain ⟨y,hy,hg'⟩:=gX hg;rw [nR hy] at hg';cases hg'
     have hlist:(P.list (.mp 0 [qN kp ps l])).getD 0 []=qN kp ps l:=rfl
     refine still h (v:=if c=true then .tuple #[v,.bool (pR kp l)] else v) (by unfold execOp;rw [ho];exact eG hrun) ?_ ?_
     ·simp only [hlist]
      cases c with
      |false=>exact hrep
      |true=>
       simp only [if_true,cond_true]
       generalize V.dh ie.agg ((List.range ie.size).map fun j=>W.p a i ((qN kp ps l).getD j (FN ie.zero j)))=s at hrep
       cases hrep with
       |v y v hy=>
        refine .jH [y,.one (.p false false (.bool (pR kp l)))] [v,.bool (pR kp l)] rfl fun j y' u h1 h2 => ?_
        cases j with
        |zero=>cases h1;cases h2;exact hy
        |succ j=>
         cases j with
         |zero=>cases h1;cases h2;exact .one _ _ (.p _ _ _ _ (.bool _))
         |succ j=>simp at h1
       |jH xs vs hl hr=>exact .no _
       |no v=>exact .no _
     ·simp only [hlist]
      intro g hg
      cases c with
      |false=>exact absurd hg (hnm g)
      |true=>
       simp only [cond_true] at hg
       generalize V.dh ie.agg ((List.range ie.size).map fun j=>W.p a i ((qN kp ps l).getD j (FN ie.zero j)))=s at hnm hg
       cases s with
       |v y=>
        simp only [UE,S.names,List.flatMap_cons,List.flatMap_nil,List.append_nil,List.mem_append] at hg
        rcases hg with hg | hg
        ·exact absurd hg (hnm g)
        ·simp [V.names,W.names] at hg
       |jH xs=>simp [UE,S.names] at hg
       |no=>simp [UE,S.names] at hg
    ·cases hk
   ·cases hk
  ·cases hk
 ·cases hk
theorem Fh (htt:fF Pg tt) (t:TypeId) (m k y:Operand):dD Pg tt (.mapUpdate t m k y):=by
 intro E st gh val w ρ F o d r ho h hF hFn hk hp hd
 simp only [kernel] at hk
 unfold FQ at hk
 split at hk
 ·rename_i kt et _ _ _ g _ _ kp y' ht hm hkx hy
  have rm:=hF m;rw [hm] at rm
  have rk:=hF k;rw [hkx] at rk
  have ry:=hF y;rw [hy] at ry
  have hu:=(htt _ _ ht).kind
  simp only [lT] at hu
  split at hk
  ·rename_i ik ie a i sz l ps a' i' gs hik hie hog hps
   split at hk
   ·rename_i hc
    obtain ⟨⟨hc1,rfl,hc3⟩,⟨hc4,hc5,hc6⟩,hc7⟩:=hc
    simp only [Option.some.injEq] at hk;subst hk
    have hkey:Yw ik.k kp l:=hp
    have hg:g∉gs:=fun hm=>by simp [hm] at hc6
    obtain ⟨hge,hrw,hagg⟩:=zo (htt _ _ hie)
    obtain ⟨us,hus,L9,huo,hur⟩:=ry.Gz.cells hc5
    have RF:us.length=ie.size:=by rw [L9,hc4]
    obtain ⟨q0,q1,q2⟩:=pV h L9.symm hur hps
    obtain ⟨f1,f2⟩:=Rel.freezes gs h q1
    have hreads:=q2 _ (fun g hg=>by rw [dS,if_pos hg]) f1 f2
    have GI:(st.au (gs.map (Fw.aC st.o)) []).o g=.arr false a i (nX ie) l:=by rw [dS,if_neg hg];exact hog
    have hO:dw E (st.au (gs.map (Fw.aC st.o)) []) gh w a i (nX ie) l (gh g):=by have:=f1.aJ g;rw [GI] at this;exact this
    obtain ⟨ad,es,ck,had,hsp,hb,hE⟩:=OT hge hO
    have hv:ρ m=.map (some ad.block):=by
     have:=(by cases rm.bC with | own _ _ _ hb=>exact hb _ _ (O.iq hog):ρ m=hdl (nX ie) (gh g).ad (ml (nX ie) l) (gh g).cap)
     rw [this,Gq hge,had];rfl
    have hd:=OU (htt _ _ hik) hc1
    have hkd:=OV rk.dF hkey.1
    have hkr:=f2.iY rk.dF
    have hfind:=J9 hE (by omega) hkr hkey
    obtain ⟨k1,k2,k3,k4⟩:=GL (kp:=kp) (ps:=ps) (l:=l)
    have hva:Value.Gn (ρ y)=ie.agg:=by
     rw [←hc7]
     have:=ry.Gz
     generalize ρ y=z at this
     cases this with
     |one x v hx=>
      have h1:z.oneCell'=true:=hx.oneCell (fun b z e=>by subst e;simp [V.solid,W.solid] at hc5) (fun e=>by subst e;simp [V.solid,W.solid] at hc5)
      cases z<;>first | rfl | cases h1
     |agg xs cs hl hv hr=>rfl
    have hnew :∀(n:Nat) (e:MapEntry),e.key=ρ k→e.val=ρ y→∀(j:Nat) z,(kp::ps)[j]?=some z→∃v,(e.key::e.val.cells.toList)[j]?=some v∧aU w (E.ok (st.au (gs.map (Fw.aC st.o)) []) gh w (a||a') (i||i')) z v:=by
     intro n e ek ev j z hz
     have m0 :∀b,E.ok (st.au (gs.map (Fw.aC st.o)) []) gh w a' i' b→E.ok (st.au (gs.map (Fw.aC st.o)) []) gh w (a||a') (i||i') b:=fun b hb=>Env.kC (by simp;exact fun h=>.inr h) (by simp;exact fun h=>.inr h) hb
     cases j with
     |zero=>
      simp only [List.getElem?_cons_zero,Option.some.injEq] at hz;subst hz
      refine ⟨ρ k,by rw [ek];rfl,?_⟩
      have hkk:=hkey.1
      revert hkk
      cases kp with
      |int kk n=>intro _;rw [hkr.cZ];exact .int _ _
      |bool b=>intro _;rw [hkr.iI];exact .bool _
      |str s=>intro _;rw [hkr.kX];exact .str _
      |_=>intro hkk;cases hh:ik.k<;>rw [hh] at hkk<;>exact hkk.elim
     |succ j=>
      have hz:ps[j]?=some z:=hz
      have hj:j<us.length:=by have:=(List.getElem?_eq_some_iff.1 hz).1;omega
      refine ⟨us[j],?_,(hreads j z _ hz (List.getElem?_eq_getElem hj)).mono fun b hb=>⟨m0 b hb,rfl⟩⟩
      rw [ev,hus]
      simp [hj]
    have hold :∀(n:Nat) x,l[n]?=some x→∀(j:Nat) z,x[j]?=some z→∃v,Jy es n j=some v∧aU w (E.ok (st.au (gs.map (Fw.aC st.o)) []) gh w (a||a') (i||i')) z v:=fun n x hx j z hz=>by
     obtain ⟨v,hv,hr⟩:=hE.2.2 n x hx j z hz
     exact ⟨v,hv,hr.mono fun b hb=>⟨Env.kC (by simp;exact fun h=>.inl h) (by simp;exact fun h=>.inl h) hb,rfl⟩⟩
    have hok :∀v:Value,v=ρ y→Value.Gn v=decide (2*MB≤nX ie)∧v.cells.size+1=rw (nX ie):=fun v e=>by
     subst e
     rw [hagg,hrw,hus]
     exact ⟨hva,by simp [RF]⟩
    have hrun :∃es' ck',(Instr.mapUpdate t (ρ m) (ρ k) (ρ y)).run Pg w=.ok () { w with heap:=w.heap.setIfInBounds ad.block (.map es' ck') }∧wJ w (E.ok (st.au (gs.map (Fw.aC st.o)) []) gh w (a||a') (i||i')) (nX ie) (wC kp ps l) es':=by
     rw [hv]
     cases hix:jd kp l with
     |none=>
      rw [hix] at hfind k3
      refine ⟨es.push { key:=ρ k,val:=ρ y,born:=ck },ck+1,by simp [Instr.mapUpdate,bP hu,MapKept.run_getObj_map hb,MapKept.run_checkKey hd hkd,MapKept.run_findKey hd hfind,MapKept.run_setObj_map _ hb,Result.andThen],?_⟩
      simp only at k3
      rw [k3]
      refine ⟨⟨hge,by simp [hE.1.2.1],fun n e he => ?_⟩,fun x hx => ?_,fun n x hx j z hz => ?_⟩
      ·rw [Array.getElem?_push] at he
       split at he
       ·cases he;exact hok _ rfl
       ·exact hE.1.2.2 n e he
      ·rcases List.mem_append.1 hx with hx | hx
       ·exact hE.2.1 x hx
       ·rw [List.mem_singleton] at hx;rw [hx,hrw];simp [hc3]
      ·rw [List.getElem?_append] at hx
       split at hx
       ·rename_i hn
        obtain ⟨v,hv,hr⟩:=hold n x hx j z hz
        refine ⟨v,?_,hr⟩
        unfold Jy at hv ⊢
        rw [Array.getElem?_push,if_neg (by rw [hE.1.2.1];omega)];exact hv
       ·rename_i hn
        have hn0:n=l.length:=by have:=(List.getElem?_eq_some_iff.1 hx).1;simp at this;omega
        subst hn0
        simp only [Nat.sub_self,List.getElem?_cons_zero,Option.some.injEq] at hx;subst hx
        obtain ⟨v,hv,hr⟩:=hnew l.length { key:=ρ k,val:=ρ y,born:=ck } rfl rfl j z hz
        refine ⟨v,?_,hr⟩
        unfold Jy
        rw [Array.getElem?_push,if_pos hE.1.2.1.symm];exact hv
     |some q=>
      obtain ⟨k5,k6⟩:=k4 q hix
      have hes:q<es.size:=by rw [hE.1.2.1];exact k5
      have heq:es[q]?=some es[q]:=Array.getElem?_eq_getElem hes
      have hlq:l[q]?=some l[q]:=List.getElem?_eq_getElem k5
      have hgq:l.getD q []=l[q]:=by rw [List.getD_eq_getElem?_getD,hlq];rfl
      rw [hix] at hfind k3
      simp only [heq,Option.map_some] at hfind
      have hkeq:ρ k=es[q].key:=by
       have hr0:0<l[q].length:=by rw [hE.2.1 _ (List.getElem_mem k5),hrw];omega
       have hg0:l[q][0]?=some (l[q].getD 0 default):=by rw [List.getD_eq_getElem?_getD,List.getElem?_eq_getElem hr0];rfl
       obtain ⟨v,hv',hr⟩:=hE.2.2 q _ hlq 0 _ hg0
       unfold Jy at hv'
       rw [heq] at hv'
       simp only [List.getElem?_cons_zero,Option.some.injEq] at hv'
       subst hv'
       rw [hgq] at k6
       exact (GK hkr hr hkey.1 (hkey.2 _ (List.getElem_mem k5))).2 k6
      refine ⟨es.modify q fun e=>{ e with key:=ρ k,val:=ρ y },ck,?_,?_⟩
      ·have hks:(Instr.keyThatStays es[q].key (ρ k)).run Pg w=.ok (ρ k) w:=by rw [←hkeq];exact MapKept.run_keyThatStays hkd
       simp [Instr.mapUpdate,bP hu,MapKept.run_getObj_map hb,MapKept.run_checkKey hd hkd,MapKept.run_findKey hd hfind,heq,hks,MapKept.run_setObj_map _ hb,Result.andThen]
      simp only at k3
      rw [k3]
      have hmod :∀n,(es.modify q fun e=>{ e with key:=ρ k,val:=ρ y })[n]?=if q=n then (es[n]?).map (fun e=>{ e with key:=ρ k,val:=ρ y }) else es[n]?:=fun n=>by rw [Array.getElem?_modify]
      refine ⟨⟨hge,by simp [hE.1.2.1],fun n e he => ?_⟩,fun x hx => ?_,fun n x hx j z hz => ?_⟩
      ·rw [hmod] at he
       split at he
       ·rename_i hn
        rw [←hn,heq] at he
        simp only [Option.map_some,Option.some.injEq] at he
        subst he;exact hok _ rfl
       ·exact hE.1.2.2 n e he
      ·obtain ⟨n,hn⟩:=List.mem_iff_getElem?.1 hx
       rw [List.getElem?_set] at hn
       split at hn
       ·cases hn;rw [hrw];simp [hc3]
       ·exact hE.2.1 x (List.mem_of_getElem? hn)
      ·rw [List.getElem?_set] at hx
       unfold Jy
       rw [hmod]
       split at hx
       ·rename_i hn
        subst hn
        cases hx
        rw [if_pos rfl,heq]
        exact hnew q { es[q] with key:=ρ k,val:=ρ y } rfl rfl j z hz
       ·rename_i hn
        rw [if_neg hn]
        exact hold n x hx j z hz
    obtain ⟨es',ck',hrun,hE'⟩:=hrun
    have hw:=Rel.write f1 g ad (by rw [GI];rfl) had (.arr false (a||a') (i||i') (nX ie) (wC kp ps l)) (by rw [GI];exact ⟨rfl,by unfold ml;rw [if_neg (Nat.not_lt.2 hge),if_neg (Nat.not_lt.2 hge)]⟩) { w with heap:=w.heap.setIfInBounds ad.block (.map es' ck') }
     (fun b hb'=>(MapKept.heap_set hb).2 b hb') (by simp) rfl rfl rfl rfl (fun i1 e1=>by cases e1;exact ⟨i,by rw [GI];rfl,fun hi=>by simp [hi]⟩) (fun _=>by rw [GI];rfl) (fun hlets=>by
      have:=hE'.mono (ok':=E.ok ((st.au (gs.map (Fw.aC st.o)) []).au [(g,.arr false (a||a') (i||i') (nX ie) (wC kp ps l))] []) gh { w with heap:=w.heap.setIfInBounds ad.block (.map es' ck') } (a||a') (i||i')) fun z v hz=>hlets.iY hz
      exact .inr ⟨ad,.map es' ck',had,hsp,(MapKept.heap_set hb).1,this.1,this.2.1,this.2.2⟩) (fun g' hg'=>by simp [O.names] at hg')
    rw [wI (o:=st.o) hg] at hw
    refine ⟨undef,_,gh,.inr ⟨?_,rfl⟩,hw.1,Lets.trans f2 hw.2 (fun g hg=>by simpa [St.au] using hg),.no _,fun g hg=>by simp [S.names] at hg⟩
    unfold execOp;rw [ho]
    exact UF hrun
   ·cases hk
  ·cases hk
 ·cases hk
end
end Go.Fw

namespace Go.Fw
set_option linter.unusedSectionVars false
variable [dA]
set_option linter.unusedVariables false
section
variable {E:Env} {st st':St} {gh aQ:Nat→Gh} {w w':World} {val:Nat→Value} {Pg:Program} {tt:TT}
def ng (w:World) (ok:Nat→Prop) (sz:Nat) (l:List (List P)) (v:Value):Prop:=
 ∃ao cap,v=.slice ao l.length cap∧(l≠[]→∃b o,ao=some ⟨b,o,none⟩ ∧∀(n:Nat) x,l[n]?=some x→x.length=sz∧∀(j:Nat) y,x[j]?=some y→∃u,w.cell? ⟨b,o+n*sz+j,none⟩=some u∧aU w ok y u)
theorem aU.aer {ok:Nat→Prop} {sz:Nat} {l:List (List P)} {v:Value} (h:aU w ok (.sl sz l) v):ng w ok sz l v:=by
 obtain ⟨ao,cap,he,hc,hr⟩:=h.zn
 refine ⟨ao,cap,he,fun hne => ?_⟩
 obtain ⟨ad,rfl,hs,hok,hrow,f,h1,h2⟩:=hr hne
 obtain ⟨b,o,sp⟩:=ad
 simp only at hs;subst hs
 exact ⟨b,o,rfl,fun n x hx=>⟨hrow x (List.mem_of_getElem? hx),fun j y hy=>⟨_,h1 n x hx j y hy,h2 n x hx j y hy⟩⟩⟩
theorem OW {fz a i:Bool} {sz:Nat} {l:List (List P)} {G:Gh} (hlt:sz<MB) (h:kF E st gh w (.arr fz a i sz l) G) (hne:l≠[]) :∃b o,G.ad=some ⟨b,o,none⟩:=by
 cases fz with
 |false=>
  rcases dw.old hlt h with ⟨h1,h2,h3⟩ | ⟨ad,c,e,q1,q2,_⟩
  ·exact absurd h3 hne
  ·exact ⟨ad.block,ad.off,by rw [q1,←q2]⟩
 |true=>
  have h:=o8 hlt h
  obtain ⟨ao,cap,he,hc,hr⟩:=h.zn
  cases he
  obtain ⟨ad,h1,hs,_⟩:=hr hne
  exact ⟨ad.block,ad.off,by rw [h1,←hs]⟩
theorem GR {fz a i:Bool} {sz:Nat} {l:List (List P)} {G:Gh} (hlt:sz<MB) (h:kF E st gh w (.arr fz a i sz l) G) (m:Nat) (hm:m≤l.length):ng w (E.ok st gh w a i) sz (l.take m) (.slice G.ad m G.cap):=by
 refine ⟨_,_,by rw [List.length_take,Nat.min_eq_left hm],fun hne => ?_⟩
 have hne':l≠[]:=fun e=>hne (by rw [e];simp)
 obtain ⟨b,o,had⟩:=OW hlt h hne'
 refine ⟨b,o,had,fun n x hx => ?_⟩
 have hx':l[n]?=some x:=by rw [List.getElem?_take] at hx;split at hx;exact hx;cases hx
 exact Cj hlt h hx' had
theorem wK (h:Rel E st gh val w) {x:W} {v:Value} (r:dP E st gh w x v) {sz:Nat} (hlt:sz<MB) {ask:Prop} {l:List (List P)} {a i:Bool} (hr:x.rows st.o sz=some (ask,l,a,i)) (ha:ask):ng w (E.ok st gh w a i) sz l v:=by
 cases r with
 |p a' i' x v hx=>
  simp only [W.rows,Option.some.injEq,Prod.mk.injEq] at hr
  obtain ⟨rfl,rfl,rfl,rfl⟩:=hr
  cases x with
  |sl sz' l'=>
   by_cases e:l'=[]
   ·subst e
    obtain ⟨ao,cap,he,hc,_⟩:=hx.zn
    exact ⟨ao,cap,he,fun hne=>absurd rfl hne⟩
   ·have:sz'=sz:=by rcases ha with h | h;exact h;exact absurd h e
    subst this;exact hx.aer
  |_=>exact ha.elim
 |bg=>
  simp only [W.rows,Option.some.injEq,Prod.mk.injEq] at hr
  obtain ⟨rfl,rfl,rfl,rfl⟩:=hr
  exact ⟨none,0,rfl,fun hne=>absurd rfl hne⟩
 |own g v hv hx=>
  simp only [W.rows] at hr
  split at hr
  ·rename_i fz a' i' sz' l' ho
   split at hr
   ·rename_i hsz
    subst hsz
    simp only [Option.some.injEq,Prod.mk.injEq] at hr
    obtain ⟨rfl,rfl,rfl,rfl⟩:=hr
    have hO:=h.aJ g;rw [ho] at hO
    have:=GR hlt hO l'.length (Nat.le_refl _)
    rw [List.take_length] at this
    rw [hx _ _ (O.iq ho),fD hlt,fB hlt];exact this
   ·cases hr
  ·cases hr
 |vw g lo hi v hv hx=>
  simp only [W.rows] at hr
  split at hr
  ·rename_i fz a' i' sz' l' ho
   split at hr
   ·rename_i hsz
    subst hsz
    simp only [Option.some.injEq,Prod.mk.injEq] at hr
    obtain ⟨rfl,rfl,rfl,rfl⟩:=hr
    obtain ⟨n,m,vc,rfl,rfl,h1,h2,hvc,he⟩:=hx _ _ (O.iq ho)
    rw [fB hlt] at h2
    have hO:=h.aJ g;rw [ho] at hO
    have e1:(P.int .i64 (n:Int)).nat=n:=by simp [P.nat,P.num]
    have e2:(P.int .i64 (m:Int)).nat=m:=by simp [P.nat,P.num]
    rw [e1,e2,he]
    have hlen:((l'.take m).drop n).length=m-n:=by simp;omega
    refine ⟨_,_,by rw [hlen],fun hne => ?_⟩
    have hne':l'≠[]:=fun e=>hne (by rw [e];simp)
    have hcap:=L6 hlt hO
    have hmn:0<m-n:=by rw [←hlen];exact List.length_pos_iff.2 hne
    obtain ⟨b,o,had⟩:=OW hlt hO hne'
    refine ⟨b,o+n*sz',by rw [if_neg (by omega),had,Option.map_some,Addr.fK],fun q x hx => ?_⟩
    rw [List.getElem?_drop,List.getElem?_take] at hx
    split at hx
    ·obtain ⟨k1,k2⟩:=Cj hlt hO hx had
     refine ⟨k1,fun j y hy => ?_⟩
     obtain ⟨u,hu,GN⟩:=k2 j y hy
     refine ⟨u,?_,GN⟩
     rw [←hu]
     have:o+n*sz'+q*sz'+j=o+(n+q)*sz'+j:=by rw [Nat.add_mul];omega
     rw [this]
    ·cases hx
   ·cases hr
  ·cases hr
 |_=>simp [W.rows] at hr
theorem ng.cells {ok:Nat→Prop} {sz:Nat} {l:List (List P)} {v:Value} (h:ng w ok sz l v) :∃cs:List Value,(Builtin.firstCells sz l.length v).run Pg w=.ok cs.toArray w∧cs.length=l.length*sz∧
  (∀c∈cs,c.oneCell'=true)∧(∀x∈l,x.length=sz)∧∀(n:Nat) x,l[n]?=some x→∀(j:Nat) y,x[j]?=some y→∃u,cs[n*sz+j]?=some u∧aU w ok y u:=by
 obtain ⟨ao,cap,rfl,hr⟩:=h
 by_cases hne:l=[]
 ·subst hne
  refine ⟨[],?_,by simp,by simp,by simp,by simp⟩
  cases ao with
  |none=>simp [Builtin.firstCells]
  |some a=>simp [Builtin.firstCells,loadCells,loadCellsFrom]
 ·obtain ⟨b,o,rfl,hrow⟩:=hr hne
  have key :∀k,k<l.length*sz→∃u,w.cell? ⟨b,o+k,none⟩=some u∧u.oneCell'=true:=by
   intro k hk
   have hsz:0<sz:=by rcases Nat.eq_zero_or_pos sz with e | e;(subst e;simp at hk);exact e
   have hq:k/sz<l.length:=(Nat.div_lt_iff_lt_mul hsz).2 hk
   obtain ⟨k1,k2⟩:=hrow (k/sz) _ (List.getElem?_eq_getElem hq)
   have hm:k % sz<(l[k/sz]).length:=by rw [k1];exact Nat.mod_lt _ hsz
   obtain ⟨u,hu,GN⟩:=k2 (k % sz) _ (List.getElem?_eq_getElem hm)
   refine ⟨u,?_,GN.oneCell⟩
   rw [←hu]
   have:o+k/sz*sz+k % sz=o+k:=by
    have:=Nat.div_add_mod k sz
    rw [Nat.mul_comm] at this;omega
   rw [this]
  have hcs :∀j,j<l.length*sz→w.cell? ⟨b,o+j,none⟩=((List.range (l.length*sz)).map fun k=>(w.cell? ⟨b,o+k,none⟩).getD undef)[j]?:=by
   intro j hj
   obtain ⟨u,hu,_⟩:=key j hj
   simp [List.getElem?_map,List.getElem?_range hj,hu]
  refine ⟨(List.range (l.length*sz)).map fun k=>(w.cell? ⟨b,o+k,none⟩).getD undef,?_,by simp,fun c hc => ?_,fun x hx => ?_,fun n x hx j y hy => ?_⟩
  ·have:=kY (Pg:=Pg) (w:=w) ⟨b,o,none⟩ ((List.range (l.length*sz)).map fun k=>(w.cell? ⟨b,o+k,none⟩).getD undef) (l.length*sz) 0 #[] (fun j hj=>by
    rw [Addr.fK,Nat.zero_add];exact hcs j hj) (by simp)
   simp only [Builtin.firstCells,loadCells]
   rw [this]
   congr 1
   rw [List.take_of_length_le (by simp)]
   simp
  ·simp only [List.mem_map,List.mem_range] at hc
   obtain ⟨k,hk,rfl⟩:=hc
   obtain ⟨u,hu,ho⟩:=key k hk
   rw [hu];exact ho
  ·obtain ⟨n,hn⟩:=List.mem_iff_getElem?.1 hx
   exact (hrow n x hn).1
  ·obtain ⟨k1,k2⟩:=hrow n x hx
   obtain ⟨u,hu,GN⟩:=k2 j y hy
   have hlt:n*sz+j<l.length*sz:=by
    have hn:n<l.length:=(List.getElem?_eq_some_iff.1 hx).1
    have hj:j<sz:=by have:=(List.getElem?_eq_some_iff.1 hy).1;omega
    have:(n+1)*sz≤l.length*sz:=Nat.mul_le_mul_right _ hn
    rw [Nat.add_mul,Nat.one_mul] at this;omega
   exact ⟨u,by rw [←hcs _ hlt,←Nat.add_assoc];exact hu,GN⟩
theorem foldl_push (ns:List Int) :∀(s:ByteArray),ns.foldl (fun r n=>r.push (UInt8.ofNat n.toNat)) s=⟨(s.data.toList++ns.map fun n=>UInt8.ofNat n.toNat).toArray⟩:=by
 induction ns with
 |nil=>intro s;simp
 |cons n ns ih=>
  intro s
  rw [List.foldl_cons,ih]
  congr 1
  simp [ByteArray.push]
theorem ng.bytes {ok:Nat→Prop} {l:List (List P)} {v:Value} (h:ng w ok 1 l v) (hb:isBytes l) :
  ∃ao len cap,v=.slice ao len cap∧(Conv.bytesToString (.slice ao len cap)).run Pg w=.ok (.string ⟨(l.map fun r=>UInt8.ofNat ((r.getD 0 default).num.toNat)).toArray⟩) w:=by
 obtain ⟨cs,h1,h2,h3,h4,h5⟩:=h.cells (Pg:=Pg)
 obtain ⟨ao,cap,rfl,hr⟩:=h
 refine ⟨ao,_,cap,rfl,?_⟩
 cases ao with
 |none=>
  have:l=[]:=by
   rcases l with _ | ⟨x,l⟩
   ·rfl
   ·obtain ⟨b,o,hc,_⟩:=hr (by simp);cases hc
  subst this
  rfl
 |some a=>
  have hcs:cs=(l.map fun r=>(r.getD 0 default).num).map (Value.int .u8):=by
   apply List.ext_getElem?
   intro n
   rw [List.map_map,List.getElem?_map]
   cases hx:l[n]? with
   |none=>
    have:l.length≤n:=List.getElem?_eq_none_iff.1 hx
    rw [Option.map_none,List.getElem?_eq_none_iff];omega
   |some x=>
    obtain ⟨k,rfl⟩:=hb x (List.mem_of_getElem? hx)
    obtain ⟨u,hu,GN⟩:=h5 n _ hx 0 (.int .u8 k) rfl
    have e:n*1+0=n:=by omega
    rw [e] at hu
    rw [hu,GN.cZ]
    rfl
  have hl:(loadCells a l.length).run Pg w=.ok ((l.map fun r=>(r.getD 0 default).num).map (Value.int .u8)).toArray w:=by
   rw [←hcs]
   simpa [Builtin.firstCells] using h1
  rw [run_bytesToString w a l.length cap _ hl,foldl_push]
  simp
theorem OX {ok1 ok2 ok:Nat→Prop} {sz:Nat} {l1 l2:List (List P)} {c1 c2:List Value} (hl1:c1.length=l1.length*sz)
  (h1 :∀(n:Nat) x,l1[n]?=some x→∀(j:Nat) y,x[j]?=some y→∃u,c1[n*sz+j]?=some u∧aU w ok1 y u) (h2 :∀(n:Nat) x,l2[n]?=some x→∀(j:Nat) y,x[j]?=some y→∃u,c2[n*sz+j]?=some u∧aU w ok2 y u)
  (k1 :∀b,ok1 b→ok b) (k2 :∀b,ok2 b→ok b) (hlen :∀x∈l1,x.length=sz) :
  ∀(n:Nat) x,(l1++l2)[n]?=some x→∀(j:Nat) y,x[j]?=some y→∃u,(c1++c2)[n*sz+j]?=some u∧aU w ok y u:=by
 intro n x hx j y hy
 rw [List.getElem?_append] at hx
 split at hx
 ·rename_i hn
  obtain ⟨u,hu,hr⟩:=h1 n x hx j y hy
  have hlt:=(List.getElem?_eq_some_iff.1 hu).1
  exact ⟨u,by rw [List.getElem?_append_left hlt];exact hu,hr.mono fun b hb=>⟨k1 b hb,rfl⟩⟩
 ·rename_i hn
  obtain ⟨u,hu,hr⟩:=h2 _ x hx j y hy
  refine ⟨u,?_,hr.mono fun b hb=>⟨k2 b hb,rfl⟩⟩
  have e:n*sz+j=c1.length+((n-l1.length)*sz+j):=by
   rw [hl1]
   have:n*sz=l1.length*sz+(n-l1.length)*sz:=by rw [←Nat.add_mul];congr 1;omega
   omega
  rw [e,List.getElem?_append_right (by omega),Nat.add_sub_cancel_left]
  exact hu
theorem jB {ts:Array TypeId} {ty sT xT e e':TypeId} {ie:TI} (h0:ts[0]?=some sT) (h1:ts[1]?=some xT) (hs:Pg.underlying sT=some (.slice e)) (hx:Pg.underlying xT=some (.slice e')) (he:lW Pg e ie)
  {base:Option Addr} {sLen sCap:Nat} {ao:Option Addr} {n cap:Nat} {c2:Array Value} (hc:(Builtin.firstCells ie.size n (.slice ao n cap)).run Pg w=.ok c2 w) (qQ:sLen+n≤sCap)
  (hst :∀a,base=some a→(storeCells (a.add (sLen*ie.size)) c2.toList).run Pg w=.ok () w') (hn:base=none→w'=w) :
  (Builtin.append_ ts ty #[.slice base sLen sCap,.slice ao n cap]).run Pg w=.ok (.slice base (sLen+n) sCap) w':=by
 unfold Builtin.append_
 simp only [h0,h1,Sem.run_bind,bP hs,bP hx,bM he,Result.andThen_ok,Builtin.lenOf,List.getElem?_toArray,List.getElem?_cons_zero,List.getElem?_cons_succ,Sem.run_pure,Bool.false_eq_true,if_false,if_pos qQ,Bool.not_false,if_true,hc]
 cases base with
 |none=>rw [hn rfl];simp
 |some a=>simp [hst a rfl]
theorem pX {ts:Array TypeId} {ty sT xT e e':TypeId} {ie:TI} (h0:ts[0]?=some sT) (h1:ts[1]?=some xT) (hs:Pg.underlying sT=some (.slice e)) (hx:Pg.underlying xT=some (.slice e')) (he:lW Pg e ie)
  {base:Option Addr} {sLen sCap:Nat} {ao:Option Addr} {n cap:Nat} {c1 c2:Array Value} (hc2:(Builtin.firstCells ie.size n (.slice ao n cap)).run Pg { w with drawn:=w.drawn+1 }=.ok c2 { w with drawn:=w.drawn+1 })
  (hc1:(Builtin.firstCells ie.size sLen (.slice base sLen sCap)).run Pg { w with drawn:=w.drawn+1 }=.ok c1 { w with drawn:=w.drawn+1 }) (qQ:¬ sLen+n≤sCap) (hb:(sLen+n)*ie.bytes≤140737488355328) (hb0:ie.bytes≠0) :
  ∃(rest:Array Value) (newCap:Nat),(sLen+n≤newCap∧newCap≤9223372036854775807)∧rest.size=(newCap-(sLen+n))*ie.size∧
  (Builtin.append_ ts ty #[.slice base sLen sCap,.slice ao n cap]).run Pg w=.ok (.slice (some ⟨w.heap.size,0,none⟩) (sLen+n) newCap) { w with drawn:=w.drawn+1,heap:=w.heap.push (.cells (c1++c2++rest) e) }:=by
 have abw:sLen+n≤140737488355328:=Nat.le_trans (Nat.le_mul_of_pos_right _ (Nat.pos_of_ne_zero hb0)) hb
 obtain ⟨xi,z,g1,g2,g3,g4,g5,g6⟩:=he.info
 have hcap:sLen+n≤grownCap w (sLen+n) sCap e:=by unfold grownCap Question.cut;exact Nat.le_add_right _ _
 have hzs:z.cells.size=ie.size:=by rw [←he.len,←g5];simp
 refine ⟨Builtin.zeroCells z.cells (grownCap w (sLen+n) sCap e-(sLen+n)),grownCap w (sLen+n) sCap e,⟨hcap,grownCap_le_maxLen w _ _ e (Nat.le_trans abw (by decide))⟩,by simp [Builtin.zeroCells,hzs],?_⟩
 have hfit:=growslice_fits (bytes:=ie.bytes) (Nat.lt_of_not_le qQ) hb
 have n1:¬ (((sLen+n:Nat):Int)>IntKind.i64.max∧(False∨ie.bytes=0)):=by rintro ⟨_,h | h⟩;exact h;exact hb0 h
 have n2:¬ (Builtin.nextslicecap (sLen+n) sCap*ie.bytes>2 ^ 48):=by
  have:(2:Nat) ^ 48=281474976710656:=rfl
  omega
 have hti :∀u:World,(typeInfo e).run Pg u=.ok xi u:=fun u=>rY g1
 unfold Builtin.append_
 simp only [h0,h1,Sem.run_bind,bP hs,bP hx,bM he,Result.andThen_ok,Builtin.lenOf,List.getElem?_toArray,List.getElem?_cons_zero,List.getElem?_cons_succ,Sem.run_pure,Bool.false_eq_true,if_false,if_neg qQ,Bool.not_false,if_true]
 simp only [hti,Result.andThen_ok,g3]
 rw [if_neg n1]
 simp only [hti,Result.andThen_ok,g3,Sem.run_bind]
 rw [if_neg n2]
 simp only [Sem.run_bind,run_choose,Question.forced,Bool.false_eq_true,if_false,Result.andThen_ok,run_askRoom,hc1,hc2,zeroValue,Sem.run_bind,hti,g4,Sem.run_pure,newRow,run_newObj]
 rfl
theorem Rel.CJ {st:St} {gh:Nat→Gh} {w:World} (n:Nat):Lets E st st gh gh w { w with drawn:=n }:=⟨fun a i b hb=>⟨hb,rfl⟩,fun g _=>.inr ⟨⟨rfl,rfl⟩,O.dM _⟩⟩
theorem yQ (st:St) (g d:Nat) (x:O) (hgd:g≠d):(st.au [(g,.none)] []).au [(d,x)] [d]=st.au [(g,.none),(d,x)] [d]:=by
 unfold St.au
 congr 1
 ·funext g'
  by_cases e1:g'=g
  ·subst e1
   have:(g'==d)=false:=by simpa using hgd
   simp [List.lookup,this]
  ·have h1:(g'==g)=false:=by simpa using e1
   by_cases e2:g'=d
   ·subst e2;simp [List.lookup,h1]
   ·have h2:(g'==d)=false:=by simpa using e2
    simp [List.lookup,h1,h2]
theorem wL (sz n:Nat) (a:Option Addr) (l c c':Nat):Builtin.firstCells sz n (.slice a l c)=Builtin.firstCells sz n (.slice a l c'):=by
 cases a<;>rfl
theorem D6 (h:Rel E st gh val w) {d g:Nat} (hd:st.used d=false) {a i a' i':Bool} {sz:Nat} {l new:List (List P)} (hog:st.o g=.arr false a i sz l) (m:Nat) (hm:m≤l.length) {vx:Value} (hx:ng w (E.ok st gh w a' i') sz new vx)
  {ts:Array TypeId} {ty sT xT e e':TypeId} {ie:TI} (h0:ts[0]?=some sT) (h1:ts[1]?=some xT) (hs:Pg.underlying sT=some (.slice e)) (hxt:Pg.underlying xT=some (.slice e')) (he:lW Pg e ie) (hsz:sz=ie.size)
  (hb:(m+new.length)*ie.bytes≤140737488355328) (hb0:ie.bytes≠0) {bc:Nat} (hbc:m≤bc∧bc≤(gh g).cap) :
  ∃v w' aQ,(Builtin.append_ ts ty #[.slice (gh g).ad m bc,vx]).run Pg w=.ok v w'∧Rel E (st.au [(g,.none),(d,.arr false (a||a') (i||i') sz (l.take m++new))] [d]) aQ val w'∧
   Lets E st (st.au [(g,.none),(d,.arr false (a||a') (i||i') sz (l.take m++new))] [d]) gh aQ w w'∧v=.slice (aQ d).ad (l.take m++new).length (aQ d).cap:=by
 subst hsz
 have hsm:=he.small
 have hO:dw E st gh w a i ie.size l (gh g):=by have:=h.aJ g;rw [hog] at this;exact this
 have hgd:g≠d:=by intro e;subst e;rw [h.ul g (by rw [hog];simp)] at hd;cases hd
 have hlen:(l.take m++new).length=m+new.length:=by simp;omega
 obtain ⟨ao,cap,rfl,hnew⟩:=hx
 have hx:ng w (E.ok st gh w a' i') ie.size new (.slice ao new.length cap):=⟨ao,cap,rfl,hnew⟩
 by_cases qQ:m+new.length≤bc
 ·obtain ⟨c2,hc2,hl2,ho2,hr2,hcell2⟩:=hx.cells (Pg:=Pg)
  rcases dw.old hsm hO with ⟨z1,z2,z3⟩ | ⟨ad,c,e0,z1,z2,z3,z4,z5,z6,z7⟩
  ·subst z3
   have hm0:m=0:=by simpa using hm
   subst hm0
   have hn0:new=[]:=List.eq_nil_of_length_eq_zero (by omega)
   subst hn0
   have aes:bc=0:=by omega
   subst aes
   have GU:=h.kill g
   have hmk:=Rel.OC GU.1 d (by simpa [St.au] using hd) (a||a') (i||i') ie.size hsm
   rw [yQ st g d _ hgd] at hmk
   refine ⟨_,w,_,jB h0 h1 hs hxt he (by simpa using hc2) (by simp) (fun a ha=>by rw [z1] at ha;cases ha) (fun _=>rfl),by simpa using hmk.1,
    by simpa using Lets.trans GU.2 hmk.2 (fun g hg=>by simpa [St.au] using hg),by simp [dH,Gh.nil,z1]⟩
  ·have aiZ:m*ie.size+new.length*ie.size≤(gh g).cap*ie.size:=by rw [←Nat.add_mul];exact Nat.mul_le_mul_right _ (Nat.le_trans qQ hbc.2)
   have hbz:bc*ie.size≤(gh g).cap*ie.size:=Nat.mul_le_mul_right _ hbc.2
   obtain ⟨b0,o0,sp0⟩:=ad
   simp only at z2 z3 z4 z7;subst z2
   obtain ⟨w',c',s1,s2,s3,s4,s5,s6,s7,s8⟩:=iE (Pg:=Pg) b0 (o0+m*ie.size) e0 c2 0 w c z3 ho2 (by omega)
   have sW:c'.size=c.size:=by
    have:=congrArg List.length s3
    rw [bK (by simp;omega)] at this;simpa using this
   have hsh:=Rel.shift h g d hd ⟨b0,o0,none⟩ (by rw [hog];rfl) z1 (.arr false (a||a') (i||i') ie.size (l.take m++new)) ⟨some ⟨b0,o0,none⟩,bc,fun _=>none⟩ rfl (fun b hb=>by cases hb) (fun _ _ _=>rfl) w' s4 s5 s6 s7 s8
    (fun i1 b e1 hb hwr=>by
     cases e1
     rcases hb with ⟨ad',q1,q2⟩ | q1
     ·cases q1;subst q2;simp [h.wi g i b0 (by rw [hog];rfl) (Gh.jk z1) hwr]
     ·cases q1) (fun hlets=>by
     refine dw.of hsm (.inr ⟨⟨b0,o0,none⟩,c',e0,rfl,rfl,s2,by rw [sW];simp only;omega,⟨by rw [hlen];exact qQ,by simp only;have:=z5.2;omega⟩,fun x hx => ?_,fun n x hx j y hy => ?_⟩)
     ·rcases List.mem_append.1 hx with hx | hx
      ·exact z6 x (List.mem_of_mem_take hx)
      ·exact hr2 x hx
     ·have hget:c'[o0+n*ie.size+j]?=(aA c.toList (o0+m*ie.size) c2)[o0+n*ie.size+j]?:=by rw [←Array.getElem?_toList,s3,Nat.add_zero]
      rw [cu (by simp;omega)] at hget
      rw [List.getElem?_append] at hx
      split at hx
      ·rename_i hn
       have hnm:n<m:=by simp at hn;omega
       rw [List.getElem?_take,if_pos hnm] at hx
       obtain ⟨v,hv,WM⟩:=z7 n x hx j y hy
       have hj:j<ie.size:=by have:=(List.getElem?_eq_some_iff.1 hy).1;have:=z6 x (List.mem_of_getElem? hx);omega
       have:(n+1)*ie.size≤m*ie.size:=Nat.mul_le_mul_right _ hnm
       rw [Nat.add_mul,Nat.one_mul] at this
       rw [if_neg (by omega)] at hget
       exact ⟨v,by rw [hget];simpa using hv,(hlets.iY WM).mono fun b hb=>⟨Env.kC (by simp;exact fun h=>.inl h) (by simp;exact fun h=>.inl h) hb,rfl⟩⟩
      ·rename_i hn
       have hlm:(l.take m).length=m:=by simp;omega
       rw [hlm] at hx hn
       obtain ⟨u,hu,hur⟩:=hcell2 _ x hx j y hy
       have L9:=(List.getElem?_eq_some_iff.1 hu).1
       have hnm:n*ie.size=m*ie.size+(n-m)*ie.size:=by rw [←Nat.add_mul];congr 1;omega
       rw [if_pos (by omega)] at hget
       have e1:o0+n*ie.size+j-(o0+m*ie.size)=(n-m)*ie.size+j:=by omega
       rw [e1] at hget
       exact ⟨u,by rw [hget];exact hu,(hlets.iY hur).mono fun b hb=>⟨Env.kC (by simp;exact fun h=>.inr h) (by simp;exact fun h=>.inr h) hb,rfl⟩⟩) (fun g' hg'=>by simp [O.names] at hg')
   refine ⟨_,w',_,jB h0 h1 hs hxt he hc2 qQ (fun a ha => ?_) (fun hn=>by rw [z1] at hn;cases hn),hsh.1,hsh.2,by rw [hlen];simp [dH,z1]⟩
   rw [z1] at ha;cases ha
   rw [Addr.fK]
   simpa using s1
 ·have hd1:=h.drew (w.drawn+1)
  have hl1:Lets E st st gh gh w { w with drawn:=w.drawn+1 }:=Rel.CJ _
  have hO1:kF E st gh { w with drawn:=w.drawn+1 } (.arr false a i ie.size l) (gh g):=by have:=hd1.aJ g;rw [hog] at this;exact this
  obtain ⟨c1,hc1,YE,ho1,hr1,hcell1⟩:=(GR hsm hO1 m hm).cells (Pg:=Pg)
  rw [wL _ _ _ _ _ bc] at hc1
  have hx1:ng { w with drawn:=w.drawn+1 } (E.ok st gh { w with drawn:=w.drawn+1 } a' i') ie.size new (.slice ao new.length cap):=
   ⟨ao,cap,rfl,fun hne=>let ⟨b,o,e1,e2⟩:=hnew hne;⟨b,o,e1,fun n x hx=>⟨(e2 n x hx).1,fun j y hy=>let ⟨u,hu,GN⟩:=(e2 n x hx).2 j y hy;⟨u,hu,hl1.iY GN⟩⟩⟩⟩
  obtain ⟨c2,hc2,hl2,ho2,hr2,hcell2⟩:=hx1.cells (Pg:=Pg)
  have hlm:(l.take m).length=m:=by simp;omega
  rw [hlm] at hc1 YE
  obtain ⟨rest,newCap,k1,k2,k3⟩:=pX (ty:=ty) h0 h1 hs hxt he hc2 hc1 qQ hb hb0
  have GU:=hd1.kill g
  have hrows:=OX (w:={ w with drawn:=w.drawn+1 }) (ok1:=E.ok (st.au [(g,.none)] []) gh { w with drawn:=w.drawn+1 } a i) (ok2:=E.ok (st.au [(g,.none)] []) gh { w with drawn:=w.drawn+1 } a' i')
   (ok:=E.ok (st.au [(g,.none)] []) gh { w with drawn:=w.drawn+1 } (a||a') (i||i')) (sz:=ie.size) (l1:=l.take m) (l2:=new) (c1:=c1) (c2:=c2) (by rw [hlm];exact YE)
   (fun n x hx j y hy=>let ⟨u,hu,hr⟩:=hcell1 n x hx j y hy;⟨u,hu,GU.2.iY hr⟩) (fun n x hx j y hy=>let ⟨u,hu,hr⟩:=hcell2 n x hx j y hy;⟨u,hu,GU.2.iY hr⟩)
   (fun b hb=>Env.kC (by simp;exact fun h=>.inl h) (by simp;exact fun h=>.inl h) hb) (fun b hb=>Env.kC (by simp;exact fun h=>.inr h) (by simp;exact fun h=>.inr h) hb) hr1
  obtain ⟨aQ,m1,m2,m3,m4⟩:=Au GU.1 d (by simpa [St.au] using hd) (a||a') (i||i') ie.size (l.take m++new) (c1.toArray++c2.toArray++rest) e newCap hsm (by rw [hlen];exact k1) (by
    simp only [Array.size_append,List.size_toArray,YE,hl2,k2]
    rw [←Nat.add_mul,←Nat.add_mul];exact Nat.mul_le_mul_right _ (by omega)) (fun x hx=>by
    rcases List.mem_append.1 hx with hx | hx
    ·exact hr1 x hx
    ·exact hr2 x hx) (fun n x hx j y hy=>by
    obtain ⟨u,hu,hr⟩:=hrows n x hx j y hy
    refine ⟨u,?_,hr⟩
    have hlt:=(List.getElem?_eq_some_iff.1 hu).1
    rw [Array.getElem?_append_left (by simpa using hlt)]
    rw [List.append_toArray,List.getElem?_toArray];exact hu)
  rw [yQ st g d _ hgd] at m1 m2 m4
  refine ⟨_,_,aQ,k3,m1,Lets.trans (Lets.trans hl1 GU.2 (fun g hg=>hg)) m2 (fun g hg=>by simpa [St.au] using hg),by rw [m3,hlen]⟩
theorem MG (htt:fF Pg tt) (args:Array Operand) (ts:Array TypeId):dD Pg tt (.call { callee:=.builtin .append,args:=args,argTypes:=ts }):=by
 intro E st gh val w ρ F o d r ho h hF hFn hk hp hd
 simp only [kernel] at hk
 split at hk
 ·rename_i s x sT xT tl ha hts
  obtain rfl:=pU ha
  have h0:ts[0]?=some sT:=by rw [←Array.getElem?_toList,hts];rfl
  have h1:ts[1]?=some xT:=by rw [←Array.getElem?_toList,hts];rfl
  split at hk
  ·rename_i e' _ _ _ s' x' hxt hs hx
   have rs:=hF s;rw [hs] at rs
   have rx:=hF x;rw [hx] at rx
   have huX:=(htt _ _ hxt).kind
   simp only [lT] at huX
   unfold uy at hk
   split at hk
   ·rename_i e _ _ _ hsT
    have huS:=(htt _ _ hsT).kind
    simp only [lT] at huS
    split at hk
    ·rename_i ie he
     split at hk
     ·cases hk
     ·rename_i hb0
      split at hk
      ·cases hk
      ·rename_i ask new a' i' hrows
       have hfin :∀(v:Value) (w':World) (aQ:Nat→Gh) (a i:Bool) (old:List (List P)) (kill:List (Nat×O)),(Builtin.append_ ts o.type #[ρ s,ρ x]).run Pg w=.ok v w'→
         Rel E (st.au (kill++[(d,.arr false (a||a') (i||i') ie.size (old++new))]) [d]) aQ val w'→Lets E st (st.au (kill++[(d,.arr false (a||a') (i||i') ie.size (old++new))]) [d]) gh aQ w w'→
         ((st.au (kill++[(d,.arr false (a||a') (i||i') ie.size (old++new))]) [d]).o d=.arr false (a||a') (i||i') ie.size (old++new))→v=.slice (aQ d).ad (old++new).length (aQ d).cap→
         ∃v w' aQ,Does Pg (execOp ρ o) w v w'∧Rel E (st.au (kill++[(d,.arr false (a||a') (i||i') ie.size (old++new))]) [d]) aQ val w'∧Lets E st (st.au (kill++[(d,.arr false (a||a') (i||i') ie.size (old++new))]) [d]) gh aQ w w'∧
          bD E (st.au (kill++[(d,.arr false (a||a') (i||i') ie.size (old++new))]) [d]) aQ w' (.v (.one (.own d))) v∧
          ∀g∈(S.v (.one (.own d))).names,(st.au (kill++[(d,.arr false (a||a') (i||i') ie.size (old++new))]) [d]).used g=true:=by
        intro v w' aQ a i old kill hr h2 h3 hod hv
        refine ⟨v,w',aQ,.inl (gW ho ?_),h2,h3,bD.E_ (.own d v (by rw [hv];rfl) fun sz1 len1 ho1 => ?_),fun g hg => ?_⟩
        ·simp [builtin,hr]
        ·rw [hod] at ho1;obtain ⟨rfl,rfl⟩:=O.iG ho1;rw [hv,fB (htt _ _ he).small,fD (htt _ _ he).small]
        ·rw [bU] at hg
         simp only [W.names,List.mem_singleton] at hg
         subst hg;simp [St.au]
       simp only at hk
       split at hk
       ·simp only [Option.some.injEq] at hk;subst hk
        obtain ⟨hask,_,hb⟩:=hp
        have hX:=wK h rx.bC (htt _ _ he).small hrows hask
        have D5:st.used d=false:=hd d (by simp)
        have hv:ρ s=.slice none 0 0:=by generalize hz:ρ s=z at rs;cases rs.bC;rfl
        by_cases hn:new=[]
        ·subst hn
         obtain ⟨ao,cap,YF,_⟩:=hX
         have hX:ng w (E.ok st gh w a' i') ie.size [] (ρ x):=⟨ao,cap,YF,fun hne=>absurd rfl hne⟩
         obtain ⟨c2,hc2,hl2,ho2,hr2,hcell2⟩:=hX.cells (Pg:=Pg)
         have ai0:c2=[]:=List.eq_nil_of_length_eq_zero (by simpa using hl2)
         subst ai0
         have hmk:=Rel.OC h d D5 (false||a') (false||i') ie.size (htt _ _ he).small
         refine hfin (.slice none (0+0) 0) w _ false false [] [] ?_ (by simpa using hmk.1) (by simpa using hmk.2) (by simp [St.au,List.lookup]) (by simp [dH,Gh.nil])
         rw [hv,YF]
         rw [YF] at hc2
         exact jB h0 h1 huS huX (htt _ _ he) (by simpa using hc2) (by simp) (fun a ha=>by cases ha) (fun _=>rfl)
        ·obtain ⟨ao,cap,YF,hnew⟩:=hX
         have hl1:Lets E st st gh gh w { w with drawn:=w.drawn+1 }:=Rel.CJ _
         have hd1:=h.drew (w.drawn+1)
         have hx1:ng { w with drawn:=w.drawn+1 } (E.ok st gh { w with drawn:=w.drawn+1 } a' i') ie.size new (.slice ao new.length cap):=
          ⟨ao,cap,rfl,fun hne=>let ⟨b,o,e1,e2⟩:=hnew hne;⟨b,o,e1,fun n x hx=>⟨(e2 n x hx).1,fun j y hy=>let ⟨u,hu,GN⟩:=(e2 n x hx).2 j y hy;⟨u,hu,hl1.iY GN⟩⟩⟩⟩
         obtain ⟨c2,hc2,hl2,ho2,hr2,hcell2⟩:=hx1.cells (Pg:=Pg)
         have hpos:0<new.length:=List.length_pos_iff.2 hn
         obtain ⟨rest,newCap,k1,k2,k3⟩:=pX (w:=w) (ts:=ts) (ty:=o.type) h0 h1 huS huX (htt _ _ he) (base:=none) (sLen:=0) (sCap:=0) (c1:=#[]) hc2 (by simp [Builtin.firstCells]) (by omega) (by simpa using hb) hb0
         obtain ⟨aQ,m1,m2,m3,m4⟩:=Au hd1 d D5 (false||a') (false||i') ie.size ([]++new) (#[]++c2.toArray++rest) e newCap (htt _ _ he).small (by simpa using k1) (by
           simp only [Array.size_append,List.size_toArray,hl2,k2,List.size_toArray,List.length_nil,Nat.zero_add]
           rw [←Nat.add_mul];exact Nat.mul_le_mul_right _ (by omega)) (fun x hx=>hr2 x (by simpa using hx)) (fun n x hx j y hy=>by
           obtain ⟨u,hu,hr⟩:=hcell2 n x (by simpa using hx) j y hy
           have hlt:=(List.getElem?_eq_some_iff.1 hu).1
           refine ⟨u,?_,by simpa using hr⟩
           rw [Array.getElem?_append_left (by simpa using hlt)]
           simpa using hu)
         refine hfin _ _ aQ false false [] [] (by rw [hv,YF];exact k3) (by simpa using m1) (Lets.trans hl1 (by simpa using m2) (fun g hg=>hg)) (by simpa using m4) (by rw [m3];simp)
       ·rename_i g
        split at hk
        ·rename_i a i sz l hog
         split at hk
         ·rename_i hc
          simp only [Option.some.injEq] at hk;subst hk
          obtain ⟨hask,_,hb⟩:=hp
          have hX:=wK h rx.bC (htt _ _ he).small hrows hask
          have D5:st.used d=false:=hd d (by simp)
          have hsm:sz<MB:=by rw [hc.1];exact (htt _ _ he).small
          have hv:=(by cases rs.bC with | own _ _ _ hb=>exact (hb _ _ (O.iq hog)).trans ((fD hsm).trans (by rw [fB hsm])):ρ s=.slice (gh g).ad l.length (gh g).cap)
          obtain ⟨v,w',aQ,q1,q2,q3,q4⟩:=D6 (ty:=o.type) h D5 hog l.length (Nat.le_refl _) (by rw [hc.1];exact hX) h0 h1 huS huX (htt _ _ he) hc.1 hb hb0 (bc:=(gh g).cap) ⟨by have:=(uF (h.aJ g) (O.iq hog)).1;rwa [fB hsm] at this,Nat.le_refl _⟩
          rw [List.take_length,hc.1] at q2 q3
          rw [List.take_length] at q4
          have hgd:(d==g)=false:=by simpa using (fun e:d=g=>hc.2 e.symm)
          exact hfin v w' aQ a i l [(g,.none)] (by rw [hv];exact q1) q2 q3 (by simp [St.au,List.lookup,hgd]) q4
         ·cases hk
        ·cases hk
       ·rename_i g lo hi
        split at hk
        ·rename_i a i sz l hog
         split at hk
         ·rename_i hc
          simp only [Option.some.injEq] at hk;subst hk
          obtain ⟨hask,hlo,hb⟩:=hp
          have hX:=wK h rx.bC (htt _ _ he).small hrows hask
          have D5:st.used d=false:=hd d (by simp)
          have hsm:sz<MB:=by rw [hc.1];exact (htt _ _ he).small
          obtain ⟨n,m,vc,h4,rfl,h5,h6,hvc,hv⟩:=(by cases rs.bC with | vw _ _ _ _ _ hb=>have:=hb _ _ (O.iq hog);rwa [fB hsm] at this :∃n m c:Nat,lo=.int .i64 n∧hi=.int .i64 m∧n≤m∧m≤l.length∧(m-n≤c∧n+c≤(gh g).cap)∧
           ρ s=.slice (if (gh g).cap=n then (gh g).ad else (gh g).ad.map (·.add (n*sz))) (m-n) c)
          have hn0:n=0:=by rw [hlo] at h4;simp [jJ] at h4;omega
          subst hn0
          have hadd:(gh g).ad.map (·.add (0*sz))=(gh g).ad:=by
           cases (gh g).ad with
           |none=>rfl
           |some a=>simp [Addr.add]
          rw [hadd] at hv
          simp only [ite_self,Nat.sub_zero] at hv
          have e2:(P.int .i64 (m:Int)).nat=m:=by simp [P.nat,P.num]
          rw [e2] at hb ⊢
          have hb':(m+new.length)*ie.bytes≤140737488355328:=by rw [List.length_take,Nat.min_eq_left h6] at hb;exact hb
          obtain ⟨v,w',aQ,q1,q2,q3,q4⟩:=D6 (ty:=o.type) h D5 hog m h6 (by rw [hc.1];exact hX) h0 h1 huS huX (htt _ _ he) hc.1 hb' hb0 (bc:=vc) (by omega)
          rw [hc.1] at q2 q3
          have hgd:(d==g)=false:=by simpa using (fun e:d=g=>hc.2 e.symm)
          exact hfin v w' aQ a i (l.take m) [(g,.none)] (by rw [hv];exact q1) q2 q3 (by simp [St.au,List.lookup,hgd]) q4
         ·cases hk
        ·cases hk
       ·cases hk
    ·cases hk
   ·cases hk
  ·cases hk
 ·cases hk
theorem qR {α:Type} {x:α} {ws:List α} :∀{n:Nat},x∈dZ ws n→x∈ws
 |0,h=>by simp [dZ] at h
 |n+1,h=>by
  simp only [dZ,List.mem_append] at h
  rcases h with h | h
  ·exact h
  ·exact qR h
theorem MH {z:Array Value} {zs:List Value} (hz:z.toList=zs) (n:Nat) (h0:0<zs.length):Builtin.zeroCells z n=(dZ zs n).toArray:=by
 have:=lX hz n h0
 have hsz:z.size=zs.length:=by rw [←hz];simp
 unfold Builtin.zeroCells
 rw [hsz]
 rw [hsz] at this
 exact this
theorem OY (htt:fF Pg tt) (args:Array Operand) (ts:Array TypeId):dD Pg tt (.call { callee:=.builtin .clear,args:=args,argTypes:=ts }):=by
 intro E st gh val w ρ F o d r ho h hF hFn hk hp hd
 simp only [kernel] at hk
 split at hk
 ·rename_i x t tl ha hts
  obtain rfl:=zl ha
  have h0:ts[0]?=some t:=by rw [←Array.getElem?_toList,hts];rfl
  unfold LW at hk
  split at hk
  ·rename_i e _ _ _ g lo hi ht hx
   have rx:=hF x;rw [hx] at rx
   have hu:=(htt _ _ ht).kind
   simp only [lT] at hu
   split at hk
   ·rename_i ie a i sz l he hog
    split at hk
    ·rename_i hsz
     split at hk
     ·rename_i ps hps
      simp only [Option.some.injEq] at hk;subst hk
      obtain ⟨rfl,hpos⟩:=hsz
      have hsm:=(htt _ _ he).small
      obtain ⟨n,m,vc,rfl,rfl,h1,h2,hvc,hv⟩:=(by cases rx.bC with | vw _ _ _ _ _ hb=>have:=hb _ _ (O.iq hog);rwa [fB hsm] at this :∃n m c:Nat,lo=.int .i64 n∧hi=.int .i64 m∧n≤m∧m≤l.length∧(m-n≤c∧n+c≤(gh g).cap)∧
       ρ x=.slice (if (gh g).cap=n then (gh g).ad else (gh g).ad.map (·.add (n*ie.size))) (m-n) c)
      have e1:(P.int .i64 (n:Int)).nat=n:=by simp [P.nat,P.num]
      have e2:(P.int .i64 (m:Int)).nat=m:=by simp [P.nat,P.num]
      simp only [e1,e2] at hp ⊢
      obtain ⟨z,hz,hzc,_⟩:=iZ (Pg:=Pg) (w:=w) (htt _ _ he)
      obtain ⟨hone,hl,hr⟩:=nY (E:=E) (st:=st) (gh:=gh) (w:=w) (htt _ _ he)
      have hzl:=(htt _ _ he).len
      obtain ⟨q0,q1,q2⟩:=pV h hl hr hps
      have hreads:=q2 st (by simp) h ⟨fun a i b hb=>⟨hb,rfl⟩,fun g _=>.inr ⟨⟨rfl,rfl⟩,O.dM _⟩⟩
      have hpl:ps.length=ie.size:=by rw [q0,hl,hzl]
      have hO:dw E st gh w a i ie.size l (gh g):=by have:=h.aJ g;rw [hog] at this;exact this
      have hcells:=MH hzc (m-n) (by rw [hzl];exact hpos)
      rcases dw.old hsm hO with ⟨z1,z2,z3⟩ | ⟨ad,c,e0,z1,z2,z3,z4,z5,z6,z7⟩
      ·subst z3;simp at h2;omega
      ·obtain ⟨b0,o0,sp0⟩:=ad
       simp only at z2 z3 z4 z7;subst z2
       have hlr:(dZ ie.zero (m-n)).length=(m-n)*ie.size:=by rw [bT,hzl]
       have hms:n*ie.size+(m-n)*ie.size≤(gh g).cap*ie.size:=by rw [←Nat.add_mul];exact Nat.mul_le_mul_right _ (by have:=z5.1;omega)
       obtain ⟨w',c',s1,s2,s3,s4,s5,s6,s7,s8⟩:=iE (Pg:=Pg) b0 (o0+n*ie.size) e0 (dZ ie.zero (m-n)) 0 w c z3 (fun v hv=>hone v (qR hv)) (by rw [hlr];omega)
       have sW:c'.size=c.size:=by
        have:=congrArg List.length s3
        rw [bK (by simp [hlr];omega)] at this;simpa using this
       have hrl:n+(List.replicate (m-n) ps).length≤l.length:=by simp;omega
       have hlen:(aA l n (List.replicate (m-n) ps)).length=l.length:=bK hrl
       have hwr:=Rel.write h g ⟨b0,o0,none⟩ (by rw [hog];rfl) z1 (.arr false a i ie.size (aA l n (List.replicate (m-n) ps))) (by rw [hog];exact ⟨rfl,by simp only [ml,hlen]⟩) w' s4 s5 s6 s7 s8 rfl
        (fun i' hi'=>by rw [hog];exact ⟨i',hi',fun q=>q⟩) (fun _=>by rw [hog];rfl) (fun hlets=>by
        refine dw.of hsm (.inr ⟨⟨b0,o0,none⟩,c',e0,z1,rfl,s2,by rw [sW];exact z4,⟨by rw [hlen];exact z5.1,z5.2⟩,fun x hx => ?_,fun q x hx j y hy => ?_⟩)
        ·unfold aA at hx
         rcases List.mem_append.1 hx with hx | hx
         ·rcases List.mem_append.1 hx with hx | hx
          ·exact z6 x (List.mem_of_mem_take hx)
          ·rw [List.mem_replicate] at hx;rw [hx.2,hpl]
         ·exact z6 x (List.mem_of_mem_drop hx)
        ·have hget:c'[o0+q*ie.size+j]?=(aA c.toList (o0+n*ie.size) (dZ ie.zero (m-n)))[o0+q*ie.size+j]?:=by rw [←Array.getElem?_toList,s3,Nat.add_zero]
         rw [cu (by simp [hlr];omega),hlr] at hget
         rw [cu hrl,List.length_replicate] at hx
         split at hx
         ·rename_i hq
          rw [List.getElem?_replicate,if_pos (by omega)] at hx
          simp only [Option.some.injEq] at hx;subst hx
          have hj:j<ie.size:=by have:=(List.getElem?_eq_some_iff.1 hy).1;omega
          have k1:n*ie.size≤q*ie.size:=Nat.mul_le_mul_right _ hq.1
          have k2:(q-n+1)*ie.size≤(m-n)*ie.size:=Nat.mul_le_mul_right _ (by omega)
          have k3:q*ie.size=n*ie.size+(q-n)*ie.size:=by rw [←Nat.add_mul];congr 1;omega
          rw [Nat.add_mul,Nat.one_mul] at k2
          rw [if_pos (by omega)] at hget
          have e3:o0+q*ie.size+j-(o0+n*ie.size)=(q-n)*ie.size+j:=by omega
          have hlt:(q-n)*ie.size+j<(m-n)*ie.zero.length:=by rw [hzl];omega
          have hmod:((q-n)*ie.size+j) % ie.zero.length=j:=by rw [hzl,Nat.mul_comm,Nat.mul_add_mod,Nat.mod_eq_of_lt hj]
          have hz':ie.zero[j]?=some ie.zero[j]:=List.getElem?_eq_getElem (by omega)
          rw [e3,gy _ _ _ hlt,hmod,hz'] at hget
          exact ⟨ie.zero[j],hget,(hlets.iY (hreads j y _ hy hz')).mono fun b hb=>⟨⟨hb.1.elim (fun q=>by cases q.1) (fun q=>q.elim (fun q=>by cases q.1) (fun q=>.inr (.inr q))),hb.2⟩,rfl⟩⟩
         ·rename_i hq
          obtain ⟨v,hv,WM⟩:=z7 q x hx j y hy
          have hj:j<ie.size:=by have:=(List.getElem?_eq_some_iff.1 hy).1;have:=z6 x (List.mem_of_getElem? hx);omega
          have hne:¬ (o0+n*ie.size≤o0+q*ie.size+j∧o0+q*ie.size+j<o0+n*ie.size+(m-n)*ie.size):=by
           intro hc
           rcases Nat.lt_or_ge q n with hqn | hqn
           ·have:(q+1)*ie.size≤n*ie.size:=Nat.mul_le_mul_right _ hqn
            rw [Nat.add_mul,Nat.one_mul] at this;omega
           ·have hqm:m≤q:=by omega
            have k1:m*ie.size≤q*ie.size:=Nat.mul_le_mul_right _ hqm
            have k2:m*ie.size=n*ie.size+(m-n)*ie.size:=by rw [←Nat.add_mul];congr 1;omega
            omega
          rw [if_neg hne] at hget
          exact ⟨v,by rw [hget];simpa using hv,hlets.iY WM⟩) (fun g' hg'=>by simp [O.names] at hg')
       refine ⟨.tuple #[],w',gh,.inl (gW ho ?_),by simpa [P.list] using hwr.1,by simpa [P.list] using hwr.2,.no _,fun g hg=>by cases hg⟩
       obtain ⟨k,hk⟩ :∃k,m-n=k+1:=⟨m-n-1,by omega⟩
       have hne:¬ (gh g).cap=n:=by have:=z5.1;omega
       rw [if_neg hne,z1,Option.map_some,Addr.fK] at hv
       have hst:(storeCells ⟨b0,o0+n*ie.size,none⟩ (dZ ie.zero (m-n))).run Pg w=.ok () w':=s1
       have hcl:(Builtin.clear_ ts o.type #[ρ x]).run Pg w=.ok (.tuple #[]) w':=by
        rw [hv,hk]
        rw [hk] at hcells hst
        simp [Builtin.clear_,h0,bP hu,hz,hcells,hst,Result.andThen]
       simp [builtin,hcl]
     ·cases hk
    ·cases hk
   ·cases hk
  ·cases hk
 ·cases hk
theorem RG (htt:fF Pg tt) (args:Array Operand) (ts:Array TypeId):dD Pg tt (.call { callee:=.builtin .copy,args:=args,argTypes:=ts }):=by
 intro E st gh val w ρ F o d r ho h hF hFn hk hp hd
 simp only [kernel] at hk
 split at hk
 ·rename_i x y t tl ha hts
  obtain rfl:=pU ha
  have h0:ts[0]?=some t:=by rw [←Array.getElem?_toList,hts];rfl
  unfold UD at hk
  split at hk
  ·rename_i e _ _ _ g a' i' z ht hx hy
   have rx:=hF x;rw [hx] at rx
   have ry:=hF y;rw [hy] at ry
   have hu:=(htt _ _ ht).kind
   simp only [lT] at hu
   split at hk
   ·rename_i ie a i sz l he hog
    split at hk
    ·rename_i hsz
     simp only [Option.some.injEq] at hk;subst hk
     obtain ⟨rfl,hpos⟩:=hsz
     obtain ⟨hask,hle⟩:=hp
     have hsm:=(htt _ _ he).small
     have hX:=wK h ry.bC hsm (sz:=ie.size) (l:=z.list) rfl hask
     have hv:=(by cases rx.bC with | own _ _ _ hb=>exact (hb _ _ (O.iq hog)).trans ((fD hsm).trans (by rw [fB hsm])):ρ x=.slice (gh g).ad l.length (gh g).cap)
     obtain ⟨ao,cap,hvy,hnew⟩:=hX
     have hX:ng w (E.ok st gh w a' i') ie.size z.list (ρ y):=⟨ao,cap,hvy,hnew⟩
     obtain ⟨c2,hc2,hl2,ho2,hr2,hcell2⟩:=hX.cells (Pg:=Pg)
     have hO:dw E st gh w a i ie.size l (gh g):=by have:=h.aJ g;rw [hog] at this;exact this
     have hrun :∀w',(∀ad,(gh g).ad=some ad→(storeCells ad c2).run Pg w=.ok () w')→((gh g).ad=none→w'=w)→(Builtin.copy_ ts o.type #[ρ x,ρ y]).run Pg w=.ok (goInt z.list.length) w':=by
      intro w' q1 q2
      have hmin:Nat.min z.list.length l.length=z.list.length:=Nat.min_eq_left hle
      rw [hvy] at hc2
      rw [hv,hvy]
      cases had:(gh g).ad with
      |none=>
       rw [q2 had]
       simp [Builtin.copy_,h0,bP hu,Builtin.lenOf,hmin,bM (htt _ _ he),hc2,Result.andThen]
      |some ad=>
       have q:=q1 ad had
       simp [Builtin.copy_,h0,bP hu,Builtin.lenOf,hmin,bM (htt _ _ he),hc2,q,Result.andThen]
     have hdone :∀w',(Builtin.copy_ ts o.type #[ρ x,ρ y]).run Pg w=.ok (goInt z.list.length) w'→Does Pg (execOp ρ o) w (goInt z.list.length) w':=fun w' q=>.inl (gW ho (by simp [builtin,q]))
     rcases dw.old hsm hO with ⟨z1,z2,z3⟩ | ⟨ad,c,e0,z1,z2,z3,z4,z5,z6,z7⟩
     ·subst z3
      have hz0:z.list=[]:=List.eq_nil_of_length_eq_zero (by simpa using hle)
      have hg0:(st.o g).aX=true:=by rw [hog];rfl
      have hsub:=h.ns g hg0 (by rw [hog];rfl)
      have hm:=h.merge (fun _=>False) g (.arr false (a||a') (i||i') ie.size []) (gh g) (st.au [(g,.arr false (a||a') (i||i') ie.size [])] []) w rfl qO.1 (fun g h=>h.elim) (fun g _ hg=>qO.2 g hg) (fun g hg=>by simp [St.au,hg]) (by simp [St.au];exact h.ul g (O.lV hg0))
       (fun _=>⟨⟨rfl,rfl⟩,by rw [hog];exact ⟨rfl,rfl⟩⟩) (fun b hb=>.inl ⟨g,.inr rfl,hg0,hb⟩) (fun b _ _=>rfl) (Nat.le_refl _) rfl rfl rfl
       (fun i b hi hb hwr=>by
        rcases hb with ⟨ad',q1,q2⟩ | q1
        ·rw [z1] at q1;cases q1
        ·rw [hsub b] at q1;cases q1) (fun _ _=>hsub) (fun _=>dw.of hsm (.inl ⟨z1,z2,rfl⟩)) (fun g' hg'=>by simp [O.names] at hg')
      rw [zh] at hm
      refine ⟨_,w,gh,hdone w (hrun w (fun ad q=>by rw [z1] at q;cases q) fun _=>rfl),?_,?_,.no _,fun g hg=>by cases hg⟩
      ·show Rel E (st.au [(g,.arr false (a||a') (i||i') ie.size (z.list++List.drop z.list.length []))] []) gh val w
       rw [hz0];exact hm.1
      ·show Lets E st (st.au [(g,.arr false (a||a') (i||i') ie.size (z.list++List.drop z.list.length []))] []) gh gh w w
       rw [hz0];exact hm.2
     ·obtain ⟨b0,o0,sp0⟩:=ad
      simp only at z2 z3 z4 z7;subst z2
      have hms:z.list.length*ie.size≤(gh g).cap*ie.size:=Nat.mul_le_mul_right _ (by have:=z5.1;omega)
      obtain ⟨w',c',s1,s2,s3,s4,s5,s6,s7,s8⟩:=iE (Pg:=Pg) b0 o0 e0 c2 0 w c z3 ho2 (by omega)
      have sW:c'.size=c.size:=by
       have:=congrArg List.length s3
       rw [bK (by simp;omega)] at this;simpa using this
      have hlen:(z.list++l.drop z.list.length).length=l.length:=by simp;omega
      have hwr:=Rel.write h g ⟨b0,o0,none⟩ (by rw [hog];rfl) z1 (.arr false (a||a') (i||i') ie.size (z.list++l.drop z.list.length)) (by rw [hog];exact ⟨rfl,by simp only [ml,hlen]⟩) w' s4 s5 s6 s7 s8 rfl
       (fun i' hi'=>by rw [hog];cases hi';exact ⟨i,rfl,fun q=>by simp [q]⟩) (fun _=>by rw [hog];rfl) (fun hlets=>by
       refine dw.of hsm (.inr ⟨⟨b0,o0,none⟩,c',e0,z1,rfl,s2,by rw [sW];exact z4,⟨by rw [hlen];exact z5.1,z5.2⟩,fun x hx => ?_,fun q x hx j y hy => ?_⟩)
       ·rcases List.mem_append.1 hx with hx | hx
        ·exact hr2 x hx
        ·exact z6 x (List.mem_of_mem_drop hx)
       ·have hget:c'[o0+q*ie.size+j]?=(aA c.toList o0 c2)[o0+q*ie.size+j]?:=by rw [←Array.getElem?_toList,s3,Nat.add_zero]
        rw [cu (by simp;omega)] at hget
        rw [List.getElem?_append] at hx
        split at hx
        ·rename_i hq
         obtain ⟨u,hu,hur⟩:=hcell2 q x hx j y hy
         have L9:=(List.getElem?_eq_some_iff.1 hu).1
         rw [if_pos (by omega)] at hget
         have e1:o0+q*ie.size+j-o0=q*ie.size+j:=by omega
         rw [e1] at hget
         exact ⟨u,by rw [hget];exact hu,(hlets.iY hur).mono fun b hb=>⟨Env.kC (by simp;exact fun h=>.inr h) (by simp;exact fun h=>.inr h) hb,rfl⟩⟩
        ·rename_i hq
         have hqz:z.list.length≤q:=by omega
         rw [List.getElem?_drop] at hx
         have e2:z.list.length+(q-z.list.length)=q:=by omega
         rw [e2] at hx
         obtain ⟨v,hv,WM⟩:=z7 q x hx j y hy
         have hj:j<ie.size:=by have:=(List.getElem?_eq_some_iff.1 hy).1;have:=z6 x (List.mem_of_getElem? hx);omega
         have:z.list.length*ie.size≤q*ie.size:=Nat.mul_le_mul_right _ hqz
         rw [if_neg (by omega)] at hget
         exact ⟨v,by rw [hget];simpa using hv,(hlets.iY WM).mono fun b hb=>⟨Env.kC (by simp;exact fun h=>.inl h) (by simp;exact fun h=>.inl h) hb,rfl⟩⟩) (fun g' hg'=>by simp [O.names] at hg')
      refine ⟨_,w',gh,hdone w' (hrun w' (fun ad q=>by rw [z1] at q;cases q;exact s1) fun q=>by rw [z1] at q;cases q),by simpa [P.list] using hwr.1,by simpa [P.list] using hwr.2,.no _,fun g hg=>by cases hg⟩
    ·cases hk
   ·cases hk
  ·cases hk
 ·cases hk
theorem JB {Pg:Program} {tt:TT} (htt:fF Pg tt) (s t:TypeId) (x:Operand):dD Pg tt (.convert s t x):=by
 intro E st gh val w ρ F o d r ho h hF hFn hk hp hd
 simp only [kernel] at hk
 split at hk
 ·rename_i k1 _ _ _ k2 _ _ _ a i x' hs ht hx
  simp only [Option.some.injEq] at hk;subst hk
  have rx:=hF x;rw [hx] at rx
  have rx:=rx.dF
  have us:=(htt _ _ hs).kind
  have ut:=(htt _ _ ht).kind
  simp only [lT] at us ut
  cases x' with
  |int k n=>
   have e:=rx.cZ
   have hr:(convert s t (ρ x)).run Pg w=.ok (.int k2 (k2.wrap n)) w:=by rw [e];simp [convert,bP us,bP ut,Conv.intToInt]
   exact eX (tt:=tt) h (by unfold execOp;rw [ho];exact eG hr) fun ok=>.int _ _
  |_=>exact hp.elim
 ·rename_i e _ _ _ _ _ _ x' hs ht hx
  split at hk
  ·rename_i _ _ _ he
   split at hk
   ·rename_i ask l a1 i1 hr
    simp only [Option.some.injEq] at hk;subst hk
    obtain ⟨hask,hby⟩:=hp
    have rx:=hF x;rw [hx] at rx
    have hX:=wK h rx.bC (by decide) hr hask
    have us:=(htt _ _ hs).kind
    have ut:=(htt _ _ ht).kind
    have ue:=(htt _ _ he).kind
    simp only [lT] at us ut ue
    obtain ⟨ao,len,cap,hv,hcells⟩:=hX.bytes (Pg:=Pg) hby
    have hr:(convert s t (ρ x)).run Pg w=.ok (.string ⟨(l.map fun r=>UInt8.ofNat ((r.getD 0 default).num.toNat)).toArray⟩) w:=by
     rw [hv,run_convert_bytes_string w s t e ao len cap us ue ut]
     exact hcells
    exact eX (tt:=tt) h (by unfold execOp;rw [ho];exact eG hr) fun ok=>.str _
   ·cases hk
  ·cases hk
 ·rename_i e _ _ _ _ _ x' hs ht hx
  split at hk
  ·rename_i _ _ _ he
   simp only [Option.some.injEq] at hk;subst hk
   have rx:=hF x;rw [hx] at rx
   have us:=(htt _ _ hs).kind
   have ut:=(htt _ _ ht).kind
   have ue:=(htt _ _ he).kind
   simp only [lT] at us ut ue
   cases x' with
   |str bs=>
    have hv:ρ x=.string bs:=by
     have:=rx.dF
     generalize ρ x=z at this
     cases this;rfl
    have hr:(convert s t (ρ x)).run Pg w=.ok (.slice (some ⟨w.heap.size,0,none⟩) bs.size (grownCap w bs.size 0 e)) (Lib.bytesWorld w e bs):=by
     rw [hv];exact Lib.run_convert_string_bytes w s t e bs us ut ue
    have hrel:=h.fresh (Lib.bytesWorld w e bs) (Lib.bytesWorld_at_old w e bs) (by rw [Lib.bytesWorld_size];omega) rfl rfl rfl
    have hl:bs.data.toList.length=bs.size:=rfl
    refine ⟨_,_,gh,.inl (by unfold execOp;rw [ho];exact eG hr),hrel.1,hrel.2,bD.ofP ?_,fun g hg=>by simp [Ae.calc,scalar,S.names,V.names,W.names] at hg⟩
    show aU _ _ (P.dX 1 (bs.data.toList.map fun b=>[P.int .u8 b.toNat])) _
    have hsz:bs.size=(bs.data.toList.map fun b=>[P.int .u8 (b.toNat:Int)]).length:=by rw [List.length_map];rfl
    have key:=aU.sl (w:=Lib.bytesWorld w e bs) (ok:=E.ok st gh (Lib.bytesWorld w e bs) false false) 1 (bs.data.toList.map fun b=>[P.int .u8 (b.toNat:Int)]) ⟨w.heap.size,0,none⟩ (grownCap w bs.size 0 e)
     (fun i _=>.int .u8 (bs.data.toList.getD i 0).toNat) rfl (fun _=>⟨.inr (.inr (.inl h.size)),by rw [Lib.bytesWorld_size];exact Nat.lt_succ_self _,fun g ho hb=>Nat.lt_irrefl _ (h.wr g _ ho hb).2⟩) (by rw [←hsz];exact grownCap_ge _ _ _ _) (fun x hx=>by
      obtain ⟨b,_,rfl⟩:=List.mem_map.1 hx;rfl) (fun i x hx j y hy=>by
      have hi:i<bs.size:=by have:=(List.getElem?_eq_some_iff.1 hx).1;simpa using this
      have hj:j=0:=by
       simp only [List.getElem?_map,Option.map_eq_some_iff] at hx
       obtain ⟨b,_,rfl⟩:=hx
       cases j with
       |zero=>rfl
       |succ j=>simp at hy
      subst hj
      have:=Lib.bytesWorld_cell w e bs i hi
      simpa using this) (fun i x hx j y hy=>by
      simp only [List.getElem?_map,Option.map_eq_some_iff] at hx
      obtain ⟨b,hb,rfl⟩:=hx
      cases j with
      |zero=>
       simp only [List.getElem?_cons_zero,Option.some.injEq] at hy;subst hy
       have:bs.data.toList.getD i 0=b:=by rw [List.getD_eq_getElem?_getD,hb];rfl
       rw [this];exact .int _ _
      |succ j=>simp at hy)
    rw [←hsz] at key
    exact aU.dX (by decide) key
   |_=>exact hp.elim
  ·cases hk
 ·cases hk
theorem MI (htt:fF Pg tt) (op:Op):dD Pg tt op:=by
 cases op with
 |move x=>exact Ru x
 |assign x=>exact LY x
 |pick c a b=>exact Rw c a b
 |alloc t=>exact OL htt t
 |box t x=>exact WL htt t x
 |build t ps=>exact OO htt t ps
 |buildSlice t n ps=>exact CG htt t n ps
 |load t x=>exact Rx htt t x
 |store t x y=>exact OQ htt t x y
 |nilCheck x=>exact Gu x
 |binOp op t x y u=>exact WC htt op t x y u
 |unOp op t x=>exact Yz op t x
 |convert s t x=>exact JB htt s t x
 |makeSlice t n c=>exact Fe htt t n c
 |makeMap t r=>
  cases r with
  |none=>exact JA htt t
  |some r=>intro E st gh val w ρ F o d r ho h hF hFn hk;simp [kernel] at hk
 |lookup t x k c=>exact MF htt t x k c
 |mapUpdate t m k y=>exact Fh htt t m k y
 |slice t x lo hi mx=>
  cases mx with
  |none=>exact OI htt t x lo hi
  |some m=>cases lo with
   |some l=>intro E st gh val w ρ F o d r ho h hF hFn hk;simp [kernel] at hk
   |none=>cases hi with
    |none=>intro E st gh val w ρ F o d r ho h hF hFn hk;simp [kernel] at hk
    |some hi=>exact L8 htt t x hi m
 |fieldAddr t x n=>exact Fa htt t x n
 |field t x n=>exact OH htt t x n
 |indexAddr t x ix=>exact Fb htt t x ix
 |index t x ix=>exact OE htt t x ix
 |range t x=>exact OM htt t x
 |extract t n=>exact Jz t n
 |makeFunc fn first caps=>
  cases fn with
  |func g=>exact Gw g first caps
  |_=>intro E st gh val w ρ F o d r ho h hF hFn hk;simp [kernel] at hk
 |call c=>
  obtain ⟨callee,args,ts⟩:=c
  cases callee with
  |builtin b=>
   cases b with
   |append=>exact MG htt args ts
   |clear=>exact OY htt args ts
   |copy=>exact RG htt args ts
   |len=>exact WG htt args ts
   |min=>exact WH args ts
   |max=>exact WI args ts
   |_=>intro E st gh val w ρ F o d r ho h hF hFn hk;simp [kernel] at hk
  |_=>intro E st gh val w ρ F o d r ho h hF hFn hk;simp [kernel] at hk
 |_=>intro E st gh val w ρ F o d r ho h hF hFn hk;simp [kernel] at hk
end
end Go.Fw

