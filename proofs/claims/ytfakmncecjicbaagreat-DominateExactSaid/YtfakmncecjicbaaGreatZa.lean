/-
  The framework (a machine on plain data that answers as the program does), part 1.
-/
import Derived.WalkKit
import Derived.Laws.StructEq
import Derived.ChangeKeysEq
import Derived.Lib.ConvBytes
import Derived.Laws.AppendOwn
import Derived.Laws.BytesString
set_option linter.unusedSimpArgs false
set_option linter.unusedVariables false
set_option linter.unusedSectionVars false
namespace Go
abbrev Q0:=@Option.some.injEq
abbrev Q1:=@Int.toNat_natCast
abbrev Q2:=@List.getD_eq_getElem?_getD
abbrev Q3:=@List.getElem?_eq_getElem
abbrev Q4:=@List.getElem?_eq_some_iff
abbrev Q6:=@List.mem_singleton
abbrev Qf:=@Nat.eq_of_beq_eq_true
abbrev Qt:=@if_pos
abbrev QP:=@Prod.mk.injEq
abbrev QQ:=@List.mem_append
abbrev QR:=@if_neg
abbrev X1:=@Bool.and_eq_true
abbrev X2:=@List.map_cons
abbrev Xs:=@List.mem_cons
abbrev XN:=@List.mem_map
abbrev XS:=@List.mem_append_left
abbrev XX:=@decide_eq_true_eq
abbrev Ys:=@List.mem_of_getElem?
abbrev YY:=@List.mem_flatMap
abbrev Z0:=@List.length_append
abbrev Z1:=@List.all_eq_true
abbrev Z2:=@List.getElem_mem
abbrev Z3:=@List.getElem?_map
abbrev Z6:=@List.map_append
abbrev Zs:=@Nat.mul_le_mul_right
abbrev ZD:=@Nat.le_refl
abbrev ZS:=@congrArg
abbrev ZZ:=@List.getElem?_take
abbrev W0:=@List.flatMap_cons
abbrev W2:=@Option.map_some
abbrev W3:=@List.length_singleton
abbrev W4:=@List.map_congr_left
abbrev W5:=@List.length_map
abbrev W6:=@List.mem_of_mem_take
abbrev W7:=@Option.map_eq_some_iff
abbrev W8:=@List.take_length
abbrev Wa:=@Bool.false_eq_true
abbrev Wb:=@List.getElem?_drop
abbrev Wc:=@decide_eq_true
abbrev We:=@List.mem_append_right
abbrev Wf:=@Nat.le_of_ble_eq_true
abbrev Wg:=@List.getElem?_append_right
abbrev Wl:=@Nat.add_mul
abbrev Wm:=@List.append_assoc
abbrev Wo:=@Array.getD_eq_getD_getElem?
abbrev Wt:=@List.getElem?_append_left
abbrev Wz:=@of_decide_eq_true
abbrev WD:=@Bool.not_eq_true'
abbrev WF:=@List.length_take
abbrev WK:=@List.mem_cons_of_mem
abbrev WN:=@Option.some.inj
abbrev WP:=@List.contains_eq_mem
abbrev V0:=@List.mem_range
abbrev V1:=@Nat.zero_add
abbrev V2:=@Classical.byContradiction
abbrev Vc:=@List.map_drop
abbrev Vi:=@Nat.lt_of_lt_of_le
abbrev Vn:=@decide_eq_false
abbrev Vv:=@List.eq_nil_of_length_eq_zero
abbrev VC:=@Array.getElem?_eq_some_iff
abbrev VM:=@List.map_take
abbrev VS:=@List.mem_iff_getElem?
abbrev VV:=@List.getElem?_cons_succ
abbrev Up:=@List.mem_of_mem_drop
abbrev Uq:=@Nat.add_zero
abbrev Uv:=@List.map_map
abbrev UB:=@List.getElem?_eq_none
abbrev UI:=@List.nodup_cons
abbrev UP:=@List.drop_left
abbrev US:=@Int.toNat_of_nonneg
abbrev UT:=@List.nodup_append
abbrev UV:=@Bool.or_eq_false_iff
abbrev UX:=@List.length_set
abbrev J0:=@Nat.le_trans
abbrev J1:=@Array.getElem?_toList
abbrev J2:=@List.getElem?_cons_zero
abbrev Jn:=@List.mem_filter
abbrev Jx:=@List.drop_append_of_le_length
abbrev JN:=@List.getElem_of_mem
abbrev JP:=@Nat.add_assoc
abbrev JS:=@Option.bind_eq_some_iff
abbrev K0:=@List.not_mem_nil
abbrev K1:=@Array.getElem?_append_left
abbrev K2:=@Bool.false_or
abbrev K3:=@Bool.or_eq_true
abbrev K4:=@List.getElem?_toArray
abbrev K5:=@List.take_append_drop
abbrev K6:=@List.take_append_of_le_length
abbrev K7:=@List.length_cons
abbrev K8:=@of_decide_eq_false
abbrev K9:=@List.getElem?_append
abbrev Ka:=@List.foldl_cons
abbrev Kb:=@List.map_nil
abbrev Kc:=@List.getElem?_set_self
abbrev Kd:=@Bool.true_and
abbrev Ke:=@List.cons_append
abbrev Kf:=@List.length_replicate
abbrev Kg:=@List.take_left
abbrev Ki:=@List.mem_of_find?_eq_some
abbrev Kk:=@Nat.one_mul
abbrev Kl:=@Option.map_none
abbrev Km:=@List.length_nil
abbrev Kn:=@List.getElem?_set_ne
abbrev Ks:=@List.Nodup.length_le_of_subset
abbrev Kx:=@List.getElem?_set
abbrev KB:=@Nat.lt_irrefl
abbrev KK:=@List.getElem?_replicate
abbrev KM:=@Array.getElem?_setIfInBounds
abbrev KS:=@List.mem_filterMap
abbrev KV:=@List.idxOf_lt_length_of_mem
abbrev qa:=@List.nil_append
abbrev qb:=@List.append_nil
abbrev qd:=@List.length_mergeSort
abbrev qf:=@List.length_filter_le
abbrev qi:=@List.getElem_take
abbrev qn:=@List.ext_getElem?
abbrev qq:=@List.size_toArray
abbrev qr:=@Array.getElem?_eq_getElem
abbrev qt:=@List.count_replicate
abbrev qu:=@List.range'_succ
abbrev qv:=@Nat.mod_eq_of_lt
abbrev qz:=@List.getElem?_range
abbrev qD:=@Nat.add_sub_cancel_left
abbrev qS:=@List.filter_cons_of_pos
abbrev qT:=@List.filter_cons_of_neg
abbrev v8:=@List.length_eq_zero_iff
abbrev va:=@List.filter_append
abbrev vb:=@Nat.zero_le
abbrev vd:=@Nat.mul_comm
abbrev ve:=@Array.getElem?_modify
abbrev vh:=@List.take_zero
abbrev vi:=@List.range_eq_range'
abbrev vj:=@List.any_eq_true
abbrev vl:=@Nat.le_of_not_lt
abbrev vm:=@List.contains_append
abbrev vn:=@List.ext_getElem
abbrev vo:=@List.getElem_inj
abbrev vp:=@List.perm_ext_iff_of_nodup
abbrev vq:=@List.length_pos_iff
abbrev vr:=@Nat.min_eq_left
abbrev vu:=@List.find?_some
abbrev vv:=@Nat.not_lt_zero
abbrev vz:=@List.mem_or_eq_of_mem_set
abbrev vA:=@Option.isSome_iff_exists
abbrev vB:=@Nat.eq_zero_or_pos
abbrev vD:=@List.eq_of_mem_replicate
abbrev vE:=@List.getElem_idxOf
abbrev vL:=@Array.getElem?_replicate
abbrev vQ:=@List.mapM_cons
abbrev vR:=@Bool.not_false
abbrev za:=@Array.size_append
abbrev zb:=@List.filter_cons
abbrev zc:=@List.flatMap_map
abbrev zd:=@Classical.choose_spec
abbrev ze:=@List.eq_nil_or_concat
abbrev zg:=@Nat.mul_add_mod
end Go
namespace Go.Fw
inductive P where
 |int (k:IntKind) (n:Int)
 |bool (b:Bool)
 |str (s:ByteArray)
 |sl (sz:Nat) (l:List (List P))
 |opq (v:Value)
 |seq (l:List (List P))
instance:Inhabited P:=⟨.bool false⟩
class dV where
 gt:Nat->Option (Nat×List (List P))
 sq:World->List Nat->List (List P)->Value->Prop
 VT :∀{w w':World} {S:List Nat} {l:List (List P)} {v:Value},(∀b∈S,w'.heap[b]?=w.heap[b]?)->sq w S l v->sq w' S l v
variable [dV]
def dV.has(g:Nat):Prop:=(dV.gt g).isSome=true
inductive bU(w:World)(ok:Nat->Prop):P->Value->Prop where
 |int (k:IntKind) (n:Int):bU w ok (.int k n) (.int k n)
 |bool (b:Bool):bU w ok (.bool b) (.bool b)
 |str (s:ByteArray):bU w ok (.str s) (.string s)
 |opq (v:Value) (h:v.oneCell'=true):bU w ok (.opq v) v
 |nil (sz:Nat) (ao:Option Addr) (cap:Nat):bU w ok (.sl sz []) (.slice ao 0 cap)
 |sl (sz:Nat) (l:List (List P)) (a:Addr) (cap:Nat) (f:Nat->Nat->Value) (hs:a.spot=none) (hok:0<sz->ok a.block) (hcap:l.length<=cap)
   (hlen :∀x∈l,x.length=sz)
   (hc :∀(i:Nat) x,l[i]?=some x->∀(j:Nat) y,x[j]?=some y->w.cell? ⟨a.block,a.off+i*sz+j,none⟩=some (f i j))
   (hr :∀(i:Nat) x,l[i]?=some x->∀(j:Nat) y,x[j]?=some y->bU w ok y (f i j)):bU w ok (.sl sz l) (.slice (some a) l.length cap)
 |seq (l:List (List P)) (v:Value) (S:List Nat) (hv:v.oneCell'=true) (hS :∀b∈S,ok b/\∃c e f,w.heap[b]?=some (.cells c e f)) (h:dV.sq w S l v):bU w ok (.seq l) v
theorem bU.mono{w w':World}{ok ok':Nat->Prop}(h :∀b,ok b->ok' b/\w'.heap[b]?=w.heap[b]?){x:P}{v:Value}(r:bU w ok x v):bU w' ok' x v:=by
 induction r with
 |int k n=>exact .int k n
 |bool b=>exact .bool b
 |str s=>exact .str s
 |opq v h=>exact .opq v h
 |nil sz ao cap=>exact .nil sz ao cap
 |sl sz l a cap f hs hok hcap hlen hc hr ih=>
  refine .sl sz l a cap f hs (λh0=>(h _ (hok h0)).1) hcap hlen (λi x hx j y hy=>?_) (λi x hx j y hy=>ih i x hx j y hy);rw[<-hc i x hx j y hy];have h0:0<sz:=by have:=hlen x (Ys hx);have:=(Q4.1 hy).1;omega
  exact World.cell?_of_block (w:=w) (h _ (hok h0)).2
 |seq l v S hv hS hq=>exact .seq l v S hv (λb hb=>⟨(h b (hS b hb).1).1,by rw[(h b (hS b hb).1).2];exact(hS b hb).2⟩) (dV.VT (λb hb=>(h b (hS b hb).1).2) hq)
theorem bU.oneCell{w:World}{ok:Nat->Prop}{x:P}{v:Value}(r:bU w ok x v):v.oneCell'=true:=by cases r<;>first|rfl|assumption
def P.fG(sz:Nat)(l:List (List P)):P:=match l with
 | []=>.sl 0 []
 |x::l=>.sl sz (x::l)
theorem bU.fG{w:World}{ok:Nat->Prop}{sz:Nat}{l:List (List P)}{v:Value}(h:bU w ok (.sl sz l) v):bU w ok (P.fG sz l) v:=by
 cases l with
 |cons x l=>exact h
 |nil=>cases h with
  |nil _ ao cap=>exact .nil 0 ao cap
  |sl _ _ a cap f=>exact .nil 0 _ cap
inductive W where
 |p (a i:Bool) (x:P)
 |b_
 |own (g:Nat)
 |vw (g:Nat) (lo hi:P)
 |box (g off:Nat)
 |ep (g:Nat) (n:P) (off:Nat)
 |sp (a i:Bool) (row:List P) (off:Nat)
 |gl (g:Nat)
 |mO (g:Nat)
 |gd (b:Bool) (x:W)
 |clo (f:FuncId) (caps:List W)
 |no
instance:Inhabited W:=⟨.no⟩
inductive O where
 |none
 |box (ws:List W)
 |arr (fz a i:Bool) (sz:Nat) (l:List (List P))
 |it (s n:P)
 |aF (a i:Bool) (sz:Nat) (ah:List (Nat×Nat)) (l:List (List P)) (hole:Option (Nat×Nat×Nat))
def O.bJ:O->Bool
 |.none=>false
 |.box _=>true
 |.arr fz _ _ _ _=>!fz
 |.it _ _=>true
 |.aF _ _ _ _ _ _=>true
def O.nH:O->Bool
 |.aF _ _ _ _ _ _=>true
 |_=>false
def O.dim:O->Option (Nat×Nat)
 |.arr _ _ _ sz l=>some (sz,l.length)
 |.aF _ _ sz _ l _=>some (sz,l.length)
 |_=>Option.none
def O.inner:O->Option Bool
 |.arr false _ i _ _=>some i
 |.aF _ i _ _ _ _=>some i
 |_=>Option.none
inductive V where
 |one (x:W)
 |agg (xs:List W)
inductive S where
 |v (x:V)
 |lq (xs:List V)
 |no
structure St where
 s:Nat->S
 o:Nat->O
 used:Nat->Bool
structure Gh where
 ad:Option Addr
 cap:Nat
 sub:Nat->Option (Nat×Nat)
def Gh.nil:Gh:=⟨none,0,λ_=>none⟩
def Gh.has(G:Gh)(b:Nat):Prop:=(∃ad,G.ad=some ad/\ad.block=b)\/(G.sub b).isSome=true
theorem Gh.jC{G:Gh}{ad:Addr}(h:G.ad=some ad):G.has ad.block:=.inl ⟨ad,h,rfl⟩
theorem Gh.not_nil{b:Nat}(h:Gh.nil.has b):False:=by
 rcases h with⟨ad,h,_⟩|h
 .cases h
 .cases h
structure Env where
 FA:Nat->Prop
 FI:Nat->Prop
 B0:Nat
 w0:World
 Wr:Nat->Prop
 hg :∀g sz rows,dV.gt g=some (sz,rows)->g<B0/\¬ Wr g/\∀(n:Nat) x,rows[n]?=some x->x.length=sz/\∀(j:Nat) y,x[j]?=some y->∃u,w0.cell? ⟨g,n*sz+j,none⟩=some u/\bU w0 (λ_=>False) y u
theorem Env.aaj(E:Env){b:Nat}(h:dV.has b):b<E.B0/\¬ E.Wr b:=by
 unfold dV.has at h;cases hg:dV.gt b with
 |none=>rw[hg]at h;cases h
 |some x=>obtain⟨sz,rows⟩:=x;exact⟨(E.hg b sz rows hg).1,(E.hg b sz rows hg).2.1⟩
def Env.ok(E:Env)(st:St)(gh:Nat->Gh)(w:World)(a i:Bool)(b:Nat):Prop:=((a=true/\E.FA b)\/(i=true/\(E.FI b\/E.Wr b))\/E.B0<=b\/dV.has b)/\b<w.heap.size/\∀g,(st.o g).bJ=true->¬ (gh g).has b
inductive eH(E:Env)(st:St)(gh:Nat->Gh)(w:World):W->Value->Prop where
 |p (a i:Bool) (x:P) (v:Value) (h:bU w (E.ok st gh w a i) x v):eH E st gh w (.p a i x) v
 |b_:eH E st gh w .b_ (.slice none 0 0)
 |own (g:Nat) (v:Value) (hv:v.oneCell'=true) (h :∀sz len,(st.o g).dim=some (sz,len)->v=.slice (gh g).ad len (gh g).cap):eH E st gh w (.own g) v
 |vw (g:Nat) (lo hi:P) (v:Value) (hv:v.oneCell'=true) (h :∀sz len,(st.o g).dim=some (sz,len)->∃n m c:Nat,lo=.int .i64 n/\hi=.int .i64 m/\n<=m/\m<=len/\(m-n<=c/\n+c<=(gh g).cap)/\
   v=.slice (if(gh g).cap=n then(gh g).ad else(gh g).ad.map (·.add (n*sz))) (m-n) c):eH E st gh w (.vw g lo hi) v
 |box (g off:Nat) (v:Value) (hv:v.oneCell'=true) (h :∀ws,st.o g=.box ws->∃ad,(gh g).ad=some ad/\v=.pointer (some ⟨ad.block,ad.off+off,none⟩)):eH E st gh w (.box g off) v
 |ep (g:Nat) (n:P) (off:Nat) (v:Value) (hv:v.oneCell'=true) (h :∀sz len,(st.o g).dim=some (sz,len)->∃(ad:Addr) (k:Nat),(gh g).ad=some ad/\n=.int .i64 k/\k<len/\v=.pointer (some ⟨ad.block,ad.off+k*sz+off,none⟩)):eH E st gh w (.ep g n off) v
 |sp (a i:Bool) (row:List P) (off:Nat) (b o:Nat) (hb:row≠[]->E.ok st gh w a i b) (h :∀(j:Nat) y,row[j]?=some y->∃u,w.cell? ⟨b,o+j,none⟩=some u/\bU w (E.ok st gh w a i) y u) :
   eH E st gh w (.sp a i row off) (.pointer (some ⟨b,o+off,none⟩))
 |gl (g:Nat):eH E st gh w (.gl g) (.pointer (some ⟨g,0,none⟩))
 |mO (g:Nat) (v:Value) (hv:v.oneCell'=true) (h :∀s n,st.o g=.it s n->∃ad,(gh g).ad=some ad/\v=.pointer (some ⟨ad.block,0,none⟩)):eH E st gh w (.mO g) v
 |gd (b:Bool) (x:W) (v:Value) (h:b=true->eH E st gh w x v):eH E st gh w (.gd b x) v
 |clo (f:FuncId) (caps:List W) (vs:List Value) (hl:caps.length=vs.length) (h :∀(j:Nat) x v,caps[j]?=some x->vs[j]?=some v->eH E st gh w x v) :
   eH E st gh w (.clo f caps) (.func (.func f) #[] vs.toArray)
 |no (v:Value):eH E st gh w .no v
def W.names:W->List Nat
 |.own g|.vw g _ _|.box g _|.ep g _ _|.mO g=>[g]
 |.gd _ x=>x.names
 |.clo _ caps=>caps.attach.flatMap λ⟨x,_⟩=>x.names
 |_=>[]
def V.names:V->List Nat
 |.one x=>x.names
 |.agg xs=>xs.flatMap W.names
def S.names:S->List Nat
 |.v x=>x.names
 |.lq xs=>xs.flatMap V.names
 |.no=>[]
def bZ:Option (Nat×Nat×Nat)->List Nat
 |some (_,_,d)=>[d]
 |none=>[]
def O.names:O->List Nat
 |.box ws=>ws.flatMap W.names
 |.aF _ _ _ _ _ hole=>bZ hole
 |_=>[]
inductive qH(E:Env)(st:St)(gh:Nat->Gh)(w:World):V->Value->Prop where
 |one (x:W) (v:Value) (h:eH E st gh w x v):qH E st gh w (.one x) v
 |agg (xs:List W) (cs:List Value) (hl:xs.length=cs.length) (hv :∀c∈cs,c.oneCell'=true) (h :∀(j:Nat) x v,xs[j]?=some x->cs[j]?=some v->eH E st gh w x v):qH E st gh w (.agg xs) (.agg cs.toArray)
inductive dn(E:Env)(st:St)(gh:Nat->Gh)(w:World):S->Value->Prop where
 |v (x:V) (v:Value) (h:qH E st gh w x v):dn E st gh w (.v x) v
 |lq (xs:List V) (vs:List Value) (hl:xs.length=vs.length) (h :∀(j:Nat) x v,xs[j]?=some x->vs[j]?=some v->qH E st gh w x v):dn E st gh w (.lq xs) (.tuple vs.toArray)
 |no (v:Value):dn E st gh w .no v
def iw(E:Env)(st:St)(gh:Nat->Gh)(w:World)(a i:Bool)(sz:Nat)(l:List (List P))(G:Gh):Prop:=
 (G.ad=none/\G.cap=0/\l=[])\/
 ∃ad c e,G.ad=some ad/\ad.spot=none/\w.heap[ad.block]?=some (.cells c e (0,0))/\ad.off+G.cap*sz<=c.size/\(l.length<=G.cap/\G.cap<=9223372036854775807)/\(∀x∈l,x.length=sz)/\
  ∀(n:Nat) x,l[n]?=some x->∀(j:Nat) y,x[j]?=some y->∃v,c[ad.off+n*sz+j]?=some v/\bU w (E.ok st gh w a i) y v
def yS(E:Env)(st:St)(gh:Nat->Gh)(w:World)(ws:List W)(G:Gh):Prop:=
 ∃ad c e,G.ad=some ad/\ad.spot=none/\w.heap[ad.block]?=some (.cells c e (0,0))/\ad.off+ws.length<=c.size/\
  ∀(j:Nat) x,ws[j]?=some x->∃v,c[ad.off+j]?=some v/\v.oneCell'=true/\eH E st gh w x v
def yT(E:Env)(st:St)(gh:Nat->Gh)(w:World)(a i:Bool)(G:Gh)(sz' n j:Nat)(y:P)(v:Value):Prop:=∃(l':List (List P)) (ao:Option Addr) (k:Nat),y=P.fG sz' l'/\v=.slice ao l'.length k/\iw E st gh w a i sz' l' ⟨ao,k,λ_=>none⟩ /\∀ad,ao=some ad->G.sub ad.block=some (n,j)
def gB(hole:Option (Nat×Nat×Nat))(n j:Nat):Option Nat:=match hole with
 |some (n',j',d)=>if n'=n/\j'=j then some d else none
 |none=>none
def iy(E:Env)(st:St)(gh:Nat->Gh)(w:World)(a i:Bool)(G:Gh)(ah:List (Nat×Nat))(hole:Option (Nat×Nat×Nat))(n j:Nat)(y:P)(v:Value):Prop:=
 match ah.lookup j with
 |none=>bU w (E.ok st gh w a i) y v
 |some sz'=>match gB hole n j with
  |some d=>v.oneCell'=true/\eH E st gh w (.own d) v
  |none=>yT E st gh w a i G sz' n j y v
def kC(E:Env)(st:St)(gh:Nat->Gh)(w:World)(a i:Bool)(sz:Nat)(ah:List (Nat×Nat))(l:List (List P))(hole:Option (Nat×Nat×Nat))(G:Gh):Prop:=
 (G.ad=none/\G.cap=0/\l=[]/\∀b,G.sub b=none)\/
 ∃ad c e,G.ad=some ad/\ad.spot=none/\w.heap[ad.block]?=some (.cells c e (0,0))/\ad.off+G.cap*sz<=c.size/\(l.length<=G.cap/\G.cap<=9223372036854775807)/\(∀x∈l,x.length=sz)/\
  (G.sub ad.block=none/\∀b,(G.sub b).isSome=true->∃c e f,w.heap[b]?=some (.cells c e f))/\
  ∀(n:Nat) x,l[n]?=some x->∀(j:Nat) y,x[j]?=some y->∃v,c[ad.off+n*sz+j]?=some v/\iy E st gh w a i G ah hole n j y v
def lF(E:Env)(st:St)(gh:Nat->Gh)(w:World)(o:O)(G:Gh):Prop:=
 match o with
 |.none=>True
 |.box ws=>yS E st gh w ws G
 |.arr false a i sz l=>iw E st gh w a i sz l G
 |.arr true a i sz l=>bU w (E.ok st gh w a i) (.sl sz l) (.slice G.ad l.length G.cap)
 |.aF a i sz ah l hole=>kC E st gh w a i sz ah l hole G
 |.it s n=>∃(ad:Addr) (bs:ByteArray) (k:Nat),G.ad=some ad/\s=.str bs/\n=.int .i64 k/\w.heap[ad.block]?=some (.stringIter bs k)
structure Rel(E:Env)(st:St)(gh:Nat->Gh)(val:Nat->Value)(w:World):Prop where
 slots :∀t,dn E st gh w (st.s t) (val t)
 aW :∀g,lF E st gh w (st.o g) (gh g)
 inj :∀g g' b,(st.o g).bJ=true->(st.o g').bJ=true->(gh g).has b->(gh g').has b->g=g'
 wr :∀g b,(st.o g).bJ=true->(gh g).has b->(E.B0<=b\/E.Wr b)/\b<w.heap.size
 wi :∀g i b,(st.o g).inner=some i->(gh g).has b->E.Wr b->i=true
 ns :∀g,(st.o g).bJ=true->(st.o g).nH=false->∀b,(gh g).sub b=none
 wb :∀b,E.Wr b->b<E.B0
 frame :∀b,b<E.B0->¬ E.Wr b->w.heap[b]?=E.w0.heap[b]?
 size:E.B0<=w.heap.size
 os:w.os=E.w0.os
 tape:w.tape=E.w0.tape
 output:w.output=E.w0.output
 us :∀t,∀g∈(st.s t).names,st.used g=true
 uo :∀g,∀g'∈(st.o g).names,st.used g'=true
 ul :∀g,st.o g≠.none->st.used g=true
def O.like(o o':O):Prop:=
 match o,o' with
 |_,.none=>True
 |.box _,.box _=>True
 |.arr _ _ _ sz l,.arr _ _ _ sz' l'=>sz=sz'/\l.length=l'.length
 |.aF _ _ sz _ l _,.aF _ _ sz' _ l' _=>sz=sz'/\l.length=l'.length
 |.aF _ _ sz _ l _,.arr _ _ _ sz' l'=>sz=sz'/\l.length=l'.length
 |.it _ _,.it _ _=>True
 |_,_=>False
theorem O.eU(o:O):o.like o:=by cases o<;>simp[O.like]
theorem O.jM{o:O}{fz a i:Bool}{sz:Nat}{l:List (List P)}(h:o=.arr fz a i sz l):o.dim=some (sz,l.length):=by rw[h];rfl
theorem O.jJ{fz a i:Bool}{sz sz' len:Nat}{l:List (List P)}(h:(O.arr fz a i sz l).dim=some (sz',len)):sz=sz'/\l.length=len:=by simpa[O.dim]using h
theorem O.Au{o o':O}(h:o.like o'){x:Nat×Nat}(hd:o'.dim=some x):o.dim=some x:=by cases o'<;>cases o<;>simp only[O.like,O.dim]at * <;> first|(exact h.elim)|(rw[<-hd,h.1,h.2])|(cases hd)
theorem O.aak{o o':O}(h:o.like o'){ws:List W}(hd:o'=.box ws):∃ws',o=.box ws':=by subst hd;cases o<;>first|exact h.elim|exact⟨_,rfl⟩
theorem O.aec{o o':O}(h:o.like o'){s n:P}(hd:o'=.it s n):∃s' n',o=.it s' n':=by subst hd;cases o<;>first|exact h.elim|exact⟨_,_,rfl⟩
structure Lets(E:Env)(st st':St)(gh bG:Nat->Gh)(w w':World):Prop where
 ok :∀a i b,E.ok st gh w a i b->E.ok st' bG w' a i b/\w'.heap[b]?=w.heap[b]?
 names :∀g,st.used g=true->st'.o g=.none\/(((bG g).ad=(gh g).ad/\(bG g).cap=(gh g).cap)/\(st.o g).like (st'.o g))
section
variable {E:Env} {st st':St} {gh bG:Nat->Gh} {w w':World}
theorem Lets.kD(h:Lets E st st' gh bG w w'){a i:Bool}{x:P}{v:Value}(r:bU w (E.ok st gh w a i) x v):bU w' (E.ok st' bG w' a i) x v:=r.mono (h.ok a i)
theorem yU{f:FuncId}{caps:List W}{j:Nat}{x:W}(hx:caps[j]?=some x){g:Nat}(hg:g∈x.names):g∈(W.clo f caps).names:=by unfold W.names;rw[YY];exact⟨⟨x,Ys hx⟩,List.mem_attach _ _,hg⟩
theorem Lets.zC(h:Lets E st st' gh bG w w'){x:W}{v:Value}(hu :∀g∈x.names,st.used g=true)(r:eH E st gh w x v):eH E st' bG w' x v:=by
 induction r with
 |p a i x v hx=>exact .p a i x v (h.kD hx)
 |b_=>exact .b_
 |own g v hv hx=>
  refine .own g v hv λsz len hl=>?_;rcases h.names g (hu g (by simp[W.names]))with hn|⟨hg,hk⟩
  .rw [hn]at hl;cases hl
  .rw [hg.1,hg.2];exact hx _ _ (O.Au hk hl)
 |vw g lo hi v hv hx=>
  refine .vw g lo hi v hv λsz len hl=>?_;rcases h.names g (hu g (by simp[W.names]))with hn|⟨hg,hk⟩
  .rw [hn]at hl;cases hl
  .rw [hg.1,hg.2];exact hx _ _ (O.Au hk hl)
 |box g off v hv hx=>
  refine .box g off v hv λws hl=>?_;rcases h.names g (hu g (by simp[W.names]))with hn|⟨hg,hk⟩
  .rw [hn]at hl;cases hl
  .obtain ⟨ws',ho⟩:=O.aak hk hl;rw[hg.1];exact hx _ ho
 |ep g n off v hv hx=>
  refine .ep g n off v hv λsz len hl=>?_;rcases h.names g (hu g (by simp[W.names]))with hn|⟨hg,hk⟩
  .rw [hn]at hl;cases hl
  .rw [hg.1];exact hx _ _ (O.Au hk hl)
 |sp a i row off b o hb hx=>exact .sp a i row off b o (λh0=>(h.ok a i b (hb h0)).1) λj y hj=>let ⟨u,hu,hr⟩:=hx j y hj;⟨u,(World.cell?_of_block (w:=w) (h.ok a i b (hb λe=>by rw[e]at hj;simp at hj)).2).trans hu,h.kD hr⟩
 |gl g=>exact .gl g
 |mO g v hv hx=>
  refine .mO g v hv λs n hl=>?_;rcases h.names g (hu g (by simp[W.names]))with hn|⟨hg,hk⟩
  .rw [hn]at hl;cases hl
  .obtain ⟨s',n',ho⟩:=O.aec hk hl;rw[hg.1];exact hx _ _ ho
 |gd b x v hx ih=>exact .gd b x v λhb=>ih hb (λg hg=>hu g (by simpa[W.names]using hg))
 |clo f caps vs hl hx ih=>exact .clo f caps vs hl λj x v hj hv=>ih j x v hj hv λg hg=>hu g (yU hj hg)
 |no v=>exact .no v
theorem Lets.Yj(h:Lets E st st' gh bG w w'){x:V}{v:Value}(hu :∀g∈x.names,st.used g=true)(r:qH E st gh w x v):qH E st' bG w' x v:=by
 cases r with
 |one x v hx=>exact .one x v (h.zC hu hx)
 |agg xs cs hl hv hx=>exact .agg xs cs hl hv λj x v hj hv=>h.zC (λg hg=>hu g (by simp only[V.names,YY];exact⟨x,Ys hj,hg⟩)) (hx j x v hj hv)
theorem Lets.aed(h:Lets E st st' gh bG w w'){x:S}{v:Value}(hu :∀g∈x.names,st.used g=true)(r:dn E st gh w x v):dn E st' bG w' x v:=by
 cases r with
 |v x v hx=>exact .v x v (h.Yj hu hx)
 |lq xs vs hl hx=>exact .lq xs vs hl λj x v hj hv=>h.Yj (λg hg=>hu g (by simp only[S.names,YY];exact⟨x,Ys hj,hg⟩)) (hx j x v hj hv)
 |no v=>exact .no v
theorem Lets.Aw(h:Lets E st st' gh bG w w'){a i:Bool}{sz:Nat}{l:List (List P)}{G:Gh}(hb :∀ad,G.ad=some ad->w'.heap[ad.block]?=w.heap[ad.block]?)
  (r:iw E st gh w a i sz l G):iw E st' bG w' a i sz l G:=by
 rcases r with r|⟨ad,c,e,h1,h2,h3,h4,h5,h6,h7⟩;exact .inl r;refine .inr ⟨ad,c,e,h1,h2,by rw[hb ad h1];exact h3,h4,h5,h6,λn x hx j y hy=>?_⟩;obtain⟨v,hv,hr⟩:=h7 n x hx j y hy;exact⟨v,hv,h.kD hr⟩
theorem Lets.VU(h:Lets E st st' gh bG w w'){a i:Bool}{G:Gh}{ah:List (Nat×Nat)}{hole:Option (Nat×Nat×Nat)}{n j:Nat}{y:P}{v:Value}
  (hb :∀b,(G.sub b).isSome=true->w'.heap[b]?=w.heap[b]?) (hu :∀g∈bZ hole,st.used g=true) (r:iy E st gh w a i G ah hole n j y v):iy E st' bG w' a i G ah hole n j y v:=by
 unfold iy at *;cases hc:ah.lookup j with
 |none=>rw[hc]at r;exact h.kD r
 |some sz'=>
  rw[hc]at r;simp only at *;cases hh:gB hole n j with
  |some d=>
   rw[hh]at r;refine⟨r.1,h.zC (λg hg=>?_) r.2⟩;have:g=d:=by simpa[W.names]using hg
   subst this;refine hu g ?_;unfold gB at hh;rcases hole with _|⟨n',j',d⟩;cases hh;simp only at hh;split at hh
   .cases hh;simp[bZ]
   .cases hh
  |none=>rw[hh]at r;obtain⟨l',ao,k,h1,h2,h3,h4⟩:=r;exact⟨l',ao,k,h1,h2,h.Aw (λad had=>hb _ (by rw[h4 ad had];rfl)) h3,h4⟩
theorem Lets.ahE(h:Lets E st st' gh bG w w'){a i:Bool}{sz:Nat}{ah:List (Nat×Nat)}{l:List (List P)}{hole:Option (Nat×Nat×Nat)}{G:Gh}
  (hb :∀b,G.has b->w'.heap[b]?=w.heap[b]?) (hu :∀g∈bZ hole,st.used g=true) (r:kC E st gh w a i sz ah l hole G):kC E st' bG w' a i sz ah l hole G:=by
 rcases r with r|⟨ad,c,e,h1,h2,h3,h4,h5,h6,⟨h7,h7'⟩,h8⟩;exact .inl r;refine .inr ⟨ad,c,e,h1,h2,by rw[hb _ (Gh.jC h1)];exact h3,h4,h5,h6,⟨h7,λb hs=>by rw[hb b (.inr hs)];exact h7' b hs⟩,λn x hx j y hy=>?_⟩;obtain⟨v,hv,hr⟩:=h8 n x hx j y hy;exact⟨v,hv,h.VU (λb hs=>hb b (.inr hs)) hu hr⟩
theorem Lets.akk(h:Lets E st st' gh bG w w'){ws:List W}{G:Gh}(hb :∀ad,G.ad=some ad->w'.heap[ad.block]?=w.heap[ad.block]?)
  (hu :∀x∈ws,∀g∈x.names,st.used g=true) (r:yS E st gh w ws G):yS E st' bG w' ws G:=by
 obtain⟨ad,c,e,h1,h2,h3,h4,h5⟩:=r;refine⟨ad,c,e,h1,h2,by rw[hb ad h1];exact h3,h4,λj x hx=>?_⟩;obtain⟨v,hv,ho,hr⟩:=h5 j x hx;exact⟨v,hv,ho,h.zC (hu x (Ys hx)) hr⟩
theorem Lets.Az(h:Lets E st st' gh bG w w'){o:O}{G:Gh}(hb:o.bJ=true->∀b,G.has b->w'.heap[b]?=w.heap[b]?)
  (hu :∀g∈o.names,st.used g=true) (r:lF E st gh w o G):lF E st' bG w' o G:=by
 cases o with
 |none=>trivial
 |box ws=>exact Lets.akk h (λad had=>hb rfl _ (Gh.jC had)) (λx hx g hg=>hu g (by simp only[O.names,YY];exact⟨x,hx,hg⟩)) r
 |arr fz a i sz l=>
  cases fz with
  |false=>exact Lets.Aw h (λad had=>hb rfl _ (Gh.jC had)) r
  |true=>exact h.kD r
 |aF a i sz ah l hole=>exact Lets.ahE h (hb rfl) hu r
 |it s n=>obtain⟨ad,bs,k,h1,h2,h3,h4⟩:=r;exact⟨ad,bs,k,h1,h2,h3,by rw[hb rfl _ (Gh.jC h1)];exact h4⟩
end
end Go.Fw

namespace Go.Fw
variable [dV]
def P.list:P->List (List P)
 |.sl _ l=>l
 |_=>[]
def P.num:P->Int
 |.int _ n=>n
 |_=>0
theorem P.nI(sz:Nat)(l:List (List P)):(P.fG sz l).list=l:=by cases l<;>rfl
def P.nat(x:P):Nat:=x.num.toNat
def P.bytes:P->ByteArray
 |.str s=>s
 |_=>.empty
def P.isSlice:P->Prop
 |.sl _ _=>True
 |_=>False
def P.isStr:P->Prop
 |.str _=>True
 |_=>False
def P.T_(sz:Nat):P->Prop
 |.sl sz' l=>sz'=sz\/l=[]
 |_=>False
def P.bin(op:BinOp)(x y:P):P:=
 match x,y with
 |.int k a,.int _ b=>
  match op with
  |.add=>.int k (k.wrap (a+b))
  |.sub=>.int k (k.wrap (a-b))
  |.mul=>.int k (k.wrap (a*b))
  |.quo=>.int k (k.wrap (a.tdiv b))
  |.rem=>.int k (a.tmod b)
  |.and=>.int k (bits .and k a b)
  |.or=>.int k (bits .or k a b)
  |.xor=>.int k (bits .xor k a b)
  |.andNot=>.int k (bits .andNot k a b)
  |.shl=>.int k (k.wrap (a*2 ^ min b.toNat k.bits))
  |.shr=>.int k (a.fdiv (2 ^ min b.toNat k.bits))
  |.eql=>.bool (a==b)
  |.neq=>.bool (a != b)
  |.lss=>.bool (decide (a<b))
  |.leq=>.bool (decide (a<=b))
  |.gtr=>.bool (decide (a>b))
  |.geq=>.bool (decide (a≥b))
 |.bool a,.bool b=>
  match op with
  |.eql=>.bool (a==b)
  |.neq=>.bool (a != b)
  |_=>default
 |.str a,.str b=>
  match op with
  |.add=>.str (a++b)
  |.eql=>.bool (a.toList==b.toList)
  |.neq=>.bool (!(a.toList==b.toList))
  |.lss=>.bool (Op.bytesLess a.toList b.toList)
  |.leq=>.bool (Op.bytesLess a.toList b.toList||a.toList==b.toList)
  |.gtr=>.bool (!(Op.bytesLess a.toList b.toList||a.toList==b.toList))
  |.geq=>.bool (!Op.bytesLess a.toList b.toList)
  |_=>default
 |_,_=>default
def P.PG(op:BinOp)(x y:P):Prop:=
 match x,y with
 |.int k a,.int k' b=>
  match op with
  |.shl|.shr=>0<=b
  |.quo|.rem=>k=k'/\b≠0
  |_=>k=k'
 |.str a,.str b=>
  match op with
  |.add=>a.size+b.size<=9223372036854775807
  |.eql|.neq|.lss|.leq|.gtr|.geq=>True
  |_=>False
 |_,_=>False
def P.Nr(op:BinOp)(x y:P):Prop:=
 match x,y with
 |.bool _,.bool _=>op=.eql\/op=.neq
 |_,_=>False
def P.un(op:UnOp)(x:P):P:=
 match op,x with
 |.neg,.int k n=>.int k (k.wrap (0-n))
 |.not,.bool b=>.bool (!b)
 |_,_=>default
def P.ahF(op:UnOp)(x:P):Prop:=
 match op,x with
 |.neg,.int _ _=>True
 |.not,.bool _=>True
 |_,_=>False
def P.len:P->P
 |.sl _ l=>.int .i64 l.length
 |.str s=>.int .i64 s.size
 |_=>default
def P.min(x y:P):P:=
 match x,y with
 |.int k a,.int _ b=>.int k (if b<a then b else a)
 |_,_=>default
def P.max(x y:P):P:=
 match x,y with
 |.int k a,.int _ b=>.int k (if b>a then b else a)
 |_,_=>default
def P.agQ(x i:P):P:=
 match x,i with
 |.str s,.int _ n=>.int .u8 (s.data.getD n.toNat 0).toNat
 |_,_=>default
def P.sub(sz lo hi:Nat)(x:P):P:=P.fG sz ((x.list.take hi).drop lo)
inductive TK where
 |int (k:IntKind)
 |bool
 |str
 |slice (e:TypeId)
 |ptr
 |struct (fs:List (Nat×TypeId))
 |arr (n:Nat) (e:TypeId)
 |other
structure TI where
 k:TK
 size:Nat
 bytes:Nat
 zero:List Value
abbrev TT:=TypeId->Option TI
def TI.agg(i:TI):Bool:=
 match i.k with
 |.struct _=>true
 |.arr _ _=>true
 |_=>false
def TI.eq(i:TI):Bool:=
 match i.k with
 |.struct _|.arr _ _=>Nat.ble i.size 8&&i.zero.all λv=>match v with|.int _ _|.bool _|.string _=>true|_=>false
 |_=>false
def P.eqB:P->P->Bool
 |.int _ a,.int _ b=>a==b
 |.bool a,.bool b=>a==b
 |.str a,.str b=>a==b
 |_,_=>false
def VW(k:TK)(x y:P):Prop:=
 match k,x,y with
 |.int _,.int a _,.int b _=>a=b
 |.bool,.bool _,.bool _=>True
 |.str,.str _,.str _=>True
 |_,_,_=>False
def TK.flat:TK->Bool
 |.int _|.bool|.str=>true
 |_=>false
def TK.parts:TK->List (Nat×TypeId)
 |.struct fs=>fs
 |.arr n e=>if n=0 then[(1,e)]else(List.range' 0 n).map λi=>(i,e)
 |_=>[(1,0)]
def mP(tt:TT):Nat->List (Nat×TypeId)->List W->List W->Option (Prop×Bool)
 |_,[],[],[]=>some (True,true)
 |n,(off,t)::fs,.p _ _ x::xs,.p _ _ y::ys=>match tt t with
  |some i=>if off=n/\i.k.flat=true/\i.size=1 then match mP tt (n+1) fs xs ys with
   |some c=>some (VW i.k x y/\c.1,P.eqB x y&&c.2)
   |none=>none
   else none
  |none=>none
 |_,_,_,_=>none
def aee:BinOp->Option Bool
 |.eql=>some true
 |.neq=>some false
 |_=>none
def cv:Value->W
 |.int k n=>.p false false (.int k n)
 |.bool b=>.p false false (.bool b)
 |.string s=>.p false false (.str s)
 |.slice none 0 0=>.b_
 |v=>.p false false (.opq v)
def uG:Value->S
 |.agg cs=>if cs.toList.all Value.oneCell'=true then .v (.agg (cs.toList.map cv))else .no
 |.tuple _=>.no
 |.func (.func f) ⟨[]⟩ ⟨[]⟩=>.v (.one (.clo f []))
 |v=>if v.oneCell'=true then .v (.one (cv v))else .no
def St.bW(st:St):Operand->S
 |.tmp t=>st.s t
 |.const v=>uG v
 |.func f=>.v (.one (.clo f []))
 |.global g=>match dV.gt g with
  |some _=>.v (.one (.gl g))
  |none=>.no
structure Et where
 pre:Prop
 val:P
 dst:P->S
 aB:P->List (Nat×O)
 new:List Nat
def kE(n:Nat):P:=.int .i64 n
def pX:P->List (Nat×O):=λ_=>[]
def scalar(x:P):S:=.v (.one (.p false false x))
def Et.pure(x:S):Et:=(.mk (True) (default) (λ_=>x) (pX) [])
def Et.calc(pre:Prop)(x:P):Et:={ pre,val:=x,dst:=scalar,aB:=pX,new:=[] }
def aJ{α:Type}(l:List α)(off:Nat)(new:List α):List α:=l.take off++new++l.drop (off+new.length)
def iR(l:List (List P))(n c:Nat)(y:P):List (List P):=l.set n (aJ (l.getD n []) c [y])
def plainO(o:Nat->O)(g:Nat):Option (Bool×Bool×Nat×List (List P)):=
 match o g with
 |.arr _ a i sz l=>some (a,i,sz,l)
 |.aF a i sz _ l none=>some (a,i,sz,l)
 |.aF a i sz ah l (some (n,c,d))=>match o d with
  |.arr _ a' i' sz' l'=>if ah.lookup c=some sz'/\c<sz then some (a||a',i||i',sz,iR l n c (P.fG sz' l'))else none
  |_=>none
 |_=>none
def W.toP(o:Nat->O):W->Option (P×Bool×Bool×List Nat)
 |.p a i x=>some (x,a,i,[])
 |.b_=>some (.sl 0 [],false,false,[])
 |.own g=>match plainO o g with
  |some (a,i,sz,l)=>some (P.fG sz l,a,i,(o g).names++[g])
  |none=>none
 |.vw g lo hi=>match plainO o g with
  |some (a,i,sz,l)=>some (P.fG sz ((l.take hi.nat).drop lo.nat),a,i,(o g).names++[g])
  |none=>none
 |_=>none
def wK(o:Nat->O):List W->Option (List P×Bool×Bool×List Nat)
 | []=>some ([],false,false,[])
 |x::xs=>match x.toP o,wK o xs with
  |some (y,a,i,gs),some (ys,a',i',gs')=>some (y::ys,a||a',i||i',gs++gs')
  |_,_=>none
def V.words:V->List W
 |.one x=>[x]
 |.agg xs=>xs
def aN(o:Nat->O)(g:Nat):Nat×O:=
 (g,match plainO o g with
  |some (a,i,sz,l)=>.arr true a i sz l
  |none=>o g)
def wU(o:Nat->O)(gs:List Nat):Prop :=∀g∈gs,(plainO o g).isSome=true/\∀d∈(o g).names,d∈gs
theorem wU.nil{o:Nat->O}:wU o []:=λ_ h=>by cases h
theorem wU.append{o:Nat->O}{a b:List Nat}(h:wU o a)(h':wU o b):wU o (a++b):=λg hg=>by
 rcases QQ.1 hg with x|x
 .exact ⟨(h g x).1,λd hd=>XS _ ((h g x).2 d hd)⟩
 .exact ⟨(h' g x).1,λd hd=>We _ ((h' g x).2 d hd)⟩
def O.hn:O->List Nat
 |.aF _ _ _ _ _ hole=>bZ hole
 |_=>[]
def Agree(o o':Nat->O)(g:Nat):Prop:=o g=o' g/\∀d∈(o g).hn,o d=o' d
theorem AA{o o':Nat->O}{g:Nat}(h:Agree o o' g):plainO o g=plainO o' g:=by
 obtain⟨h1,h2⟩:=h;unfold plainO;rw[<-h1];cases ho:o g with
 |aF a i sz ah l hole=>
  cases hole with
  |none=>rfl
  |some x=>obtain⟨n,c,d⟩:=x;simp only;rw[h2 d (by rw[ho];simp[O.hn,bZ])]
 |_=>rfl
def V.fA(agg:Bool)(ws:List W):S:=
 if agg then .v (.agg ws)else match ws with
  | [x]=>.v (.one x)
  |_=>.no
def W.solid:W->Bool
 |.gd _ _=>false
 |.no=>false
 |_=>true
def V.solid:V->Bool
 |.one x=>x.solid
 |.agg _=>true
def TI.known(tt:TT)(i:TI):Bool:=
 match i.k with
 |.struct fs=>fs.all λf=>(tt f.2).isSome
 |.arr _ e=>(tt e).isSome
 |_=>false
def lG(place:Nat->Option (Nat×Nat))(ws:List W):List (Nat×S)->Option (List W)
 | []=>some ws
 |(n,.v x)::rest=>match place n with
  |some (off,size)=>if x.words.length=size/\off+size<=ws.length/\x.solid=true then lG place (aJ ws off x.words) rest else none
  |none=>none
 |_=>none
def fZ{α:Type}(ws:List α):Nat->List α
 |0=>[]
 |n+1=>ws++fZ ws n
def chunks{α:Type}(sz:Nat):Nat->List α->List (List α)
 |0,_=>[]
 |n+1,l=>l.take sz::chunks sz n (l.drop sz)
def placeOf(tt:TT)(t:TypeId)(n:Nat):Option (Nat×Nat):=
 match tt t with
 |some { k:=.struct fs,.. }=>match fs[n]? with
  |some (off,u)=>(tt u).map λi=>(off,i.size)
  |none=>none
 |some { k:=.arr m e,.. }=>if n<m then(tt e).map λi=>(n*i.size,i.size)else none
 |_=>none
def W.rows(o:Nat->O)(sz:Nat):W->Option (Prop×List (List P)×Bool×Bool)
 |.p a i x=>some (x.T_ sz,x.list,a,i)
 |.b_=>some (True,[],false,false)
 |.own g=>match o g with
  |.arr _ a i sz' l=>if sz'=sz then some (True,l,a,i)else none
  |_=>none
 |.vw g lo hi=>match o g with
  |.arr _ a i sz' l=>if sz'=sz then some (True,(l.take hi.nat).drop lo.nat,a,i)else none
  |_=>none
 |_=>none
def lenOf(o:Nat->O):W->Option (Prop×P)
 |.p _ _ x=>some (x.isSlice,x.len)
 |.b_=>some (True,.int .i64 0)
 |.own g=>match (o g).dim with
  |some (_,len)=>some (True,.int .i64 len)
  |none=>none
 |.vw g lo hi=>match (o g).dim with
  |some _=>some (True,.int .i64 (hi.nat-lo.nat:Nat))
  |none=>none
 |_=>none
def W.live(o:Nat->O):W->Bool
 |.box g _=>match o g with
  |.box _=>true
  |_=>false
 |.ep g _ _=>(o g).dim.isSome
 |.sp _ _ _ _=>true
 |_=>false
def W.shift(n:Nat):W->W
 |.box g off=>.box g (off+n)
 |.ep g k off=>.ep g k (off+n)
 |.sp a i row off=>.sp a i row (off+n)
 |x=>x
def inRange(ix:P)(n:Nat):Prop:=
 match ix with
 |.int _ k=>0<=k/\k<n
 |_=>False
def uH(tt:TT)(d:Nat)(o:Nat->O)(sT:TypeId)(s x:W):Option Et:=
 match tt sT with
 |some { k:=.slice e,.. }=>match tt e with
  |some ie=>if ie.bytes=0 then none else match x.rows o ie.size with
   |none=>none
   |some (ask,new,a',i')=>
    let res (an_:Prop) (old:List (List P)) (a i:Bool) (kill:List (Nat×O)):Et:=
     .mk (ask/\an_/\(old.length+new.length)*ie.bytes<=140737488355328) (.sl ie.size (old++new)) (λ_=>.v (.one (.own d)))
      (λy=>kill++[(d,.arr false (a||a') (i||i') ie.size y.list)]) [d]
    match s with
    |.b_=>some (res True [] false false [])
    |.own g=>match o g with
     |.arr false a i sz l=>if sz=ie.size/\g≠d then some (res True l a i [(g,.none)])else none
     |_=>none
    |.vw g lo hi=>match o g with
     |.arr false a i sz l=>if sz=ie.size/\g≠d then some (res (lo=kE 0) (l.take hi.nat) a i [(g,.none)])else none
     |_=>none
    |_=>none
  |none=>none
 |_=>none
def lH(dflt:P):Option S->Option P
 |none=>some dflt
 |some (.v (.one (.p _ _ x)))=>some x
 |_=>none
def jg:P->Prop
 |.int _ _=>True
 |_=>False
def PI(z:List Value)(j:Nat):P:=match z[j]? with
 |some (.int k n)=>.int k n
 |some (.bool b)=>.bool b
 |some (.string s)=>.str s
 |some (.slice none 0 0)=>.sl 0 []
 |some v=>.opq v
 |none=>default
def P.ahH(x lo hi:P):P:=match x with
 |.str s=>.str (s.extract lo.nat hi.nat)
 |_=>default
def Hr(l:List (List P)):P:=.str ⟨(l.map λr=>UInt8.ofNat ((r.getD 0 default).num.toNat)).toArray⟩
def isBytes(l:List (List P)):Prop :=∀r∈l,∃n,r=[.int .u8 n]
def Ns(x:P):P:=match x with
 |.str s=>.fG 1 (s.data.toList.map λb=>[.int .u8 b.toNat])
 |_=>default
def AB(tt:TT)(o:Nat->O)(t:TypeId)(x h m:S):Option Et:=
 match tt t,x,h,m with
 |some { k:=.slice e,.. },.v (.one (.own g)),.v (.one (.p _ _ h)),.v (.one (.p _ _ m))=>match tt e,o g with
  |some ie,.arr false _ _ sz l=>if sz=ie.size then
    some (.mk (∃k j:Nat,h=.int .i64 k/\m=.int .i64 j/\k<=j/\j<=l.length) (default) (λ_=>.v (.one (.vw g (kE 0) h))) (pX) [])else none
  |_,_=>none
 |some { k:=.slice e,.. },.v (.one .b_),.v (.one (.p _ _ h)),.v (.one (.p _ _ m))=>match tt e with
  |some _=>some (.mk (h=kE 0/\m=kE 0) (default) (λ_=>.v (.one .b_)) (pX) [])
  |none=>none
 |_,_,_,_=>none
def kernel(tt:TT)(d:Nat)(o:Nat->O)(f:Operand->S)(op:Op)(ty:TypeId):Option Et:=
 match op with
 |.move x|.assign x=>match f x with
  |.no=>none
  |s=>some (.pure s)
 |.pick c x y=>match f c with
  |.v (.one (.p _ _ (.bool b)))=>match f x,f y with
   |.v (.one (.p a i x)),.v (.one (.p a' i' y))=>some (.mk True (bif b then x else y) (λz=>.v (.one (.p (a||a') (i||i') z))) pX [])
   |x,y=>match (bif b then x else y)with
    |.no=>none
    |s=>some (.pure s)
  |_=>none
 |.alloc t=>match tt t with
  |some i=>some (.mk (True) (default) (λ_=>.v (.one (.box d 0))) (λ_=>[(d,.box (i.zero.map cv))]) [d])
  |none=>none
 |.box t x=>match tt t,f x with
  |some i,.v x=>if x.words.length=i.size/\x.solid=true then some (.mk (True) (default) (λ_=>.v (.one (.box d 0))) (λ_=>[(d,.box x.words)]) [d])else none
  |_,_=>none
 |.build t parts=>match tt t with
  |some i=>if i.known tt=true then match lG (placeOf tt t) (i.zero.map cv) (parts.toList.map λp=>(p.1,f p.2))with
   |some ws=>some (.pure (.v (.agg ws)))
   |none=>none
   else none
  |none=>none
 |.buildSlice t n parts=>match tt t with
  |some { k:=.slice e,.. }=>match tt e with
   |some ie=>match lG (λm=>if m<n then some (m*ie.size,ie.size)else none) (fZ (ie.zero.map cv) n) (parts.toList.map λp=>(p.1,f p.2))with
    |some ws=>match wK o ws with
     |some (ps,a,i,gs)=>if n+n*ie.size<=16777216 then
       some (.mk True (.sl ie.size (chunks ie.size n ps)) (λ_=>.v (.one (.own d)))
        (λy=>gs.map (aN o)++[(d,.arr false a i ie.size y.list)]) [d])else none
     |none=>none
    |none=>none
   |none=>none
  |_=>none
 |.load t x=>match tt t,f x with
  |some i,.v (.one (.box g off))=>match o g with
   |.box ws=>if off+i.size<=ws.length/\0<i.size then some (.pure (V.fA i.agg ((ws.drop off).take i.size)))else none
   |_=>none
  |some i,.v (.one (.ep g n off))=>match o g with
   |.arr _ a i' sz l=>if off+i.size<=sz/\0<i.size then some (.pure (V.fA i.agg ((List.range i.size).map λj=>.p a i' ((l.getD n.nat []).getD (off+j) (PI i.zero j)))))else none
   |_=>none
  |some i,.v (.one (.sp a i' row off))=>if 0<i.size then some (.mk (off+i.size<=row.length) (default) (λ_=>V.fA i.agg ((List.range i.size).map λj=>.p a i' (row.getD (off+j) default))) (pX) [])else none
  |_,_=>none
 |.store t x y=>match tt t,f x,f y with
  |some i,.v (.one (.box g off)),.v y=>match o g with
   |.box ws=>if off+i.size<=ws.length/\y.words.length=i.size/\y.solid=true then
     some (.mk (True) (default) (λ_=>.no) (λ_=>[(g,.box (aJ ws off y.words))]) [])else none
   |_=>none
  |some i,.v (.one (.ep g n off)),.v y=>match o g,wK o y.words with
   |.arr false a i' sz l,some (ps,a',i'',gs)=>if off+i.size<=sz/\ps.length=i.size/\y.words.length=i.size/\y.solid=true/\gs.contains g=false then
     some (.mk True (.sl sz (l.set n.nat (aJ (l.getD n.nat []) off ps))) (λ_=>.no)
      (λz=>gs.map (aN o)++[(g,.arr false (a||a') (i'||i'') sz z.list)]) [])else none
   |_,_=>none
  |_,_,_=>none
 |.nilCheck x=>match f x with
  |.v (.one x)=>if x.live o then some (.pure (.v (.one x)))else none
  |_=>none
 |.binOp op t x y _=>match f x,f y with
  |.v (.one (.p _ _ x)),.v (.one (.p _ _ y))=>match tt t with
   |some { k:=.int _,.. }|some { k:=.str,.. }=>some (.calc (P.PG op x y) (P.bin op x y))
   |some { k:=.bool,.. }=>some (.calc (P.Nr op x y) (P.bin op x y))
   |_=>none
  |.v (.agg xs),.v (.agg ys)=>match tt t with
   |some i=>match mP tt 0 i.k.parts xs ys,aee op with
    |some c,some b=>if i.eq=true then some (.calc c.1 (.bool (c.2==b)))else none
    |_,_=>none
   |none=>none
  |_,_=>none
 |.unOp op _ x=>match f x with
  |.v (.one (.p _ _ x))=>some (.calc (P.ahF op x) (P.un op x))
  |_=>none
 |.convert s t x=>match tt s,tt t,f x with
  |some { k:=.int _,.. },some { k:=.int k,.. },.v (.one (.p _ _ x))=>some (.calc (jg x) (.int k (k.wrap x.num)))
  |some { k:=.slice e,.. },some { k:=.str,.. },.v (.one x)=>match tt e with
   |some { k:=.int .u8,.. }=>match x.rows o 1 with
    |some (ask,l,_,_)=>some (.calc (ask/\isBytes l) (Hr l))
    |none=>none
   |_=>none
  |some { k:=.str,.. },some { k:=.slice e,.. },.v (.one (.p _ _ x))=>match tt e with
   |some { k:=.int .u8,.. }=>some (.calc x.isStr (Ns x))
   |_=>none
  |_,_,_=>none
 |.makeSlice t n c=>match tt t,f n,f c with
  |some { k:=.slice e,.. },.v (.one (.p _ _ n)),.v (.one (.p _ _ c))=>match tt e with
   |some ie=>match wK o (ie.zero.map cv)with
    |some (ps,false,false,[])=>if 0<ie.size then
     some (.mk (∃m k:Nat,n=.int .i64 m/\c=.int .i64 k/\m<=k/\ie.bytes*k<=281474976710656/\k<=9223372036854775807) (.sl ie.size (List.replicate n.nat ps))
      (λ_=>.v (.one (.own d))) (λy=>[(d,.arr false false false ie.size y.list)]) [d])else none
    |_=>none
   |none=>none
  |_,_,_=>none
 |.slice t x lo hi none=>match tt t,f x with
  |some { k:=.slice e,.. },.v (.one x)=>match tt e,lenOf o x with
   |some ie,some (ask,len)=>match lH (kE 0) (lo.map f),lH len (hi.map f)with
    |some lo,some hi=>match x with
     |.own g=>match (o g).dim with
      |some (sz,l)=>if sz=ie.size then
        some (.mk (∃m k:Nat,lo=.int .i64 m/\hi=.int .i64 k/\m<=k/\k<=l) (default) (λ_=>.v (.one (.vw g lo hi))) (pX) [])else none
      |none=>none
     |.p a i y=>some (.mk (ask/\y.T_ ie.size/\∃m k:Nat,lo=.int .i64 m/\hi=.int .i64 k/\m<=k/\k<=y.list.length) (P.sub ie.size lo.nat hi.nat y)
       (λz=>.v (.one (.p a i z))) pX [])
     |.b_=>some (.mk (lo=kE 0/\hi=kE 0) (default) (λ_=>.v (.one .b_)) (pX) [])
     |_=>none
    |_,_=>none
   |_,_=>none
  |some { k:=.str,.. },.v (.one (.p _ _ y))=>match lH (kE 0) (lo.map f),lH y.len (hi.map f)with
   |some lo,some hi=>some (.calc (y.isStr/\∃m k:Nat,lo=.int .i64 m/\hi=.int .i64 k/\m<=k/\k<=y.bytes.size) (P.ahH y lo hi))
   |_,_=>none
  |_,_=>none
 |.slice t x none (some hi) (some mx)=>AB tt o t (f x) (f hi) (f mx)
 |.fieldAddr t x n=>match tt t,placeOf tt t n,f x with
  |some { k:=.struct _,.. },some (off',sz'),.v (.one x)=>if 0<sz'/\x.live o=true then some (.pure (.v (.one (x.shift off'))))else none
  |_,_,_=>none
 |.field t x n=>match tt t,f x with
  |some { k:=.struct fs,.. },.v (.agg ws)=>match fs[n]? with
   |some (off,u)=>match tt u with
    |some iu=>if off+iu.size<=ws.length/\0<iu.size then some (.pure (V.fA iu.agg ((ws.drop off).take iu.size)))else none
    |none=>none
   |none=>none
  |_,_=>none
 |.indexAddr t x ix=>match tt t,f x,f ix with
  |some { k:=.slice e,.. },.v (.one x),.v (.one (.p _ _ n))=>match tt e,x with
   |some ie,.own g=>match (o g).dim with
    |some (sz,l)=>if sz=ie.size then some (.mk (inRange n l) (default) (λ_=>.v (.one (.ep g (kE n.nat) 0))) (pX) [])else none
    |none=>none
   |some ie,.vw g lo hi=>match (o g).dim with
    |some (sz,_)=>if sz=ie.size then some (.mk (inRange n (hi.nat-lo.nat)) (default) (λ_=>.v (.one (.ep g (kE (lo.nat+n.nat)) 0))) (pX) [])else none
    |none=>none
   |some ie,.p a i y=>some (.mk (y.T_ ie.size/\inRange n y.list.length) (default) (λ_=>.v (.one (.sp a i (y.list.getD n.nat []) 0))) (pX) [])
   |_,_=>none
  |some { k:=.arr m e,.. },.v (.one (.gl g)),.v (.one (.p _ _ n))=>match tt e,dV.gt g with
   |some ie,some (sz,rows)=>if sz=ie.size/\rows.length=m then some (.mk (inRange n m) (default) (λ_=>.v (.one (.sp false false (rows.getD n.nat []) 0))) (pX) [])else none
   |_,_=>none
  |some { k:=.arr m e,.. },.v (.one x),.v (.one (.p _ _ (.int _ n)))=>match tt e with
   |some ie=>if 0<=n/\n<m/\x.live o=true then some (.pure (.v (.one (x.shift (n.toNat*ie.size)))))else none
   |none=>none
  |_,_,_=>none
 |.index t x ix=>match tt t,f x,f ix with
  |some { k:=.str,.. },.v (.one (.p _ _ x)),.v (.one (.p _ _ n))=>some (.calc (x.isStr/\inRange n x.bytes.size) (P.agQ x n))
  |_,_,_=>none
 |.range t x=>match tt t,f x with
  |some { k:=.str,.. },.v (.one (.p _ _ x))=>some (.mk x.isStr x (λ_=>.v (.one (.mO d))) (λy=>[(d,.it y (kE 0))]) [d])
  |_,_=>none
 |.extract t n=>match f t with
  |.lq xs=>match xs[n]? with
   |some x=>some (.pure (.v x))
   |none=>none
  |_=>none
 |.makeFunc (.func g) first caps=>if first.size=0 then
   match caps.toList.mapM (λx=>match f x with|.v (.one w)=>some w|_=>none)with
   |some ws=>some (.pure (.v (.one (.clo g ws))))
   |none=>none
   else none
 |.call { callee:=.builtin .len,args,argTypes }=>match args.toList,argTypes.toList with
  | [x],[t]=>match tt t,f x with
   |some { k:=.slice _,.. },.v (.one x)=>match lenOf o x with
    |some (ask,n)=>some (.calc ask n)
    |none=>none
   |some { k:=.str,.. },.v (.one (.p _ _ x))=>some (.calc x.isStr x.len)
   |_,_=>none
  |_,_=>none
 |.call { callee:=.builtin .append,args,argTypes }=>match args.toList,argTypes.toList with
  | [s,x],sT::xT::_=>match tt xT,f s,f x with
   |some { k:=.slice _,.. },.v (.one s),.v (.one x)=>uH tt d o sT s x
   |_,_,_=>none
  |_,_=>none
 |.call { callee:=.builtin .min,args,.. }=>match args.toList with
  | [x,y]=>match f x,f y with
   |.v (.one (.p _ _ x)),.v (.one (.p _ _ y))=>some (.calc (jg x/\jg y) (P.min x y))
   |_,_=>none
  | [x,y,z]=>match f x,f y,f z with
   |.v (.one (.p _ _ x)),.v (.one (.p _ _ y)),.v (.one (.p _ _ z))=>some (.calc (jg x/\jg y/\jg z) (P.min (P.min x y) z))
   |_,_,_=>none
  |_=>none
 |.call { callee:=.builtin .max,args,.. }=>match args.toList with
  | [x,y]=>match f x,f y with
   |.v (.one (.p _ _ x)),.v (.one (.p _ _ y))=>some (.calc (jg x/\jg y) (P.max x y))
   |_,_=>none
  | [x,y,z]=>match f x,f y,f z with
   |.v (.one (.p _ _ x)),.v (.one (.p _ _ y)),.v (.one (.p _ _ z))=>some (.calc (jg x/\jg y/\jg z) (P.max (P.max x y) z))
   |_,_,_=>none
  |_=>none
 |_=>none
end Go.Fw

namespace Go.Fw
variable [dV]
def St.aB(st:St)(u:List (Nat×O))(new:List Nat):St:=
 { s:=st.s,o:=λg=>match u.lookup g with|some x=>x|none=>st.o g,used:=λg=>new.contains g||st.used g }
def St.put(st:St)(dst:Option Tmp)(x:S):St:=
 match dst with
 |some d=>{ st with s:=λt=>bif Nat.beq t d then x else st.s t }
 |none=>st
def eG(gh:Nat->Gh)(g:Nat)(G:Gh):Nat->Gh:=λg'=>if g'=g then G else gh g'
def Ht(val:Nat->Value)(dst:Option Tmp)(v:Value):Nat->Value:=
 match dst with
 |some d=>λt=>if t=d then v else val t
 |none=>val
section
variable {E:Env} {st st':St} {gh bG:Nat->Gh} {w w':World} {val:Nat->Value}
theorem eH.congr(ho:st'.o=st.o){x:W}{v:Value}(r:eH E st gh w x v):eH E st' gh w x v:=by
 have hok:E.ok st' gh w=E.ok st gh w:=by funext a i b;simp only[Env.ok,ho]
 induction r with
 |p a i x v hx=>exact .p a i x v (by rw[hok];exact hx)
 |b_=>exact .b_
 |own g v hv hx=>exact .own g v hv (by rw[ho];exact hx)
 |vw g lo hi v hv hx=>exact .vw g lo hi v hv (by rw[ho];exact hx)
 |box g off v hv hx=>exact .box g off v hv (by rw[ho];exact hx)
 |ep g n off v hv hx=>exact .ep g n off v hv (by rw[ho];exact hx)
 |sp a i row off b o hb hx=>exact .sp a i row off b o (by rw[hok];exact hb) (by rw[hok];exact hx)
 |gl g=>exact .gl g
 |mO g v hv hx=>exact .mO g v hv (by rw[ho];exact hx)
 |gd b x v hx ih=>exact .gd b x v ih
 |clo f caps vs hl hx ih=>exact .clo f caps vs hl ih
 |no v=>exact .no v
theorem qH.congr(ho:st'.o=st.o){x:V}{v:Value}(r:qH E st gh w x v):qH E st' gh w x v:=by
 cases r with
 |one x v h=>exact .one x v (h.congr ho)
 |agg xs cs hl hv h=>exact .agg xs cs hl hv λj x v a b=>(h j x v a b).congr ho
theorem dn.congr(ho:st'.o=st.o){x:S}{v:Value}(r:dn E st gh w x v):dn E st' gh w x v:=by
 cases r with
 |v x v h=>exact .v x v (h.congr ho)
 |lq xs vs hl h=>exact .lq xs vs hl λj x v a b=>(h j x v a b).congr ho
 |no v=>exact .no v
theorem lF.congr(ho:st'.o=st.o){x:O}{G:Gh}(r:lF E st gh w x G):lF E st' gh w x G:=by
 have hok:E.ok st' gh w=E.ok st gh w:=by funext a i b;simp only[Env.ok,ho]
 cases x with
 |none=>trivial
 |box ws=>obtain⟨ad,c,e,h1,h2,h3,h4,h5⟩:=r;exact⟨ad,c,e,h1,h2,h3,h4,λj x hx=>let ⟨v,a,b,c⟩:=h5 j x hx;⟨v,a,b,c.congr ho⟩⟩
 |arr fz a i sz l=>
  cases fz with
  |false=>simpa only[lF,iw,hok]using r
  |true=>simpa only[lF,hok]using r
 |aF a i sz ah l hole=>
  rcases r with r|⟨ad,c,e,h1,h2,h3,h4,h5,h6,h7,h8⟩;exact .inl r;refine .inr ⟨ad,c,e,h1,h2,h3,h4,h5,h6,h7,λn x hx j y hy=>?_⟩;obtain⟨v,hv,hr⟩:=h8 n x hx j y hy;refine⟨v,hv,?_⟩;unfold iy at *;cases hc:ah.lookup j with
  |none=>rw[hc]at hr;simp only[hok]at *;exact hr
  |some sz'=>
   rw[hc]at hr;simp only at *;cases hh:gB hole n j with
   |some d=>rw[hh]at hr;exact⟨hr.1,hr.2.congr ho⟩
   |none=>rw[hh]at hr;simpa only[yT,iw,hok]using hr
 |it s n=>exact r
theorem Rel.put(h:Rel E st gh val w)(dst:Option Tmp){x:S}{v:Value}(hx:dn E st gh w x v)(hu :∀g∈x.names,st.used g=true):
  Rel E (st.put dst x) gh (Ht val dst v) w:=by
 cases dst with
 |none=>exact h
 |some d=>
  have ho:(st.put (some d) x).o=st.o:=rfl;refine⟨λt=>?_,λg=>(h.aW g).congr ho,h.inj,h.wr,h.wi,h.ns,h.wb,h.frame,h.size,h.os,h.tape,h.output,λt g hg=>?_,h.uo,h.ul⟩
  .by_cases ht:t=d
   .subst ht;simp only[St.put,Ht,if_true];have:Nat.beq t t=true:=by simp
    rw[this];exact hx.congr ho
   .have hb:Nat.beq t d=false:=by cases h:Nat.beq t d with|false=>rfl|true=>exact absurd (Qf h) ht
    simp only[St.put,Ht,QR ht,hb];exact(h.slots t).congr ho
  .by_cases ht:t=d
   .subst ht;have:Nat.beq t t=true:=by simp
    simp only[St.put,this]at hg;exact hu g hg
   .have hb:Nat.beq t d=false:=by cases h:Nat.beq t d with|false=>rfl|true=>exact absurd (Qf h) ht
    simp only[St.put,hb]at hg;exact h.us t g hg
theorem Rel.step(h:Rel E st gh val w)(hl:Lets E st st' gh bG w w')(hs:st'.s=st.s)(KY :∀g,st.used g=true->st'.used g=true)
  (C9 :∀g,lF E st' bG w' (st'.o g) (bG g))
  (inj :∀g g' b,(st'.o g).bJ=true->(st'.o g').bJ=true->(bG g).has b->(bG g').has b->g=g')
  (wr :∀g b,(st'.o g).bJ=true->(bG g).has b->(E.B0<=b\/E.Wr b)/\b<w'.heap.size)
  (wi :∀g i b,(st'.o g).inner=some i->(bG g).has b->E.Wr b->i=true)
  (ns :∀g,(st'.o g).bJ=true->(st'.o g).nH=false->∀b,(bG g).sub b=none)
  (frame :∀b,b<E.B0->¬ E.Wr b->w'.heap[b]?=w.heap[b]?) (size:w.heap.size<=w'.heap.size) (os:w'.os=w.os) (tape:w'.tape=w.tape) (output:w'.output=w.output)
  (uo :∀g,∀g'∈(st'.o g).names,st'.used g'=true) (ul :∀g,st'.o g≠.none->st'.used g=true):Rel E st' bG val w':=
 ⟨λt=>by rw[hs];exact hl.aed (h.us t) (h.slots t),C9,inj,wr,wi,ns,h.wb,λb hb hw=>(frame b hb hw).trans (h.frame b hb hw),J0 h.size size,os.trans h.os,tape.trans h.tape,
  output.trans h.output,λt g hg=>KY g (h.us t g (by rw[hs]at hg;exact hg)),uo,ul⟩
theorem Rel.drew(h:Rel E st gh val w)(n:Nat):Rel E st gh val { w with drawn:=n }:=by have hl:Lets E st st gh gh w { w with drawn:=n }:=⟨λa i b hb=>⟨hb,rfl⟩,λg _=>.inr ⟨⟨rfl,rfl⟩,O.eU _⟩⟩;exact h.step hl rfl (λ_ h=>h) (λg=>hl.Az (λ_ _ _=>rfl) (h.uo g) (h.aW g)) h.inj h.wr h.wi h.ns (λ_ _ _=>rfl) (ZD _) rfl rfl rfl h.uo h.ul
theorem Rel.fresh(h:Rel E st gh val w)(w':World)(hh :∀b,b<w.heap.size->w'.heap[b]?=w.heap[b]?)(hsz:w.heap.size<=w'.heap.size)(hos:w'.os=w.os)(htape:w'.tape=w.tape)(hout:w'.output=w.output):
  Rel E st gh val w'/\Lets E st st gh gh w w':=by
 have hl:Lets E st st gh gh w w':=⟨λa i b hb=>⟨⟨hb.1,Vi hb.2.1 hsz,hb.2.2⟩,hh b hb.2.1⟩,λg _=>.inr ⟨⟨rfl,rfl⟩,O.eU _⟩⟩;exact⟨h.step hl rfl (λ_ h=>h) (λg=>hl.Az (λho b hb=>hh b (h.wr g b ho hb).2) (h.uo g) (h.aW g)) h.inj (λg b ho hb=>⟨(h.wr g b ho hb).1,Vi (h.wr g b ho hb).2 hsz⟩) h.wi h.ns
  (λb hb _=>hh b (Vi hb h.size)) hsz hos htape hout h.uo h.ul,hl⟩
theorem O.kF{o:O}{i:Bool}(h:o.inner=some i):o.bJ=true:=by
 cases o with
 |arr fz a i' sz l=>cases fz<;>simp[O.inner,O.bJ]at h ⊢
 |aF a i' sz ah l hole=>rfl
 |none=>simp[O.inner]at h
 |box ws=>simp[O.inner]at h
 |it s n=>simp[O.inner]at h
theorem O.oD{o:O}(h:o.bJ=true):o≠.none:=by intro e;rw[e]at h;cases h
theorem Rel.aef(h:Rel E st gh val w){g b:Nat}{a i:Bool}(hi:(st.o g).inner=some i)(hb:(gh g).has b)(hst :∀g',(st'.o g').bJ=true->(st.o g').bJ=true/\g'≠g):E.ok st' gh w a i b:=by
 have hw:=h.wr g b (O.kF hi) hb;refine⟨?_,hw.2,λg2 h2 had=>?_⟩
 .rcases hw.1 with h0|h0
  .exact .inr (.inr (.inl h0))
  .exact .inr (.inl ⟨h.wi g i b hi hb h0,.inr h0⟩)
 .exact (hst g2 h2).2 (h.inj g2 g b (hst g2 h2).1 (O.kF hi) had hb)
theorem iw.plain{a i:Bool}{sz:Nat}{l:List (List P)}{G:Gh}(r:iw E st gh w a i sz l G)(hl:Lets E st st' gh bG w w)(hok :∀ad,G.ad=some ad->E.ok st' bG w a i ad.block):
  bU w (E.ok st' bG w a i) (.sl sz l) (.slice G.ad l.length G.cap):=by
 rcases r with⟨h1,h2,h3⟩|⟨ad,c,e,h1,h2,h3,h4,h5,h6,h7⟩
 .subst h3;rw[h1];exact .nil sz none _
 .rw [h1];have hcell :∀n x,l[n]?=some x->∀j y,x[j]?=some y->w.cell? ⟨ad.block,ad.off+n*sz+j,none⟩=c[ad.off+n*sz+j]?:=by intro n x hx j y hy;simp[World.cell?,h3]
  refine .sl sz l ad G.cap (λn j=>(c[ad.off+n*sz+j]?).getD undef) h2 (λ_=>hok ad h1) h5.1 h6 (λn x hx j y hy=>?_) (λn x hx j y hy=>?_)
  .obtain ⟨v,hv,_⟩:=h7 n x hx j y hy;rw[hcell n x hx j y hy,hv];rfl
  .obtain ⟨v,hv,hr⟩:=h7 n x hx j y hy;simp only[hv,Option.getD_some];exact hl.kD hr
theorem Rel.kill(h:Rel E st gh val w)(g:Nat):Rel E (st.aB [(g,.none)] []) gh val w/\Lets E st (st.aB [(g,.none)] []) gh gh w w:=by
 have hold :∀g',g'≠g->(st.aB [(g,.none)] []).o g'=st.o g':=by
  intro g' hg';have:(g'==g)=false:=by simpa using hg'
  simp[St.aB,List.lookup,this]
 have hnew:(st.aB [(g,.none)] []).o g=.none:=by simp[St.aB,List.lookup]
 have hown :∀g',((st.aB [(g,.none)] []).o g').bJ=true->(st.o g').bJ=true/\g'≠g:=by
  intro g' hg';by_cases e:g'=g
  .subst e;rw[hnew]at hg';simp[O.bJ]at hg'
  .rw [hold g' e]at hg';exact⟨hg',e⟩
 have hl:Lets E st (st.aB [(g,.none)] []) gh gh w w:=by
  refine⟨λa' i' b hb=>⟨⟨hb.1,hb.2.1,λg' hg'=>hb.2.2 g' (hown g' hg').1⟩,rfl⟩,λg' _=>?_⟩;by_cases e:g'=g
  .subst e;exact .inl hnew
  .exact .inr ⟨⟨rfl,rfl⟩,by rw[hold g' e];exact O.eU _⟩
 refine⟨h.step hl rfl (λg hg=>by simp[St.aB,hg]) (λg'=>?_) (λg1 g2 b h1 h2=>h.inj g1 g2 b (hown g1 h1).1 (hown g2 h2).1) (λg1 b h1=>h.wr g1 b (hown g1 h1).1)
  (λg1 i1 b h1 h2 h3=>by have e:g1≠g:=(hown g1 (O.kF h1)).2;rw[hold g1 e]at h1;exact h.wi g1 i1 b h1 h2 h3)
  (λg1 h1 h2=>by have e:g1≠g:=(hown g1 h1).2;rw[hold g1 e]at h1 h2;exact h.ns g1 h1 h2)
  (λ_ _ _=>rfl) (ZD _) rfl rfl rfl (λg' x hx=>?_) (λg' hg'=>?_),hl⟩
 .by_cases e:g'=g
  .subst e;rw[hnew];trivial
  .rw [hold g' e];exact hl.Az (λ_ _ _=>rfl) (h.uo g') (h.aW g')
 .by_cases e:g'=g
  .subst e;rw[hnew]at hx;simp[O.names]at hx
  .rw [hold g' e]at hx;simpa[St.aB]using h.uo g' x hx
 .by_cases e:g'=g
  .subst e;exact absurd hnew hg'
  .rw [hold g' e]at hg';simpa[St.aB]using h.ul g' hg'
theorem Rel.merge(h:Rel E st gh val w)(S:Nat->Prop)(d:Nat)(x:O)(G:Gh)(st':St)(w':World)
  (hs:st'.s=st.s) (hod:st'.o d=x) (hoS :∀g,S g->g≠d->st'.o g=.none) (zD :∀g,¬ S g->g≠d->st'.o g=st.o g)
  (hus :∀g,st.used g=true->st'.used g=true) (hud:st'.used d=true)
  (Eu:st.used d=true->(G.ad=(gh d).ad/\G.cap=(gh d).cap)/\(st.o d).like x)
  (hB :∀b,G.has b->(∃g,(S g\/g=d)/\(st.o g).bJ=true/\(gh g).has b)\/(w.heap.size<=b/\b<w'.heap.size))
  (hw :∀b,b<w.heap.size->(∀g,(S g\/g=d)->(st.o g).bJ=true->¬ (gh g).has b)->w'.heap[b]?=w.heap[b]?)
  (hsz:w.heap.size<=w'.heap.size) (hos:w'.os=w.os) (htape:w'.tape=w.tape) (hout:w'.output=w.output)
  (hwi :∀i b,x.inner=some i->G.has b->E.Wr b->i=true) (hns:x.bJ=true->x.nH=false->∀b,G.sub b=none)
  (hx:Lets E st st' gh (eG gh d G) w w'->lF E st' (eG gh d G) w' x G)
  (hn :∀g∈x.names,st'.used g=true) :
  Rel E st' (eG gh d G) val w'/\Lets E st st' gh (eG gh d G) w w':=by
 have hgo :∀g',g'≠d->eG gh d G g'=gh g':=λg' e=>by simp[eG,e]
 have hgn:eG gh d G d=G:=by simp[eG]
 have oV :∀g',(st'.o g').bJ=true->g'=d\/(g'≠d/\¬ S g'/\(st.o g').bJ=true):=by
  intro g' hg';by_cases e:g'=d;exact .inl e;by_cases e2:S g'
  .rw [hoS g' e2 e]at hg';simp[O.bJ]at hg'
  .rw [zD g' e2 e]at hg';exact .inr ⟨e,e2,hg'⟩
 have hl:Lets E st st' gh (eG gh d G) w w':=by
  refine⟨λa' i' b hb=>⟨⟨hb.1,Vi hb.2.1 hsz,λg' hg' had=>?_⟩,hw b hb.2.1 λg _ hg=>hb.2.2 g hg⟩,λg' hg'=>?_⟩
  .rcases oV g' hg' with e|⟨e1,e2,e3⟩
   .subst e;rw[hgn]at had;rcases hB b had with⟨g,_,hg,hgb⟩|⟨hb1,_⟩;exact hb.2.2 g hg hgb;have:=hb.2.1;omega
   .rw [hgo g' e1]at had;exact hb.2.2 g' e3 had
  .by_cases e:g'=d
   .subst e;rw[hgn,hod];exact .inr (Eu hg')
   .by_cases e2:S g';exact .inl (hoS g' e2 e);exact .inr ⟨by rw[hgo g' e];exact⟨rfl,rfl⟩,by rw[zD g' e2 e];exact O.eU _⟩
 have akl :∀g1 b,g1≠d->¬ S g1->(st.o g1).bJ=true->(gh g1).has b->G.has b->False:=by
  intro g1 b e1 e2 e3 k1 k2;rcases hB b k2 with⟨g,hg,hgo',hgb⟩|⟨hb1,_⟩
  .have:=h.inj g1 g b e3 hgo' k1 hgb;subst this;rcases hg with hg|hg
   .exact e2 hg
   .exact e1 hg
  .have:=(h.wr g1 b e3 k1).2;omega
 refine⟨h.step hl hs hus (λg'=>?_) (λg1 g2 b h1 h2 k1 k2=>?_) (λg1 b h1 k1=>?_) (λg1 i1 b h1 h2 h3=>?_) (λg1 h1 h2=>?_)
  (λb hb hwr=>hw b (by have:=h.size;omega) λg _ hg hgb=>?_) hsz hos htape hout (λg' y hy=>?_) (λg' hg'=>?_),hl⟩
 .by_cases e:g'=d
  .subst e;rw[hod,hgn];exact hx hl
  .by_cases e2:S g'
   .rw [hoS g' e2 e];trivial
   .rw [zD g' e2 e,hgo g' e];refine hl.Az (λho b hb=>hw b (h.wr g' b ho hb).2 λg hg hgo' hgb=>?_) (h.uo g') (h.aW g');have:=h.inj g' g b ho hgo' hb hgb;subst this;rcases hg with hg|hg
    .exact e2 hg
    .exact e hg
 .rcases oV g1 h1 with e1|⟨e1,e1',Ua⟩<;>rcases oV g2 h2 with e2|⟨e2,e2',akm⟩
  .rw [e1,e2]
  .subst e1;rw[hgn]at k1;rw[hgo g2 e2]at k2;exact(akl g2 b e2 e2' akm k2 k1).elim
  .subst e2;rw[hgn]at k2;rw[hgo g1 e1]at k1;exact(akl g1 b e1 e1' Ua k1 k2).elim
  .rw [hgo g1 e1]at k1;rw[hgo g2 e2]at k2;exact h.inj g1 g2 b Ua akm k1 k2
 .rcases oV g1 h1 with e1|⟨e1,e1',Ua⟩
  .subst e1;rw[hgn]at k1;rcases hB b k1 with⟨g,_,hg,hgb⟩|⟨hb1,hb2⟩
   .have:=h.wr g b hg hgb;exact⟨this.1,Vi this.2 hsz⟩
   .exact ⟨.inl (J0 h.size hb1),hb2⟩
  .rw [hgo g1 e1]at k1;have:=h.wr g1 b Ua k1;exact⟨this.1,Vi this.2 hsz⟩
 .rcases oV g1 (O.kF h1)with e1|⟨e1,e1',Ua⟩
  .subst e1;rw[hod]at h1;rw[hgn]at h2;exact hwi i1 b h1 h2 h3
  .rw [zD g1 e1' e1]at h1;rw[hgo g1 e1]at h2;exact h.wi g1 i1 b h1 h2 h3
 .rcases oV g1 h1 with e1|⟨e1,e1',Ua⟩
  .subst e1;rw[hod]at h1 h2;rw[hgn];exact hns h1 h2
  .rw [zD g1 e1' e1]at h2;rw[hgo g1 e1];exact h.ns g1 Ua h2
 .rcases (h.wr g b hg hgb).1 with h0|h0
  .omega
  .exact hwr h0
 .by_cases e:g'=d
  .subst e;rw[hod]at hy;exact hn y hy
  .by_cases e2:S g'
   .rw [hoS g' e2 e]at hy;simp[O.names]at hy
   .rw [zD g' e2 e]at hy;exact hus y (h.uo g' y hy)
 .by_cases e:g'=d
  .subst e;exact hud
  .by_cases e2:S g';exact absurd (hoS g' e2 e) hg';rw[zD g' e2 e]at hg';exact hus g' (h.ul g' hg')
theorem uI(w:World)(o:Obj)(b:Nat)(hb:b<w.heap.size):(w.heap.push o)[b]?=w.heap[b]?:=by rw[Array.getElem?_push,QR (by omega)]
theorem Hu(gh:Nat->Gh)(g:Nat):eG gh g (gh g)=gh:=by
 funext g';unfold eG;split
 .rename_i e;rw[e]
 .rfl
theorem yB{st:St}{g:Nat}{x:O}{new:List Nat}:(st.aB [(g,x)] new).o g=x/\∀g',g'≠g->(st.aB [(g,x)] new).o g'=st.o g':=by
 refine⟨by simp[St.aB,List.lookup],λg' hg'=>?_⟩;have:(g'==g)=false:=by simpa using hg'
 simp[St.aB,List.lookup,this]
theorem Rel.agR(h:Rel E st gh val w)(d:Nat)(hd:st.used d=false)(x:O)(ob:Obj)(G:Gh)(hG:G.ad=some ⟨w.heap.size,0,none⟩)(hS :∀b,G.sub b=none)
  (hx :∀bG w',Lets E st (st.aB [(d,x)] [d]) gh bG w w'->bG=eG gh d G->w'={ w with heap:=w.heap.push ob }->lF E (st.aB [(d,x)] [d]) bG w' x G)
  (hn :∀g∈x.names,st.used g=true) :
  Rel E (st.aB [(d,x)] [d]) (eG gh d G) val { w with heap:=w.heap.push ob }/\Lets E st (st.aB [(d,x)] [d]) gh (eG gh d G) w { w with heap:=w.heap.push ob }:=by
 have hhas :∀b,G.has b->b=w.heap.size:=by
  rintro b (⟨ad,h1,h2⟩|h1)
  .rw [hG]at h1;cases h1;exact h2.symm
  .rw [hS]at h1;cases h1
 refine h.merge (λ_=>False) d x G _ _ rfl yB.1 (λg h=>h.elim) (λg _ hg=>yB.2 g hg) (λg hg=>by simp[St.aB,hg]) (by simp[St.aB]) (λhu=>by rw[hd]at hu;cases hu)
  (λb hb=>.inr (by rw[hhas b hb];simp)) (λb hb _=>uI w _ b hb) (by simp) rfl rfl rfl (λi b _ hb hwr=>?_) (λ_ _=>hS) (λhl=>hx _ _ hl rfl rfl) (λg hg=>by simp[St.aB,hn g hg])
 have:=h.wb _ hwr;have:=h.size;have:=hhas b hb;omega
theorem Rel.make(h:Rel E st gh val w)(d:Nat)(hd:st.used d=false)(x:O)(c:Array Value)(e:TypeId)(G:Gh)(hG:G.ad=some ⟨w.heap.size,0,none⟩)(hS :∀b,G.sub b=none)
  (hx :∀bG w',Lets E st (st.aB [(d,x)] [d]) gh bG w w'->bG=eG gh d G->w'={ w with heap:=w.heap.push (.cells c e) }->lF E (st.aB [(d,x)] [d]) bG w' x G)
  (hn :∀g∈x.names,st.used g=true) :
  Rel E (st.aB [(d,x)] [d]) (eG gh d G) val { w with heap:=w.heap.push (.cells c e) }/\Lets E st (st.aB [(d,x)] [d]) gh (eG gh d G) w { w with heap:=w.heap.push (.cells c e) }:=
 h.agR d hd x (.cells c e) G hG hS hx hn
theorem Rel.write(h:Rel E st gh val w)(g:Nat)(ad:Addr)(hg:(st.o g).bJ=true)(had:(gh g).ad=some ad)(x:O)(Eu:(st.o g).like x)(w':World)
  (hw :∀b,b≠ad.block->w'.heap[b]?=w.heap[b]?) (hsz:w'.heap.size=w.heap.size) (hos:w'.os=w.os) (htape:w'.tape=w.tape) (hout:w'.output=w.output)
  (hown:x.bJ=true) (hwi :∀i,x.inner=some i->∃i',(st.o g).inner=some i'/\(i'=true->i=true)) (hdp:x.nH=false->(st.o g).nH=false)
  (hx:Lets E st (st.aB [(g,x)] []) gh gh w w'->lF E (st.aB [(g,x)] []) gh w' x (gh g))
  (hn :∀g∈x.names,st.used g=true) :
  Rel E (st.aB [(g,x)] []) gh val w'/\Lets E st (st.aB [(g,x)] []) gh gh w w':=by
 have:=h.merge (λ_=>False) g x (gh g) (st.aB [(g,x)] []) w' rfl yB.1 (λg h=>h.elim) (λg _ hg=>yB.2 g hg) (λg hg=>by simp[St.aB,hg]) (by simp[St.aB];exact h.ul g (O.oD hg))
  (λ_=>⟨⟨rfl,rfl⟩,Eu⟩) (λb hb=>.inl ⟨g,.inr rfl,hg,hb⟩) (λb _ hb=>hw b λe=>hb g (.inr rfl) hg (e▸Gh.jC had)) (by omega) hos htape hout
  (λi b hi hb hwr=>?_) (λ_ hd=>h.ns g hg (hdp hd)) (by rw[Hu];exact hx) (λg' hg'=>by simp[St.aB,hn g' hg'])
 .rw [Hu]at this;exact this
 .obtain ⟨i',h1,h2⟩:=hwi i hi;exact h2 (h.wi g i' b h1 hb hwr)
theorem Rel.shift(h:Rel E st gh val w)(g d:Nat)(hd:st.used d=false)(ad:Addr)(hg:(st.o g).bJ=true)(had:(gh g).ad=some ad)(x:O)(G:Gh)(hG:G.ad=some ad)
  (hS :∀b,(G.sub b).isSome=true->((gh g).sub b).isSome=true) (hns:x.bJ=true->x.nH=false->∀b,G.sub b=none) (w':World)
  (hw :∀b,b≠ad.block->w'.heap[b]?=w.heap[b]?) (hsz:w'.heap.size=w.heap.size) (hos:w'.os=w.os) (htape:w'.tape=w.tape) (hout:w'.output=w.output)
  (hwi :∀i b,x.inner=some i->G.has b->E.Wr b->i=true)
  (hx:Lets E st (st.aB [(g,.none),(d,x)] [d]) gh (eG gh d G) w w'->lF E (st.aB [(g,.none),(d,x)] [d]) (eG gh d G) w' x G)
  (hn :∀g∈x.names,st.used g=true) :
  Rel E (st.aB [(g,.none),(d,x)] [d]) (eG gh d G) val w'/\Lets E st (st.aB [(g,.none),(d,x)] [d]) gh (eG gh d G) w w':=by
 have hgu:st.used g=true:=h.ul g (O.oD hg);have hgd:g≠d:=by intro e;subst e;rw[hd]at hgu;cases hgu
 refine h.merge (λg'=>g'=g) d x G _ w' rfl ?_ (λg' e _=>?_) (λg' e1 e2=>?_) (λg hg=>by simp[St.aB,hg]) (by simp[St.aB]) (λhu=>by rw[hd]at hu;cases hu)
  (λb hb=>.inl ⟨g,.inl rfl,hg,?_⟩) (λb _ hb=>hw b λe=>hb g (.inl rfl) hg (e▸Gh.jC had)) (by omega) hos htape hout hwi hns hx (λg' hg'=>by simp[St.aB,hn g' hg'])
 .have e1:(d==g)=false:=by simpa using hgd.symm
  simp[St.aB,List.lookup,e1]
 .subst e;simp[St.aB,List.lookup]
 .have e1:(g'==g)=false:=by simpa using e1
  have e2:(g'==d)=false:=by simpa using e2
  simp[St.aB,List.lookup,e1,e2]
 .rcases hb with⟨ad',h1,h2⟩|h1
  .rw [hG]at h1;cases h1;exact .inl ⟨ad,had,h2⟩
  .exact .inr (hS b h1)
theorem Rel.Nu(h:Rel E st gh val w)(d:Nat)(hd:st.used d=false)(x:O)(hx:lF E (st.aB [(d,x)] [d]) (eG gh d Gh.nil) w x Gh.nil)(hn :∀g∈x.names,st.used g=true):
  Rel E (st.aB [(d,x)] [d]) (eG gh d Gh.nil) val w/\Lets E st (st.aB [(d,x)] [d]) gh (eG gh d Gh.nil) w w:=
 h.merge (λ_=>False) d x Gh.nil _ w rfl yB.1 (λg h=>h.elim) (λg _ hg=>yB.2 g hg) (λg hg=>by simp[St.aB,hg]) (by simp[St.aB]) (λhu=>by rw[hd]at hu;cases hu)
  (λb hb=>(Gh.not_nil hb).elim) (λ_ _ _=>rfl) (ZD _) rfl rfl rfl (λ_ b _ hb=>(Gh.not_nil hb).elim) (λ_ _ _=>rfl) (λ_=>hx) (λg hg=>by simp[St.aB,hn g hg])
theorem Rel.PK(h:Rel E st gh val w)(d:Nat)(hd:st.used d=false)(a i:Bool)(sz:Nat):
  Rel E (st.aB [(d,.arr false a i sz [])] [d]) (eG gh d Gh.nil) val w/\Lets E st (st.aB [(d,.arr false a i sz [])] [d]) gh (eG gh d Gh.nil) w w:=
 h.Nu d hd _ (.inl ⟨rfl,rfl,rfl⟩) (λg hg=>by simp[O.names]at hg)
theorem Rel.split(h:Rel E st gh val w){g d:Nat}(hd:st.used d=false){a i:Bool}{sz:Nat}{ah:List (Nat×Nat)}{l:List (List P)}(ho:st.o g=.aF a i sz ah l none)
  {n c sz':Nat} {x:List P} {y:P} (hc:ah.lookup c=some sz') (hxn:l[n]?=some x) (hyc:x[c]?=some y) :
  ∃(l':List (List P)) (ao:Option Addr) (k:Nat) (bG:Nat->Gh),y=P.fG sz' l'/\(∃ad cs e,(gh g).ad=some ad/\w.heap[ad.block]?=some (.cells cs e (0,0))/\cs[ad.off+n*sz+c]?=some (.slice ao l'.length k))/\
   (bG d).ad=ao/\(bG d).cap=k/\
   Rel E (st.aB [(g,.aF a i sz ah l (some (n,c,d))),(d,.arr false a i sz' l')] [d]) bG val w/\
   Lets E st (st.aB [(g,.aF a i sz ah l (some (n,c,d))),(d,.arr false a i sz' l')] [d]) gh bG w w:=by
 have hD:kC E st gh w a i sz ah l none (gh g):=by have:=h.aW g;rw[ho]at this;exact this
 rcases hD with⟨_,_,h3,_⟩|⟨ad,cs,e,h1,h2,h3,h4,h5,h6,⟨h7,h7'⟩,h8⟩
 .subst h3;simp at hxn
 obtain⟨v,hv,hr⟩:=h8 n x hxn c y hyc;simp only[iy,hc,gB]at hr;obtain⟨l',ao,k,hy,hv',hA,hsub⟩:=hr;subst hv';have hgo:(st.o g).bJ=true:=by rw[ho];rfl
 have hgu:st.used g=true:=h.ul g (O.oD hgo);have hgd:g≠d:=by intro e;subst e;rw[hd]at hgu;cases hgu
 let bG:Nat->Gh:=eG (eG gh g ⟨(gh g).ad,(gh g).cap,λb=>if ao.map (·.block)=some b then none else(gh g).sub b⟩) d ⟨ao,k,λ_=>none⟩
 have hGd:bG d=⟨ao,k,λ_=>none⟩:=by simp[bG,eG]
 have hGg:bG g=⟨(gh g).ad,(gh g).cap,λb=>if ao.map (·.block)=some b then none else(gh g).sub b⟩:=by simp[bG,eG,hgd]
 have hGo :∀g',g'≠g->g'≠d->bG g'=gh g':=λg' e1 e2=>by simp[bG,eG,e1,e2]
 generalize hst:st.aB [(g,.aF a i sz ah l (some (n,c,d))),(d,.arr false a i sz' l')] [d]=st';have hod:st'.o d=.arr false a i sz' l':=by
  subst hst;have e1:(d==g)=false:=by simpa using hgd.symm
  simp[St.aB,List.lookup,e1]
 have hog:st'.o g=.aF a i sz ah l (some (n,c,d)):=by subst hst;simp[St.aB,List.lookup]
 have zD :∀g',g'≠g->g'≠d->st'.o g'=st.o g':=by
  intro g' e1 e2;subst hst;have e1:(g'==g)=false:=by simpa using e1
  have e2:(g'==d)=false:=by simpa using e2
  simp[St.aB,List.lookup,e1,e2]
 have hss:st'.s=st.s:=by subst hst;rfl
 have hus :∀g,st.used g=true->st'.used g=true:=λg hg=>by subst hst;simp[St.aB,hg]
 have hud:st'.used d=true:=by subst hst;simp[St.aB]
 have hne :∀g,st.used g=true->g≠d:=λg hg e=>by subst e;rw[hd]at hg;cases hg
 have hdh :∀b,(bG d).has b->ao.map (·.block)=some b:=by
  rw[hGd];rintro b (⟨ad',h1,h2⟩|h1)
  .simp only at h1;rw[h1];simp[h2]
  .cases h1
 have hdg :∀b,(bG d).has b->(gh g).has b:=by
  intro b hb;have:=hdh b hb;cases hao:ao with
  |none=>rw[hao]at this;cases this
  |some ad'=>rw[hao]at this;simp at this;subst this;exact .inr (by rw[hsub ad' hao];rfl)
 have hgg :∀b,(bG g).has b->(gh g).has b/\ao.map (·.block)≠some b:=by
  rw[hGg];rintro b (⟨ad',k1,k2⟩|k1)
  .refine ⟨.inl ⟨ad',k1,k2⟩,λe=>?_⟩;cases hao:ao with
   |none=>rw[hao]at e;cases e
   |some AL=>rw[hao]at e;simp at e;have:=hsub AL hao;simp only at k1;rw[h1]at k1;cases k1;rw[e,<-k2,h7]at this;cases this
  .simp only at k1;split at k1;cases k1;rename_i hc;exact⟨.inr k1,hc⟩
 have hback :∀g1 b,(st'.o g1).bJ=true->(bG g1).has b->∃g0,(st.o g0).bJ=true/\(gh g0).has b/\(g1≠g->g1≠d->g0=g1)/\((g1=g\/g1=d)->g0=g):=by
  intro g1 b h1 h2;by_cases e:g1=g
  .subst e;exact⟨g1,hgo,(hgg b h2).1,λh=>(h rfl).elim,λ_=>rfl⟩
  .by_cases e2:g1=d
   .subst e2;exact⟨g,hgo,hdg b h2,λ_ h=>(h rfl).elim,λ_=>rfl⟩
   .rw [hGo g1 e e2]at h2;rw[zD g1 e e2]at h1;exact⟨g1,h1,h2,λ_ _=>rfl,λh=>h.elim (λh=>(e h).elim) (λh=>(e2 h).elim)⟩
 have hl:Lets E st st' gh bG w w:=by
  refine⟨λa' i' b hb=>⟨⟨hb.1,hb.2.1,λg' hg' had=>?_⟩,rfl⟩,λg' hg'=>.inr ?_⟩
  .obtain ⟨g0,k1,k2,_⟩:=hback g' b hg' had;exact hb.2.2 g0 k1 k2
  .by_cases e:g'=g
   .subst e;rw[hGg,hog,ho];exact⟨⟨rfl,rfl⟩,⟨rfl,rfl⟩⟩
   .rw [hGo g' e (hne g' hg'),zD g' e (hne g' hg')];exact⟨⟨rfl,rfl⟩,O.eU _⟩
 refine⟨l',ao,k,bG,hy,⟨ad,cs,e,h1,h3,hv⟩,by rw[hGd],by rw[hGd],?_⟩;rw[hst];refine⟨h.step hl hss hus (λg'=>?_) (λg1 g2 b k1 k2 k3 k4=>?_) (λg1 b k1 k2=>?_) (λg1 i1 b k1 k2 k3=>?_) (λg1 k1 k2 b=>?_)
  (λ_ _ _=>rfl) (ZD _) rfl rfl rfl (λg' y hy=>?_) (λg' hg'=>?_),hl⟩
 .by_cases e:g'=g
  .subst e;rw[hog,hGg];refine .inr ⟨ad,cs,_,h1,h2,h3,h4,h5,h6,⟨?_,λb hb=>?_⟩,λn' x' hx' j' y' hy'=>?_⟩
   .simp only;split
    .rfl
    .exact h7
   .simp only at hb;split at hb
    .cases hb
    .exact h7' b hb
   .obtain ⟨v',hv',hr'⟩:=h8 n' x' hx' j' y' hy';refine⟨v',hv',?_⟩;unfold iy at hr' ⊢;cases hc':ah.lookup j' with
    |none=>rw[hc']at hr';exact hl.kD hr'
    |some sz2=>
     rw[hc']at hr';simp only[gB]at hr' ⊢;by_cases hnj:n=n'/\c=j'
     .rw [Qt hnj];obtain⟨e1,e2⟩:=hnj;subst e1 e2;rw[hv]at hv';cases hv';exact⟨rfl,.own _ _ rfl λsz3 aoc hd3=>by rw[hod]at hd3;obtain⟨_,e2⟩:=O.jJ hd3;rw[hGd,e2]⟩
     .rw [QR hnj];obtain⟨l2,ao2,k2,q1,q2,q3,q4⟩:=hr';refine⟨l2,ao2,k2,q1,q2,hl.Aw (λ_ _=>rfl) q3,λAL rG=>?_⟩;have:=q4 AL rG;simp only;rw[QR,this];intro e;cases hao:ao with
      |none=>rw[hao]at e;cases e
      |some ad3=>rw[hao]at e;simp at e;have h9:=hsub ad3 hao;rw[e,this]at h9;cases h9;exact hnj ⟨rfl,rfl⟩
  .by_cases e2:g'=d
   .subst e2;rw[hod,hGd];exact hl.Aw (λ_ _=>rfl) hA
   .rw [zD g' e e2,hGo g' e e2];exact hl.Az (λ_ _ _=>rfl) (h.uo g') (h.aW g')
 .by_cases hm:(g1=g\/g1=d)/\(g2=g\/g2=d)
  .rcases hm with⟨m1,m2⟩;rcases m1 with m1|m1<;>rcases m2 with m2|m2
   .rw [m1,m2]
   .subst m1 m2;exact absurd (hdh b k4) (hgg b k3).2
   .subst m1 m2;exact absurd (hdh b k3) (hgg b k4).2
   .rw [m1,m2]
  .obtain ⟨p1,q1,q2,q3,q4⟩:=hback g1 b k1 k3;obtain⟨p2,r1,r2,r3,r4⟩:=hback g2 b k2 k4;have:=h.inj p1 p2 b q1 r1 q2 r2;by_cases m1:g1=g\/g1=d
   .by_cases m2:g2=g\/g2=d;exact absurd ⟨m1,m2⟩ hm;rw[q4 m1,r3 (λe=>m2 (.inl e)) (λe=>m2 (.inr e))]at this;exact absurd (.inl this.symm) m2
   .by_cases m2:g2=g\/g2=d
    .rw [r4 m2,q3 (λe=>m1 (.inl e)) (λe=>m1 (.inr e))]at this;exact absurd (.inl this) m1
    .rw [q3 (λe=>m1 (.inl e)) (λe=>m1 (.inr e)),r3 (λe=>m2 (.inl e)) (λe=>m2 (.inr e))]at this;exact this
 .obtain ⟨g0,q1,q2,_⟩:=hback g1 b k1 k2;exact h.wr g0 b q1 q2
 .by_cases e:g1=g
  .subst e;rw[hog]at k1;refine h.wi g1 i1 b ?_ (hgg b k2).1 k3;rw[ho];exact k1
  .by_cases e2:g1=d
   .subst e2;rw[hod]at k1;refine h.wi g i1 b ?_ (hdg b k2) k3;rw[ho];exact k1
   .rw [zD g1 e e2]at k1;rw[hGo g1 e e2]at k2;exact h.wi g1 i1 b k1 k2 k3
 .by_cases e:g1=g
  .subst e;rw[hog]at k2;cases k2
  .by_cases e2:g1=d
   .subst e2;rw[hGd]
   .rw [zD g1 e e2]at k1 k2;rw[hGo g1 e e2];exact h.ns g1 k1 k2 b
 .by_cases e:g'=g
  .subst e;rw[hog]at hy;simp[O.names,bZ]at hy;subst hy;exact hud
  .by_cases e2:g'=d
   .subst e2;rw[hod]at hy;simp[O.names]at hy
   .rw [zD g' e e2]at hy;exact hus _ (h.uo g' y hy)
 .by_cases e:g'=g
  .subst e;exact hus g' hgu
  .by_cases e2:g'=d
   .subst e2;exact hud
   .rw [zD g' e e2]at hg';exact hus _ (h.ul g' hg')
end
end Go.Fw

namespace Go.Fw
variable [dV]
def oG(Pg:Program)(t:TypeId):TK->Prop
 |.int k=>Pg.underlying t=some (.int k)
 |.bool=>Pg.underlying t=some .bool
 |.str=>Pg.underlying t=some .string
 |.slice e=>Pg.underlying t=some (.slice e)
 |.ptr=>∃e,Pg.underlying t=some (.pointer e)
 |.struct fs=>∃gs:Array Field,Pg.underlying t=some (.struct gs)/\gs.toList.map (λf=>(f.offset,f.type))=fs
 |.arr n e=>Pg.underlying t=some (.array n e)
 |.other=>∃d,Pg.underlying t=some d/\(match d with|.struct _=>False|.array _ _=>False|_=>True)
structure oW(Pg:Program)(t:TypeId)(i:TI):Prop where
 row:(Pg.info? t).map (λx=>(x.size,x.bytes,x.zero.map (·.cells.toList),x.zero.map λz=>match z with|.agg _=>true|_=>false))=some (i.size,i.bytes,some i.zero,some i.agg)
 one:i.zero.all (·.oneCell')=true
 len:i.zero.length=i.size
 kind:oG Pg t i.k
 eqs:i.eq=true->Pg.stoodInHeld t=false/\Pg.eqGuardType Pg.depth t=false/\∀f∈(Pg.fieldsOf t).toList,f.name≠"_"
def iC(Pg:Program)(tt:TT):Prop :=∀t i,tt t=some i->oW Pg t i
theorem oW.info{Pg:Program}{t:TypeId}{i:TI}(h:oW Pg t i):
  ∃x z,Pg.info? t=some x/\x.size=i.size/\x.bytes=i.bytes/\x.zero=some z/\z.cells.toList=i.zero/\((match z with|.agg _=>true|_=>false)=i.agg):=by
 have h0:=h.row;cases hx:Pg.info? t with
 |none=>rw[hx]at h0;simp at h0
 |some x=>
  rw[hx]at h0;simp only[W2,Q0,QP]at h0;obtain⟨h1,h2,h3,h4⟩:=h0;cases hz:x.zero with
  |none=>rw[hz]at h3;simp at h3
  |some z=>rw[hz]at h3 h4;simp only[W2,Q0]at h3 h4;exact⟨x,z,rfl,h1,h2,hz,h3,h4⟩
section
variable {Pg:Program} {tt:TT} {w:World}
theorem rH{t:TypeId}{x:TypeInfo}(h:Pg.info? t=some x):(typeInfo t).run Pg w=.ok x w:=by simp[typeInfo,h]
theorem dL{t:TypeId}{i:TI}(h:oW Pg t i):(sizeOf t).run Pg w=.ok i.size w:=by obtain⟨x,z,h1,h2,_⟩:=h.info;simp[sizeOf,rH h1,h2]
theorem dN{t:TypeId}{d:TypeDesc}(h:Pg.underlying t=some d):(underlying t).run Pg w=.ok d w:=by simp[underlying,h]
theorem zF{t:TypeId}{i:TI}(h:oW Pg t i):(isAgg t).run Pg w=.ok i.agg w:=by
 have hk:=h.kind;unfold isAgg TI.agg;cases hi:i.k<;>rw[hi]at hk<;>simp only[oG]at hk
 case struct fs=>obtain⟨gs,hu,_⟩:=hk;simp[dN hu]
 case ptr=>obtain⟨e,hu⟩:=hk;simp[dN hu]
 case other=>obtain⟨d,hu,hd⟩:=hk;cases d<;>simp_all [dN hu]
 all_goals simp[dN hk]
theorem mQ{t:TypeId}{i:TI}(h:oW Pg t i):∃z,(zeroValue t).run Pg w=.ok z w/\z.cells.toList=i.zero/\((match z with|.agg _=>true|_=>false)=i.agg):=by obtain⟨x,z,h1,h2,h3,h4,h5,h6⟩:=h.info;exact⟨z,by simp[zeroValue,rH h1,h4],h5,h6⟩
end
theorem fQ{Pg:Program}{w w':World}{s:Sem Value}{v:Value}(h:s.run Pg w=.ok v w'):(do let x <-s;pure (Next.value x):Sem Next).run Pg w=.ok (.value v) w':=by rw[Sem.run_bind,h];rfl
theorem aal{Pg:Program}{w w':World}{s:Sem Unit}(h:s.run Pg w=.ok () w'):(do s;pure Next.skip:Sem Next).run Pg w=.ok .skip w':=by rw[Sem.run_bind,h];rfl
def Does(Pg:Program)(s:Sem Next)(w:World)(v:Value)(w':World):Prop:=s.run Pg w=.ok (.value v) w'\/(s.run Pg w=.ok .skip w'/\v=undef)
section
variable {E:Env} {st st':St} {gh bG:Nat->Gh} {w w':World} {val:Nat->Value}
theorem dn.dB{x:W}{v:Value}(h:dn E st gh w (.v (.one x)) v):eH E st gh w x v:=by cases h with|v _ _ h=>cases h with|one _ _ h=>exact h
theorem dn.eX{a i:Bool}{x:P}{v:Value}(h:dn E st gh w (.v (.one (.p a i x))) v):bU w (E.ok st gh w a i) x v:=by cases h.dB with|p _ _ _ _ h=>exact h
theorem dn.Gt{xs:List W}{v:Value}(h:dn E st gh w (.v (.agg xs)) v):
  ∃cs:List Value,v=.agg cs.toArray/\xs.length=cs.length/\(∀c∈cs,c.oneCell'=true)/\∀(j:Nat) x u,xs[j]?=some x->cs[j]?=some u->eH E st gh w x u:=by
 cases h with|v _ _ h=>cases h with|agg _ cs hl hv h=>exact⟨cs,rfl,hl,hv,h⟩
theorem dn.ofP{a i:Bool}{x:P}{v:Value}(h:bU w (E.ok st gh w a i) x v):dn E st gh w (.v (.one (.p a i x))) v:=.v _ _ (.one _ _ (.p _ _ _ _ h))
theorem dn.Gu{x:W}{v:Value}(h:eH E st gh w x v):dn E st gh w (.v (.one x)) v:=.v _ _ (.one _ _ h)
theorem bU.dR{ok:Nat->Prop}{k:IntKind}{n:Int}{v:Value}(h:bU w ok (.int k n) v):v=.int k n:=by cases h;rfl
theorem bU.mV{ok:Nat->Prop}{b:Bool}{v:Value}(h:bU w ok (.bool b) v):v=.bool b:=by cases h;rfl
theorem bU.qJ{ok:Nat->Prop}{s:ByteArray}{v:Value}(h:bU w ok (.str s) v):v=.string s:=by cases h;rfl
theorem still(h:Rel E st gh val w){Pg:Program}{s:Sem Next}{x:S}{v:Value}(hr:s.run Pg w=.ok (.value v) w)(hx:dn E st gh w x v)(hu :∀g∈x.names,st.used g=true):
  ∃v w' bG,Does Pg s w v w'/\Rel E (st.aB [] []) bG val w'/\Lets E st (st.aB [] []) gh bG w w'/\dn E (st.aB [] []) bG w' x v/\∀g∈x.names,(st.aB [] []).used g=true:=by
 have e:st.aB [] []=st:=by simp[St.aB]
 rw[e];exact⟨v,w,gh,.inl hr,h,⟨λa i b hb=>⟨hb,rfl⟩,λg _=>.inr ⟨⟨rfl,rfl⟩,O.eU _⟩⟩,hx,hu⟩
end
def fB(Pg:Program)(tt:TT)(op:Op):Prop:=
 ∀(E:Env) (st:St) (gh:Nat->Gh) (val:Nat->Value) (w:World) (ρ:Operand->Value) (F:Operand->S) (o:Oper) (d:Nat) (r:Et),o.op=op->Rel E st gh val w->
  (∀x,dn E st gh w (F x) (ρ x))->(∀x,∀g∈(F x).names,st.used g=true)->kernel tt d st.o F op o.type=some r->r.pre->(∀g∈r.new,st.used g=false)->
  ∃v w' bG,Does Pg (execOp ρ o) w v w'/\Rel E (st.aB (r.aB r.val) r.new) bG val w'/\Lets E st (st.aB (r.aB r.val) r.new) gh bG w w'/\dn E (st.aB (r.aB r.val) r.new) bG w' (r.dst r.val) v/\
   ∀g∈(r.dst r.val).names,(st.aB (r.aB r.val) r.new).used g=true
theorem Ub{Pg:Program}{tt:TT}(x:Operand):fB Pg tt (.move x):=by intro E st gh val w ρ F o d r ho h hF hFn hk hp hd;simp only[kernel]at hk;split at hk;cases hk;cases hk;exact still h (v:=ρ x) (by simp[execOp,ho]) (hF x) (hFn x)
theorem Nv{Pg:Program}{tt:TT}(x:Operand):fB Pg tt (.assign x):=by intro E st gh val w ρ F o d r ho h hF hFn hk hp hd;simp only[kernel]at hk;split at hk;cases hk;cases hk;exact still h (v:=ρ x) (by simp[execOp,ho]) (hF x) (hFn x)
theorem Env.oH{E:Env}{st:St}{gh:Nat->Gh}{w:World}{a i a' i':Bool}{b:Nat}(ha:a=true->a'=true)(hi:i=true->i'=true)(h:E.ok st gh w a i b):E.ok st gh w a' i' b:=by
 refine⟨?_,h.2⟩;rcases h.1 with⟨x,y⟩|⟨x,y⟩|y
 .exact .inl ⟨ha x,y⟩
 .exact .inr (.inl ⟨hi x,y⟩)
 .exact .inr (.inr y)
theorem Uc{Pg:Program}{tt:TT}(c x y:Operand):fB Pg tt (.pick c x y):=by
 intro E st gh val w ρ F o d r ho h hF hFn hk hp hd;simp only[kernel]at hk;split at hk
 rotate_left
 cases hk;rename_i a i b hc;have rc:=hF c;rw[hc]at rc;have hb:=rc.eX.mV;have hS:dn E st gh w (bif b then F x else F y) (if b=true then ρ x else ρ y):=by cases b<;>first|exact hF x|exact hF y
 have hN :∀g∈(bif b then F x else F y).names,st.used g=true:=by cases b<;>first|exact hFn x|exact hFn y
 have hrun:(execOp ρ o).run Pg w=.ok (.value (if b=true then ρ x else ρ y)) w:=by simp[execOp,ho,hb,asBool]
 split at hk
 .rename_i a1 i1 x1 a2 i2 y1 hx hy;cases hk;refine still h (v:=if b=true then ρ x else ρ y) hrun ?_ (by intro g hg;simp[S.names,V.names,W.names]at hg);have rx:=hF x;rw[hx]at rx;have ry:=hF y;rw[hy]at ry;refine dn.ofP ?_;cases b
  .exact (ry.eX).mono λ_ hok=>⟨Env.oH (by intro h;simp[h]) (by intro h;simp[h]) hok,rfl⟩
  .exact (rx.eX).mono λ_ hok=>⟨Env.oH (by intro h;simp[h]) (by intro h;simp[h]) hok,rfl⟩
 .generalize (bif b then F x else F y)=s at hk hS hN;split at hk;cases hk;cases hk;exact still h (v:=if b=true then ρ x else ρ y) hrun hS hN
def P.val:P->Value
 |.int k n=>.int k n
 |.bool b=>.bool b
 |.str s=>.string s
 |_=>undef
theorem VX{Pg:Program}{w:World}{ok ok' Yk:Nat->Prop}{op:BinOp}{t:TypeId}{x y:P}{vx vy:Value}{ox oy:Operand}(rx:bU w ok x vx)(ry:bU w ok' y vy)(hp:P.PG op x y):
  (eqGuard op t ox oy vx vy >>= λ_=>binOp op t vx vy).run Pg w=.ok (P.bin op x y).val w/\bU w Yk (P.bin op x y) (P.bin op x y).val:=by
 cases x<;>cases y<;>simp only[P.PG]at hp<;>try exact hp.elim
 case int.int k a k' b=>
  obtain rfl:=rx.dR;obtain rfl:=ry.dR;have hg:(eqGuard op t ox oy (.int k a) (.int k' b)).run Pg w=.ok () w:=by simp[eqGuard]
  simp only[Sem.run_bind,hg,Result.andThen_ok];cases op
  case quo=>obtain⟨rfl,hb⟩:=hp;exact⟨by simp[binOp,Op.intDiv,hb,P.bin,P.val],.int _ _⟩
  case rem=>obtain⟨rfl,hb⟩:=hp;exact⟨by simp[binOp,Op.intDiv,hb,P.bin,P.val],.int _ _⟩
  case shl=>exact⟨by simp[binOp,Op.shift,show ¬ b<0 by omega,P.bin,P.val],.int _ _⟩
  case shr=>exact⟨by simp[binOp,Op.shift,show ¬ b<0 by omega,P.bin,P.val],.int _ _⟩
  case eql=>subst hp;exact⟨by simp[binOp,Op.intCmp,P.bin,P.val],.bool _⟩
  case neq=>subst hp;exact⟨by simp[binOp,Op.intCmp,P.bin,P.val],.bool _⟩
  case lss=>subst hp;exact⟨by simp[binOp,Op.intCmp,P.bin,P.val],.bool _⟩
  case leq=>subst hp;exact⟨by simp[binOp,Op.intCmp,P.bin,P.val],.bool _⟩
  case gtr=>subst hp;exact⟨by simp[binOp,Op.intCmp,P.bin,P.val],.bool _⟩
  case geq=>subst hp;exact⟨by simp[binOp,Op.intCmp,P.bin,P.val],.bool _⟩
  case add=>subst hp;exact⟨by simp[binOp,Op.intArith,P.bin,P.val],.int _ _⟩
  case sub=>subst hp;exact⟨by simp[binOp,Op.intArith,P.bin,P.val],.int _ _⟩
  case mul=>subst hp;exact⟨by simp[binOp,Op.intArith,P.bin,P.val],.int _ _⟩
  case and=>subst hp;exact⟨by simp[binOp,Op.intBits,P.bin,P.val,bits],.int _ _⟩
  case or=>subst hp;exact⟨by simp[binOp,Op.intBits,P.bin,P.val,bits],.int _ _⟩
  case xor=>subst hp;exact⟨by simp[binOp,Op.intBits,P.bin,P.val,bits],.int _ _⟩
  case andNot=>subst hp;exact⟨by simp[binOp,Op.intBits,P.bin,P.val,bits],.int _ _⟩
 case str.str a b=>
  obtain rfl:=rx.qJ;obtain rfl:=ry.qJ;have hg:(eqGuard op t ox oy (.string a) (.string b)).run Pg w=.ok () w:=by simp[eqGuard]
  simp only[Sem.run_bind,hg,Result.andThen_ok];cases op<;>simp only at hp<;>try exact hp.elim
  case add=>
   have:¬ ((a.size+b.size:Nat):Int)>IntKind.i64.max:=by simp[IntKind.max,IntKind.signed,IntKind.bits];omega
   exact⟨by simp only[binOp,Op.stringOp,QR this];simp[P.bin,P.val],.str _⟩
  all_goals exact⟨by simp[binOp,Op.stringOp,P.bin,P.val],.bool _⟩
theorem aam{Pg:Program}{w:World}{ok ok' Yk:Nat->Prop}{op:BinOp}{t:TypeId}{x y:P}{vx vy:Value}{ox oy:Operand}(rx:bU w ok x vx)(ry:bU w ok' y vy)(hp:P.Nr op x y)
  (ht:Pg.underlying t=some .bool) :
  (eqGuard op t ox oy vx vy >>= λ_=>binOp op t vx vy).run Pg w=.ok (P.bin op x y).val w/\bU w Yk (P.bin op x y) (P.bin op x y).val:=by
 cases x<;>cases y<;>simp only[P.Nr]at hp<;>try exact hp.elim
 case bool.bool a b=>
  obtain rfl:=rx.mV;obtain rfl:=ry.mV;have hg:(eqGuard op t ox oy (.bool a) (.bool b)).run Pg w=.ok () w:=by simp[eqGuard]
  simp only[Sem.run_bind,hg,Result.andThen_ok];have heq:(Op.equal t (.bool a) (.bool b)).run Pg w=.ok (a==b) w:=by unfold Op.equal Op.maxDepth;show (Op.equalIn (9999+1) t _ _).run Pg w=_;unfold Op.equalIn;simp[dN ht]
  rcases hp with rfl|rfl
  .exact ⟨by simp[binOp,heq,P.bin,P.val],.bool _⟩
  .exact ⟨by simp[binOp,heq,P.bin,P.val,bne],.bool _⟩
theorem fM{Pg:Program}{tt:TT}{E:Env}{st:St}{gh:Nat->Gh}{val:Nat->Value}{w:World}(h:Rel E st gh val w){s:Sem Next}{x:P}{v:Value}(hr:s.run Pg w=.ok (.value v) w)
  (hx :∀ok,bU w ok x v) :∃v w' bG,Does Pg s w v w'/\Rel E (st.aB [] []) bG val w'/\Lets E st (st.aB [] []) gh bG w w'/\dn E (st.aB [] []) bG w' (scalar x) v/\
   ∀g∈(scalar x).names,(st.aB [] []).used g=true:=
 still h hr (dn.ofP (hx _)) (by simp[scalar,S.names,V.names,W.names])
theorem Ew{Pg:Program}{w:World}{tt:TT}(htt:iC Pg tt){E:Env}{st:St}{gh:Nat->Gh}{d:Nat}{t:TypeId}{i:TI}(ht:tt t=some i)(hf:i.k.flat=true){a1 i1 a2 i2:Bool}{x y:P}{u v:Value}
  (hx:eH E st gh w (.p a1 i1 x) u) (hy:eH E st gh w (.p a2 i2 y) v) (ha:VW i.k x y):(Op.equalIn (d+1) t u v).run Pg w=.ok (P.eqB x y) w:=by
 have hk:=(htt _ _ ht).kind;cases hx with
 |p _ _ _ _ hx=>
  cases hy with
  |p _ _ _ _ hy=>
   revert hk hf ha;cases i.k<;>intro hf ha hk<;>simp only[TK.flat]at hf<;>try (cases hf;done)
   all_goals (cases x<;>cases y<;>try exact False.elim ha)
   .obtain rfl:=hx.dR;obtain rfl:=hy.dR;obtain rfl:_=_:=ha;exact run_equalIn_int w d t _ _ _ _ hk
   .obtain rfl:=hx.mV;obtain rfl:=hy.mV;exact run_equalIn_bool' w d t _ _ hk
   .obtain rfl:=hx.qJ;obtain rfl:=hy.qJ;rw[run_equalIn_string w d t _ _ hk,<-beq_toListBytes];rfl
theorem yC{Pg:Program}{w:World}{tt:TT}(htt:iC Pg tt){t:TypeId}{i:TI}(ht:tt t=some i)(hf:i.k.flat=true){cs:List Value}{n:Nat}{v:Value}(hv:cs[n]?=some v):(part t cs.toArray n).run Pg w=.ok v w:=by
 have ha:i.agg=false:=by revert hf;unfold TI.agg;cases i.k<;>intro h<;>first|rfl|cases h
 simp only[part,Sem.run_bind,zF (htt _ _ ht),ha,Result.andThen_ok,Wa,if_false];rw[K4,hv];rfl
theorem AO{Pg:Program}{w:World}{tt:TT}(htt:iC Pg tt){E:Env}{st:St}{gh:Nat->Gh}{d:Nat}{cs ds:List Value}:∀(gs:List Field) (n:Nat) (xs ys:List W) (c:Prop×Bool),(∀f∈gs,f.name≠"_")->
  mP tt n (gs.map λf=>(f.offset,f.type)) xs ys=some c->(∀(j:Nat) x,xs[j]?=some x->∃u,cs[n+j]?=some u/\eH E st gh w x u)->(∀(j:Nat) x,ys[j]?=some x->∃u,ds[n+j]?=some u/\eH E st gh w x u)->c.1->
  (Op.eqFields (d+1) cs.toArray ds.toArray gs).run Pg w=.ok c.2 w
 | [],n,[],[],c,_,h,_,_,_=>by simp only[Kb,mP,Q0]at h;subst h;rfl
 |f::gs,n,x::xs,y::ys,c,hn,h,hx,hy,hc=>by
  cases x with
  |p a1 i1 x=>cases y with
   |p a2 i2 y=>
    simp only[X2,mP]at h;split at h
    rotate_left
    cases h;rename_i i hi;split at h
    rotate_left
    cases h;rename_i hoff;split at h
    rotate_left
    cases h;rename_i c' hc';cases h;obtain⟨u,hu,ru⟩:=hx 0 _ rfl;obtain⟨v,hv,rv⟩:=hy 0 _ rfl;obtain⟨o1,o2,o3⟩:=hoff;have ih:=AO htt (d:=d) (cs:=cs) (ds:=ds) gs (n+1) xs ys c' (λf hf=>hn f (WK _ hf)) hc' (λj x h=>by have:=hx (j+1) x h;rwa [show n+(j+1)=n+1+j by omega]at this) (λj x h=>by have:=hy (j+1) x h;rwa [show n+(j+1)=n+1+j by omega]at this) hc.2;have hne:=hn f List.mem_cons_self;rw[Uq]at hu hv;simp only[Op.eqFields,Qt hne,Sem.run_bind,o1,yC htt hi o2 hu,yC htt hi o2 hv,Result.andThen_ok,Ew htt hi o2 ru rv hc.1];cases P.eqB x y;rfl;simpa using ih
   |_=>simp[mP]at h
  |_=>simp[mP]at h
 | [],n,_::_,_,c,_,h,_,_,_=>by simp[mP]at h
 | [],n,[],_::_,c,_,h,_,_,_=>by simp[mP]at h
 |f::gs,n,[],_,c,_,h,_,_,_=>by simp[mP]at h
 |f::gs,n,x::xs,[],c,_,h,_,_,_=>by cases x<;>simp[mP]at h
theorem KZ{Pg:Program}{w:World}{tt:TT}(htt:iC Pg tt){E:Env}{st:St}{gh:Nat->Gh}{d:Nat}{cs ds:List Value}{e:TypeId}:∀(m n:Nat) (xs ys:List W) (c:Prop×Bool),
  mP tt n ((List.range' n m).map λi=>(i,e)) xs ys=some c->(∀(j:Nat) x,xs[j]?=some x->∃u,cs[n+j]?=some u/\eH E st gh w x u)->(∀(j:Nat) x,ys[j]?=some x->∃u,ds[n+j]?=some u/\eH E st gh w x u)->c.1->
  (Op.eqItems (d+1) e 1 cs.toArray ds.toArray (List.range' n m)).run Pg w=.ok c.2 w/\(0<m->∃i,tt e=some i/\i.size=1)
 |0,n,[],[],c,h,_,_,_=>by simp only[List.range'_zero,Kb,mP,Q0]at h;subst h;exact⟨rfl,λh=>absurd h (KB 0)⟩
 |m+1,n,x::xs,y::ys,c,h,hx,hy,hc=>by
  rw[qu]at h ⊢;cases x with
  |p a1 i1 x=>cases y with
   |p a2 i2 y=>
    simp only[X2,mP]at h;split at h
    rotate_left
    cases h;rename_i i hi;split at h
    rotate_left
    cases h;rename_i hoff;split at h
    rotate_left
    cases h;rename_i c' hc';cases h;obtain⟨u,hu,ru⟩:=hx 0 _ rfl;obtain⟨v,hv,rv⟩:=hy 0 _ rfl;obtain⟨o1,o2,o3⟩:=hoff;have ih:=(KZ htt (d:=d) (cs:=cs) (ds:=ds) m (n+1) xs ys c' hc' (λj x h=>by have:=hx (j+1) x h;rwa [show n+(j+1)=n+1+j by omega]at this) (λj x h=>by have:=hy (j+1) x h;rwa [show n+(j+1)=n+1+j by omega]at this) hc.2).1;rw[Uq]at hu hv;refine⟨?_,λ_=>⟨i,hi,o3⟩⟩;simp only[Op.eqItems,Sem.run_bind,Nat.mul_one,yC htt hi o2 hu,yC htt hi o2 hv,Result.andThen_ok,Ew htt hi o2 ru rv hc.1];cases P.eqB x y;rfl;simpa using ih
   |_=>simp[mP]at h
  |_=>simp[mP]at h
 |0,n,_::_,_,c,h,_,_,_=>by simp[mP]at h
 |0,n,[],_::_,c,h,_,_,_=>by simp[mP]at h
 |m+1,n,[],_,c,h,_,_,_=>by simp[qu,mP]at h
 |m+1,n,x::xs,[],c,h,_,_,_=>by cases x<;>simp[qu,mP]at h
theorem PN{Pg:Program}{w:World}{tt:TT}(htt:iC Pg tt){E:Env}{st:St}{gh:Nat->Gh}{t:TypeId}{i:TI}(ok:oW Pg t i)(hs:Pg.stoodInHeld t=false)(hn :∀f∈(Pg.fieldsOf t).toList,f.name≠"_"){xs ys:List W}{c:Prop×Bool}{cs ds:List Value}
  (h:mP tt 0 i.k.parts xs ys=some c) (hl:xs.length=cs.length) (hl':ys.length=ds.length) (hr :∀(j:Nat) x u,xs[j]?=some x->cs[j]?=some u->eH E st gh w x u) (hr' :∀(j:Nat) x u,ys[j]?=some x->ds[j]?=some u->eH E st gh w x u) (hc:c.1) :
  (Op.equalIn 10000 t (.agg cs.toArray) (.agg ds.toArray)).run Pg w=.ok c.2 w:=by
 have key :∀{zs:List W} {es:List Value},zs.length=es.length->(∀(j:Nat) x u,zs[j]?=some x->es[j]?=some u->eH E st gh w x u)->∀(j:Nat) x,zs[j]?=some x->∃u,es[0+j]?=some u/\eH E st gh w x u:=by intro zs es he hr j x hx;have hj:=(Q4.1 hx).1;exact⟨es[j]'(by omega),by rw[V1,Q3 (by omega)],hr j x _ hx (Q3 (by omega))⟩
 have hk:=ok.kind;have k1:=key hl hr;have k2:=key hl' hr';cases hki:i.k with
 |struct fs=>
  rw[hki]at hk h;obtain⟨gs,g1,g2⟩:=hk;have hf:Pg.fieldsOf t=gs:=by unfold Program.fieldsOf;rw[g1]
  rw[run_equalIn_struct w 9999 t _ _ (by rw[hf];exact g1) hs,hf];rw[hf]at hn;simp only[TK.parts]at h;rw[<-g2]at h;exact AO htt gs.toList 0 xs ys c hn h k1 k2 hc
 |arr n e=>
  rw[hki]at hk h;simp only[TK.parts]at h;split at h
  .cases xs with
   |nil=>simp[mP]at h
   |cons x xs=>cases ys with
    |nil=>cases x<;>simp[mP]at h
    |cons y ys=>cases x<;>cases y<;>simp[mP]at h<;>(split at h<;>cases h)
  .rename_i hn0;obtain⟨r1,r2⟩:=KZ htt (d:=9998) n 0 xs ys c h k1 k2 hc;obtain⟨ie,he,hsz⟩:=r2 (by omega);obtain⟨info,z,hi,hsi,_⟩:=(htt _ _ he).info;rw[run_equalIn_array w 9999 _ _ hk hi,vi];have:Pg.cellsOf e=1:=by unfold Program.cellsOf;rw[hi];simp[hsi,hsz]
   rw[this];exact r1
 |_=>
  rw[hki]at h;simp only[TK.parts]at h;cases xs with
  |nil=>simp[mP]at h
  |cons x xs=>cases ys with
   |nil=>cases x<;>simp[mP]at h
   |cons y ys=>cases x<;>cases y<;>simp[mP]at h<;>(split at h<;>cases h)
theorem Yl{Pg:Program}{tt:TT}(htt:iC Pg tt)(op:BinOp)(t:TypeId)(x y:Operand)(u:TypeId):fB Pg tt (.binOp op t x y u):=by
 intro E st gh val w ρ F o d r ho h hF hFn hk hp hd;simp only[kernel]at hk;split at hk
 .rename_i a i x' a' i' y' hx hy;have rx:=hF x;rw[hx]at rx;have ry:=hF y;rw[hy]at ry;split at hk
  .cases hk;have hb:=λok=>VX (Pg:=Pg) (Yk:=ok) (t:=t) (ox:=x) (oy:=y) rx.eX ry.eX hp;exact fM (tt:=tt) h (by unfold execOp;rw[ho];exact fQ (hb λ_=>True).1) λok=>(hb ok).2
  .cases hk;have hb:=λok=>VX (Pg:=Pg) (Yk:=ok) (t:=t) (ox:=x) (oy:=y) rx.eX ry.eX hp;exact fM (tt:=tt) h (by unfold execOp;rw[ho];exact fQ (hb λ_=>True).1) λok=>(hb ok).2
  .rename_i ht;cases hk;have hb:=λok=>aam (Pg:=Pg) (Yk:=ok) (t:=t) (ox:=x) (oy:=y) rx.eX ry.eX hp (htt _ _ ht).kind;exact fM (tt:=tt) h (by unfold execOp;rw[ho];exact fQ (hb λ_=>True).1) λok=>(hb ok).2
  .cases hk
 .rename_i xs ys hx hy;split at hk
  rotate_left
  cases hk;rename_i i ht;split at hk
  rotate_left
  cases hk;rename_i c b hc hb;split at hk
  rotate_left
  cases hk;rename_i he;cases hk;have rx:=hF x;rw[hx]at rx;have ry:=hF y;rw[hy]at ry;obtain⟨cs,hcs,hl,_,hr⟩:=rx.Gt;obtain⟨ds,hds,hl',_,hr'⟩:=ry.Gt;obtain⟨e1,e2,e3⟩:=(htt _ _ ht).eqs he;have hrun:=PN htt (htt _ _ ht) e1 e3 hc hl hl' hr hr' hp;refine fM (tt:=tt) h (v:=.bool (c.2==b)) ?_ λok=>.bool _;unfold execOp;rw[ho];refine fQ ?_;rw[hcs,hds,Sem.run_bind,run_eqGuard_agg w op t x y _ _ e2,Result.andThen_ok];cases op<;>simp only[aee]at hb<;>cases hb
  .rw [run_eql_struct,hrun,Result.andThen_ok];simp
  .rw [run_neq_struct,hrun,Result.andThen_ok];cases c.2<;>rfl
 .cases hk
theorem aan{Pg:Program}{tt:TT}(op:UnOp)(t:TypeId)(x:Operand):fB Pg tt (.unOp op t x):=by
 intro E st gh val w ρ F o d r ho h hF hFn hk hp hd;simp only[kernel]at hk;split at hk
 rotate_left
 cases hk;rename_i a i x' hx;cases hk;have rx:=hF x;rw[hx]at rx;have rx:=rx.eX;have hp:P.ahF op x':=hp;have hb:(Op.unary op (ρ x)).run Pg w=.ok (P.un op x').val w/\∀ok,bU w ok (P.un op x') (P.un op x').val:=by
  cases op<;>cases x'<;>simp only[P.ahF]at hp
  .rw [rx.dR];exact⟨by simp[Op.unary,Op.intArith,P.un,P.val],λok=>.int _ _⟩
  .rw [rx.mV];exact⟨by simp[Op.unary,P.un,P.val],λok=>.bool _⟩
 exact fM (tt:=tt) h (by unfold execOp;rw[ho];exact fQ hb.1) hb.2
theorem dG{x:W}{g:Nat}:g∈(S.v (.one x)).names↔g∈x.names:=by simp[S.names,V.names]
theorem Addr.gX(b o n:Nat):(⟨b,o,none⟩:Addr).add n=⟨b,o+n,none⟩:=by
 unfold Addr.add;split
 .simp [*]
 .rfl
theorem eH.Hw{E:Env}{st:St}{gh:Nat->Gh}{w:World}{x:W}{v:Value}(h:eH E st gh w x v)(hx:x.live st.o=true):
  ∃b o,v=.pointer (some ⟨b,o,none⟩)/\∀n,eH E st gh w (x.shift n) (.pointer (some ⟨b,o+n,none⟩)):=by
 cases h with
 |box g off v hv hb=>
  simp only[W.live]at hx;cases ho:st.o g with
  |box ws=>obtain⟨ad,had,he⟩:=hb ws ho;refine⟨_,_,he,λn=>.box g (off+n) _ rfl λws' _=>⟨ad,had,by rw[JP]⟩⟩
  |_=>rw[ho]at hx;cases hx
 |ep g n off v hv hb=>
  simp only[W.live]at hx;cases ho:(st.o g).dim with
  |some x=>obtain⟨sz,len⟩:=x;obtain⟨ad,k,had,hn,hk,he⟩:=hb _ _ ho;refine⟨_,_,he,λm=>.ep g n (off+m) _ rfl λsz' len' ho'=>?_⟩;rw[ho]at ho';cases ho';exact⟨ad,k,had,hn,hk,by rw[JP]⟩
  |none=>rw[ho]at hx;cases hx
 |sp a i row off b o hb hr=>exact⟨b,o+off,rfl,λn=>by rw[JP];exact .sp a i row (off+n) b o hb hr⟩
 |_=>simp[W.live]at hx
theorem W.Ey(n:Nat)(x:W):(x.shift n).names=x.names:=by cases x<;>simp[W.shift,W.names]
theorem Hy{Pg:Program}{tt:TT}(x:Operand):fB Pg tt (.nilCheck x):=by
 intro E st gh val w ρ F o d r ho h hF hFn hk hp hd;simp only[kernel]at hk;split at hk
 rotate_left
 cases hk;rename_i x' hx;split at hk
 .rename_i hl;cases hk;have rx:=hF x;rw[hx]at rx;obtain⟨b,o',he,_⟩:=rx.dB.Hw hl;exact still h (v:=ρ x) (by unfold execOp;rw[ho];simp[he]) rx (by have:=hFn x;rw[hx]at this;exact this)
 .cases hk
theorem wW{tt:TT}{t:TypeId}{fs:List (Nat×TypeId)}{a b:Nat}{z:List Value}{n off sz:Nat}(ht:tt t=some ⟨.struct fs,a,b,z⟩)(hp:placeOf tt t n=some (off,sz)):
  ∃u iu,fs[n]?=some (off,u)/\tt u=some iu/\iu.size=sz:=by
 unfold placeOf at hp;rw[ht]at hp;simp only at hp;split at hp
 rotate_left
 cases hp;rename_i off' u hn;cases hu:tt u with
 |none=>rw[hu]at hp;simp at hp
 |some iu=>rw[hu]at hp;simp only[W2,Q0,QP]at hp;exact⟨u,iu,by rw[hn,hp.1],hu,hp.2⟩
theorem AP{Pg:Program}{t:TypeId}{fs:List (Nat×TypeId)}{a b:Nat}{z:List Value}(h:oW Pg t ⟨.struct fs,a,b,z⟩){n off:Nat}{u:TypeId}(hn:fs[n]?=some (off,u)):
  ∃gs f,Pg.underlying t=some (.struct gs)/\gs[n]?=some f/\f.offset=off/\f.type=u:=by
 obtain⟨gs,hu,hf⟩:=h.kind;rw[<-hf]at hn;simp only[Z3,W7,QP]at hn;obtain⟨f,h1,h2,h3⟩:=hn;exact⟨gs,f,hu,by simpa using h1,h2,h3⟩
theorem Gi{Pg:Program}{tt:TT}(htt:iC Pg tt)(t:TypeId)(x:Operand)(n:Nat):fB Pg tt (.fieldAddr t x n):=by
 intro E st gh val w ρ F o d r ho h hF hFn hk hp hd;simp only[kernel]at hk;split at hk
 rotate_left
 cases hk;rename_i fs _ _ _ off' sz' x' ht hpl hx;split at hk
 rotate_left
 cases hk;rename_i hl;cases hk;have rx:=hF x;rw[hx]at rx;obtain⟨b,o',he,hsh⟩:=rx.dB.Hw hl.2;obtain⟨u,iu,h1,h2,h3⟩:=wW ht hpl;obtain⟨gs,f,g1,g2,g3,g4⟩:=AP (htt _ _ ht) h1;have hsz:(sizeOf f.type).run Pg w=.ok sz' w:=by rw[g4,<-h3];exact dL (htt _ _ h2)
 have hr:(Instr.fieldAt t (ρ x) n).run Pg w=.ok (.pointer (some ⟨b,o'+off',none⟩)) w:=by
  have hne:sz'≠0:=by omega
  rw[he];simp[Instr.fieldAt,dN g1,g2,Instr.sureAddr,fieldPlace,hsz,hne,g3,Addr.gX]
 refine still h (v:=.pointer (some ⟨b,o'+off',none⟩)) (by unfold execOp;rw[ho];exact fQ hr) (dn.Gu (hsh off')) λg hg=>hFn x g ?_;have hg:g∈(S.v (.one (x'.shift off'))).names:=hg;rw[dG,W.Ey]at hg;rw[hx,dG];exact hg
theorem Kv{Pg:Program}{tt:TT}(t:Operand)(n:Nat):fB Pg tt (.extract t n):=by
 intro E st gh val w ρ F o d r ho h hF hFn hk hp hd;simp only[kernel]at hk;split at hk
 rotate_left
 cases hk;rename_i xs hx;split at hk
 rotate_left
 cases hk;rename_i x' hn;cases hk;have rx:=hF t;rw[hx]at rx;cases hv:ρ t with
 |tuple vs=>
  rw[hv]at rx;obtain⟨l⟩:=vs;cases rx with|lq _ _ hl hr=>
  have hlt:n<l.length:=by have:=(Q4.1 hn).1;omega
  have hu:l[n]?=some l[n]:=Q3 hlt;refine still h (v:=l[n]) (by unfold execOp;rw[ho];refine fQ ?_;rw[hv];simp[Instr.extract,hu]) (.v _ _ (hr n _ _ hn hu)) λg hg=>?_;exact hFn t g (by rw[hx];simp only[S.names,YY];exact⟨x',Ys hn,hg⟩)
 |_=>rw[hv]at rx;cases rx
theorem Ym{E:Env}{st:St}{gh:Nat->Gh}{w:World}{x:W}{v:Value}{ask:Prop}{n:P}(h:eH E st gh w x v)(hl:lenOf st.o x=some (ask,n))(ha:ask):
  ∃ao m cap,v=.slice ao m cap/\n=.int .i64 (m:Nat):=by
 cases h with
 |p a i x v hx=>
  simp only[lenOf,Q0,QP]at hl;obtain⟨rfl,rfl⟩:=hl;cases x with
  |sl sz l=>
   cases hx with
   |nil sz ao cap=>exact⟨ao,0,cap,rfl,rfl⟩
   |sl sz l a cap f h1 h2 h3 h4 h5 h6=>exact⟨some a,_,cap,rfl,rfl⟩
  |_=>exact ha.elim
 |b_=>simp only[lenOf,Q0,QP]at hl;exact⟨none,0,0,rfl,hl.2.symm⟩
 |own g v hv hx=>
  simp only[lenOf]at hl;split at hl
  .rename_i ho;simp only[Q0,QP]at hl;exact⟨_,_,_,hx _ _ ho,hl.2.symm⟩
  .cases hl
 |vw g lo hi v hv hx=>
  simp only[lenOf]at hl;split at hl
  .rename_i ho;simp only[Q0,QP]at hl;obtain⟨n',m',c',rfl,rfl,h1,h2,hc',he⟩:=hx _ _ ho;exact⟨_,m'-n',_,he,by rw[<-hl.2];simp[P.nat,P.num]⟩
  .cases hl
 |_=>simp[lenOf]at hl
theorem Hz{α:Type}{a:Array α}{x:α}(h:a.toList=[x]):a=#[x]:=by cases a;simp_all
theorem uJ{α:Type}{a:Array α}{x y:α}(h:a.toList=[x,y]):a=#[x,y]:=by cases a;simp_all
theorem jK{Pg:Program}{w w':World}{ρ:Operand->Value}{o:Oper}{b:Builtin}{args:Array Operand}{ts:Array TypeId}{n:Next}(ho:o.op=.call { callee:=.builtin b,args:=args,argTypes:=ts })
  (h:(builtin b ts o.type (args.map λ| .const _=>true|_=>false) (args.map ρ)).run Pg w=.ok n w'):(execOp ρ o).run Pg w=.ok n w':=by
 unfold execOp;rw[ho];simp only[resolve,invoke,Sem.run_bind,Sem.run_pure,Result.andThen_ok];exact h
theorem Yn{Pg:Program}{tt:TT}(htt:iC Pg tt)(args:Array Operand)(ts:Array TypeId):fB Pg tt (.call { callee:=.builtin .len,args:=args,argTypes:=ts }):=by
 intro E st gh val w ρ F o d r ho h hF hFn hk hp hd;simp only[kernel]at hk;split at hk
 rotate_left
 cases hk;rename_i x t ha ht;obtain rfl:=Hz ha;obtain rfl:=Hz ht;split at hk
 .rename_i e _ _ _ x' ahL hx;have rx:=hF x;rw[hx]at rx;split at hk
  rotate_left
  cases hk;rename_i ask n hl;cases hk;obtain⟨ao,m,cap,hv,rfl⟩:=Ym rx.dB hl hp;have hu:=(htt _ _ ahL).kind;refine fM (tt:=tt) h (v:=.int .i64 m) (jK ho ?_) λok=>.int _ _;simp only[oG]at hu;simp[builtin,Builtin.len_,dN hu,hv,goInt]
 .rename_i a i x' ahL hx;cases hk;have rx:=hF x;rw[hx]at rx;have hu:=(htt _ _ ahL).kind;cases x' with
  |str s=>have hv:=rx.eX.qJ;refine fM (tt:=tt) h (v:=.int .i64 s.size) (jK ho ?_) λok=>.int _ _;simp only[oG]at hu;simp[builtin,Builtin.len_,dN hu,hv,goInt]
  |_=>exact hp.elim
 .cases hk
theorem Yo{Pg:Program}{tt:TT}(args:Array Operand)(ts:Array TypeId):fB Pg tt (.call { callee:=.builtin .min,args:=args,argTypes:=ts }):=by
 intro E st gh val w ρ F o d r ho h hF hFn hk hp hd;simp only[kernel]at hk;split at hk
 .rename_i x y ha;obtain rfl:=uJ ha;split at hk
  rotate_left
  cases hk;rename_i _ _ x' _ _ y' hx hy;cases hk;have rx:=hF x;rw[hx]at rx;have ry:=hF y;rw[hy]at ry;obtain⟨h1,h2⟩:=hp;cases x'<;>simp only[jg]at h1;cases y'<;>simp only[jg]at h2;rename_i k a k' b;refine fM (tt:=tt) h (v:=.int k (if b<a then b else a)) (jK ho ?_) λok=>.int _ _;simp[builtin,Builtin.min_,Builtin.min2,rx.eX.dR,ry.eX.dR]
 .rename_i x y z ha;have ha':args=#[x,y,z]:=by have:=ZS List.toArray ha;simpa using this
  subst ha';split at hk
  rotate_left
  cases hk;rename_i _ _ x' _ _ y' _ _ z' hx hy hz;cases hk;have rx:=hF x;rw[hx]at rx;have ry:=hF y;rw[hy]at ry;have rz:=hF z;rw[hz]at rz;obtain⟨h1,h2,h3⟩:=hp;cases x'<;>simp only[jg]at h1;cases y'<;>simp only[jg]at h2;cases z'<;>simp only[jg]at h3;rename_i k a k' b k'' c;refine fM (tt:=tt) h (v:=.int k (if c<(if b<a then b else a)then c else(if b<a then b else a))) (jK ho ?_) λok=>.int _ _;simp[builtin,Builtin.min_,Builtin.min2,rx.eX.dR,ry.eX.dR,rz.eX.dR]
 .cases hk
theorem Yp{Pg:Program}{tt:TT}(args:Array Operand)(ts:Array TypeId):fB Pg tt (.call { callee:=.builtin .max,args:=args,argTypes:=ts }):=by
 intro E st gh val w ρ F o d r ho h hF hFn hk hp hd;simp only[kernel]at hk;split at hk
 .rename_i x y ha;obtain rfl:=uJ ha;split at hk
  rotate_left
  cases hk;rename_i _ _ x' _ _ y' hx hy;cases hk;have rx:=hF x;rw[hx]at rx;have ry:=hF y;rw[hy]at ry;obtain⟨h1,h2⟩:=hp;cases x'<;>simp only[jg]at h1;cases y'<;>simp only[jg]at h2;rename_i k a k' b;refine fM (tt:=tt) h (v:=.int k (if b>a then b else a)) (jK ho ?_) λok=>.int _ _;simp[builtin,Builtin.max_,Builtin.max2,rx.eX.dR,ry.eX.dR]
 .rename_i x y z ha;have ha':args=#[x,y,z]:=by have:=ZS List.toArray ha;simpa using this
  subst ha';split at hk
  rotate_left
  cases hk;rename_i _ _ x' _ _ y' _ _ z' hx hy hz;cases hk;have rx:=hF x;rw[hx]at rx;have ry:=hF y;rw[hy]at ry;have rz:=hF z;rw[hz]at rz;obtain⟨h1,h2,h3⟩:=hp;cases x'<;>simp only[jg]at h1;cases y'<;>simp only[jg]at h2;cases z'<;>simp only[jg]at h3;rename_i k a k' b k'' c;refine fM (tt:=tt) h (v:=.int k (if c>(if b>a then b else a)then c else(if b>a then b else a))) (jK ho ?_) λok=>.int _ _;simp[builtin,Builtin.max_,Builtin.max2,rx.eX.dR,ry.eX.dR,rz.eX.dR]
 .cases hk
theorem PO{Pg:Program}{tt:TT}(htt:iC Pg tt)(t:TypeId)(x ix:Operand):fB Pg tt (.index t x ix):=by
 intro E st gh val w ρ F o d r ho h hF hFn hk hp hd;simp only[kernel]at hk;split at hk
 rotate_left
 cases hk;rename_i _ _ _ _ _ x' _ _ n ht hx hn;cases hk;have rx:=hF x;rw[hx]at rx;have ry:=hF ix;rw[hn]at ry;have hu:=(htt _ _ ht).kind;simp only[oG]at hu;obtain⟨h1,h2⟩:=hp;cases x'<;>simp only[P.isStr]at h1;cases n<;>simp only[inRange]at h2;rename_i s k n;have hlt:n.toNat<s.size:=by simp only[P.bytes]at h2;omega
 have hr:(Instr.index t (ρ x) (ρ ix)).run Pg w=.ok (.int .u8 (s.data.getD n.toNat 0).toNat) w:=by
  rw[rx.eX.qJ,ry.eX.dR];have hs:s[n.toNat]?=some (s.data.getD n.toNat 0):=by have hlt':n.toNat<s.data.size:=hlt;rw[getElem?_pos s n.toNat hlt];simp only[Array.getD,hlt',dite_true];rfl
  simp[Instr.index,asIntOf,dN hu,h2.1,hs]
 exact fM (tt:=tt) h (by unfold execOp;rw[ho];exact fQ hr) λok=>.int _ _
theorem HY{F:Operand->S}:∀{xs:List Operand} {ws:List W},(xs.mapM (λx=>match F x with|.v (.one w)=>some w|_=>none))=some ws->
  ws.length=xs.length/\∀(j:Nat) x w,xs[j]?=some x->ws[j]?=some w->F x=.v (.one w)
 | [],ws,h=>by simp at h;subst h;exact⟨rfl,λj x w hx=>by simp at hx⟩
 |x::xs,ws,h=>by
  simp only[vQ,Option.bind_eq_bind,JS,Option.pure_def,Q0]at h;obtain⟨w0,h0,ws',h1,rfl⟩:=h;obtain⟨hl,hj⟩:=HY h1;refine⟨by simp[hl],λj x' w' hx hw=>?_⟩;cases j with
  |zero=>
   simp at hx hw;subst hx hw;split at h0
   .rename_i w1 hw1;simp at h0;subst h0;exact hw1
   .cases h0
  |succ j=>simp at hx hw;exact hj j x' w' hx hw
theorem H6{Pg:Program}{tt:TT}(g:FuncId)(first caps:Array Operand):fB Pg tt (.makeFunc (.func g) first caps):=by
 intro E st gh val w ρ F o d r ho h hF hFn hk hp hd;simp only[kernel]at hk;split at hk
 rotate_left
 cases hk;rename_i hf;split at hk
 rotate_left
 cases hk;rename_i ws hm;cases hk;obtain⟨hl,hj⟩:=HY hm;have hf0:first=#[]:=by simpa using hf
 have hrep:eH E st gh w (.clo g ws) (.func (.func g) #[] ((caps.toList.map ρ)).toArray):=by refine .clo g ws _ (by simp[hl]) λj x v hx hv=>?_;simp only[Z3,W7]at hv;obtain⟨y,hy,rfl⟩:=hv;have:=hF y;rw[hj j y x hy hx]at this;exact this.dB
 refine still h (v:=.func (.func g) #[] ((caps.toList.map ρ)).toArray) (by unfold execOp;rw[ho];subst hf0;simp only[Array.map_empty,Instr.makeFunc,pure_bind,Sem.run_pure];congr 4;apply Array.ext';simp) (dn.Gu hrep) λg' hg'=>?_;have hg':g'∈(S.v (.one (.clo g ws))).names:=hg';rw[dG,W.names,YY]at hg';obtain⟨⟨x,hx⟩,_,hg'⟩:=hg';obtain⟨j,hj',hxj⟩:=List.mem_iff_getElem.1 hx;have aod:ws[j]?=some x:=by rw[Q3 hj',hxj]
 have hlt:j<caps.toList.length:=by omega
 have hy:caps.toList[j]?=some caps.toList[j]:=Q3 hlt;have:=hFn caps.toList[j] g';rw[hj j _ x hy aod,dG]at this;exact this hg'
end Go.Fw

namespace Go.Fw
variable [dV]
section
variable {E:Env} {st st':St} {gh bG:Nat->Gh} {w w':World} {val:Nat->Value} {Pg:Program} {tt:TT}
theorem kG{agg:Bool}{ws:List W}{cs:List Value}(hl:ws.length=cs.length)(hc :∀c∈cs,c.oneCell'=true)(hr :∀(j:Nat) x u,ws[j]?=some x->cs[j]?=some u->eH E st gh w x u)
  (v:Value) (hv:if agg=true then v=.agg cs.toArray else∀u,cs[0]?=some u->v=u):dn E st gh w (V.fA agg ws) v:=by
 unfold V.fA;cases agg with
 |true=>simp only[if_true]at hv ⊢;subst hv;exact .v _ _ (.agg ws cs hl hc hr)
 |false=>
  simp only[Wa,if_false]at hv ⊢;split
  .rename_i x;have h0:0<cs.length:=by rw[<-hl];simp
   have:=hv cs[0] (Q3 h0);subst this;exact dn.Gu (hr 0 x _ rfl (Q3 h0))
  .exact .no _
theorem jh{agg:Bool}{ws:List W}{g:Nat}(hg:g∈(V.fA agg ws).names):∃x∈ws,g∈x.names:=by
 unfold V.fA at hg;cases agg with
 |true=>simpa[S.names,V.names]using hg
 |false=>
  simp only[Wa,if_false]at hg;split at hg
  .rename_i x;exact⟨x,by simp,by simpa[S.names,V.names]using hg⟩
  .simp [S.names]at hg
theorem lV(a:Addr)(cs:List Value):∀(n i:Nat) (acc:Array Value),(∀j,j<n->w.cell? (a.add (i+j))=cs[j]?)->n<=cs.length->
  (loadCellsFrom a i n acc).run Pg w=.ok (acc++(cs.take n).toArray) w:=by
 intro n
 induction n generalizing cs with
 |zero=>intro i acc _ _;simp[loadCellsFrom]
 |succ n ih=>
  intro i acc hc hl;cases cs with
  |nil=>simp at hl
  |cons c cs=>
   have h0:=hc 0 (by omega);simp only[Uq,J2]at h0;have hrest:=ih cs (i+1) (acc.push c) (λj hj=>by have:=hc (j+1) (by omega);simp only[VV]at this;rw[<-this];congr 2;omega) (by simpa using hl)
   simp only[loadCellsFrom,Sem.run_bind,run_load,h0,Result.andThen_ok];rw[hrest];simp
theorem jO{t:TypeId}{i:TI}(h:oW Pg t i)(b o:Nat)(cs:List Value)(hl:cs.length=i.size)(hc :∀(j:Nat) u,cs[j]?=some u->w.cell? ⟨b,o+j,none⟩=some u)(hp:i.agg=false->0<i.size):
  ∃v,(loadVar t ⟨b,o,none⟩).run Pg w=.ok v w/\(if i.agg=true then v=.agg cs.toArray else∀u,cs[0]?=some u->v=u):=by
 unfold loadVar;simp only[Sem.run_bind,zF h,Result.andThen_ok];cases ha:i.agg with
 |true=>
  refine⟨.agg cs.toArray,?_,by simp⟩;have:=lV (Pg:=Pg) (w:=w) ⟨b,o,none⟩ cs i.size 0 #[] (λj hj=>by
   rw[Addr.gX];have hlt:j<cs.length:=by omega
   rw[Q3 hlt,V1];exact hc j _ (Q3 hlt)) (by omega)
  simp only[if_true,Sem.run_bind,dL h,Result.andThen_ok,loadCells,this];simp[<-hl]
 |false=>
  have h0:0<cs.length:=by have:=hp ha;omega
  have hcell:=hc 0 _ (Q3 h0);simp only[Uq]at hcell;exact⟨cs[0],by simp[run_load,hcell],by simp only[Wa,if_false];intro u hu;rw[Q3 h0]at hu;exact WN hu⟩
theorem eH.oneCell{x:W}{v:Value}(h:eH E st gh w x v)(hx :∀b y,x≠.gd b y)(hn:x≠.no):v.oneCell'=true:=by
 cases h with
 |p a i x v h=>exact h.oneCell
 |gd b x v h=>exact absurd rfl (hx b x)
 |no v=>exact absurd rfl hn
 |b_=>rfl
 |sp a i row off b o hb h=>rfl
 |clo f caps vs hl h=>rfl
 |gl g=>rfl
 |_=>assumption
theorem yS.cells{ws:List W}{G:Gh}(h:yS E st gh w ws G):∃ad,G.ad=some ad/\∃cs:List Value,cs.length=ws.length/\(∀c∈cs,c.oneCell'=true)/\
  (∀(j:Nat) u,cs[j]?=some u->w.cell? ⟨ad.block,ad.off+j,none⟩=some u)/\∀(j:Nat) x u,ws[j]?=some x->cs[j]?=some u->eH E st gh w x u:=by
 obtain⟨ad,c,e,h1,h2,h3,h4,h5⟩:=h;refine⟨ad,h1,(c.toList.drop ad.off).take ws.length,by simp;omega,λv hv=>?_,λj u hu=>?_,λj x u hx hu=>?_⟩
 .obtain ⟨j,hj,rfl⟩:=List.mem_iff_getElem.1 hv;have hjl:j<ws.length:=by simp at hj;omega
  obtain⟨v,hv,ho,_⟩:=h5 j ws[j] (Q3 hjl);have:((c.toList.drop ad.off).take ws.length)[j]=v:=by simp only[qi,List.getElem_drop,Array.getElem_toList];exact(VC.1 hv).2
  rw[this];exact ho
 .have hjl:j<ws.length:=by have:=(Q4.1 hu).1;simp at this;omega
  rw[ZZ,Qt hjl,Wb,J1]at hu;simp[World.cell?,h3,hu]
 .have hjl:j<ws.length:=(Q4.1 hx).1;rw[ZZ,Qt hjl,Wb,J1]at hu;obtain⟨v,hv,_,hr⟩:=h5 j x hx;rw[hv]at hu;cases hu;exact hr
theorem C_{fz a i:Bool}{sz:Nat}{l:List (List P)}{G:Gh}(h:lF E st gh w (.arr fz a i sz l) G){n:Nat}{x:List P}(hx:l[n]?=some x){ad:Addr}(had:G.ad=some ad):
  x.length=sz/\∀(j:Nat) y,x[j]?=some y->∃v,w.cell? ⟨ad.block,ad.off+n*sz+j,none⟩=some v/\bU w (E.ok st gh w a i) y v:=by
 cases fz with
 |false=>
  rcases h with⟨h1,h2,h3⟩|⟨ad',c,e,h1,h2,h3,h4,h5,h6,h7⟩
  .subst h3;simp at hx
  .rw [had]at h1;cases h1;refine⟨h6 x (Ys hx),λj y hy=>?_⟩;obtain⟨v,hv,hr⟩:=h7 n x hx j y hy;exact⟨v,by simp[World.cell?,h3,hv],hr⟩
 |true=>
  have h:bU w (E.ok st gh w a i) (.sl sz l) (.slice G.ad l.length G.cap):=h;rw[had]at h;generalize hm:l.length=m at h;cases h with
  |nil=>simp at hx
  |sl _ _ ad' cap f hs hok hcap hlen hc hr=>refine⟨hlen x (Ys hx),λj y hy=>⟨_,hc n x hx j y hy,hr n x hx j y hy⟩⟩
theorem PU{a i:Bool}{row:List P}{b o off n:Nat}(h :∀(j:Nat) y,row[j]?=some y->∃v,w.cell? ⟨b,o+j,none⟩=some v/\bU w (E.ok st gh w a i) y v)(hn:off+n<=row.length):
  ∃cs:List Value,cs.length=n/\(∀(j:Nat) u,cs[j]?=some u->w.cell? ⟨b,o+off+j,none⟩=some u)/\(∀c∈cs,c.oneCell'=true)/\
   ∀(j:Nat) x u,((List.range n).map λj=>W.p a i (row.getD (off+j) default))[j]?=some x->cs[j]?=some u->eH E st gh w x u:=by
 have key :∀j,j<n->∃v,w.cell? ⟨b,o+off+j,none⟩=some v/\bU w (E.ok st gh w a i) (row.getD (off+j) default) v:=by
  intro j hj;have hlt:off+j<row.length:=by omega
  obtain⟨v,hv,hr⟩:=h (off+j) row[off+j] (Q3 hlt);refine⟨v,by rw[<-hv,JP],?_⟩;rw[Q2,Q3 hlt];exact hr
 refine⟨(List.range n).map λj=>(w.cell? ⟨b,o+off+j,none⟩).getD undef,by simp,λj u hu=>?_,λc hc=>?_,λj x u hx hu=>?_⟩
 .simp only[Z3,W7]at hu;obtain⟨k,hk,rfl⟩:=hu;obtain⟨hlt,rfl⟩:=Q4.1 hk;simp at hlt ⊢;obtain⟨v,hv,_⟩:=key j hlt;rw[hv];rfl
 .simp only[XN,V0]at hc;obtain⟨j,hj,rfl⟩:=hc;obtain⟨v,hv,hr⟩:=key j hj;rw[hv];exact hr.oneCell
 .simp only[Z3,W7]at hx hu;obtain⟨k,hk,rfl⟩:=hx;obtain⟨k',hk',rfl⟩:=hu;rw[hk]at hk';cases hk';obtain⟨hlt,rfl⟩:=Q4.1 hk;simp at hlt ⊢;obtain⟨v,hv,hr⟩:=key j hlt;rw[hv];exact .p _ _ _ _ hr
theorem rJ{a i:Bool}{n:Nat}{f:Nat->P}{x:W}(hx:x∈(List.range n).map λj=>W.p a i (f j)):x.names=[]:=by simp only[XN]at hx;obtain⟨j,_,rfl⟩:=hx;simp[W.names]
theorem Ud(htt:iC Pg tt)(t:TypeId)(x:Operand):fB Pg tt (.load t x):=by
 intro E st gh val w ρ F o d r ho h hF hFn hk hp hd;simp only[kernel]at hk;split at hk
 .rename_i i g off ht hx;have rx:=hF x;rw[hx]at rx;split at hk
  rotate_left
  cases hk;rename_i ws hog;split at hk
  rotate_left
  cases hk;rename_i hlt;cases hk;have hO:=h.aW g;rw[hog]at hO;obtain⟨ad,had,cs,hl,hone,hcell,hrep⟩:=yS.cells hO;obtain⟨ad',Nw,hv⟩:=(by cases rx.dB with|box _ _ _ _ hb=>exact hb ws hog :∃ad,(gh g).ad=some ad/\ρ x=.pointer (some ⟨ad.block,ad.off+off,none⟩));rw[had]at Nw;cases Nw;have hl':((cs.drop off).take i.size).length=i.size:=by simp;omega
  obtain⟨v,hrun,hval⟩:=jO (Pg:=Pg) (w:=w) (htt _ _ ht) ad.block (ad.off+off) ((cs.drop off).take i.size) hl' (λj u hu=>by
   have hj:j<i.size:=by have:=(Q4.1 hu).1;omega
   rw[ZZ,Qt hj,Wb]at hu;rw[JP];exact hcell _ _ hu) (λ_=>hlt.2)
  refine still h (v:=v) (by unfold execOp;rw[ho];exact fQ (by rw[hv];simpa[Instr.loadAt,Instr.sureAddr]using hrun)) (kG (cs:=(cs.drop off).take i.size) (by simp;omega) (λc hc=>hone c (Up (W6 hc)))
   (λj y u hy hu=>?_) v hval) λg' hg'=>?_
  .have hj:j<i.size:=by have:=(Q4.1 hu).1;omega
   rw[ZZ,Qt hj,Wb]at hy hu;exact hrep _ _ _ hy hu
  .obtain ⟨y,hy,hg'⟩:=jh hg';have hy':=Up (W6 hy);exact h.uo g g' (by rw[hog];simp only[O.names,YY];exact⟨y,hy',hg'⟩)
 .rename_i i g n off ht hx;have rx:=hF x;rw[hx]at rx;split at hk
  rotate_left
  cases hk;rename_i fz a i' sz l hog;split at hk
  rotate_left
  cases hk;rename_i hlt;cases hk;have hO:=h.aW g;rw[hog]at hO;obtain⟨ad,k,had,rfl,hk,hv⟩:=(by cases rx.dB with|ep _ _ _ _ _ hb=>exact hb _ _ (O.jM hog) :∃(ad:Addr) (k:Nat),(gh g).ad=some ad/\n=.int .i64 k/\k<l.length/\ρ x=.pointer (some ⟨ad.block,ad.off+k*sz+off,none⟩));have hrow:l[k]?=some l[k]:=Q3 hk;obtain⟨hlen,hc⟩:=C_ hO hrow had;have hget:l.getD (P.int .i64 (k:Int)).nat []=l[k]:=by
   have:(P.int .i64 (k:Int)).nat=k:=by simp[P.nat,P.num]
   rw[this,Q2,hrow];rfl
  obtain⟨cs,hl,hcell,hone,hrep⟩:=PU (n:=i.size) (off:=off) hc (by omega);obtain⟨v,hrun,hval⟩:=jO (Pg:=Pg) (w:=w) (htt _ _ ht) ad.block (ad.off+k*sz+off) cs hl hcell (λ_=>hlt.2);rw[hget];have hzw:((List.range i.size).map λj=>W.p a i' (l[k].getD (off+j) (PI i.zero j)))=(List.range i.size).map λj=>W.p a i' (l[k].getD (off+j) default):=by
   refine W4 λj hj=>?_;have hj:j<i.size:=V0.1 hj;have hlt':off+j<l[k].length:=by omega
   simp[Q2,Q3 hlt']
  rw[hzw];exact still h (v:=v) (by unfold execOp;rw[ho];exact fQ (by rw[hv];simpa[Instr.loadAt,Instr.sureAddr]using hrun)) (kG (by simp[hl]) hone hrep v hval)
   λg' hg'=>by obtain⟨y,hy,hg'⟩:=jh hg';rw[rJ hy]at hg';cases hg'
 .rename_i i a i' row off ht hx;have rx:=hF x;rw[hx]at rx;split at hk
  rotate_left
  cases hk;rename_i hlt;cases hk;obtain⟨b,o',hb,hc,hv⟩:=(by generalize hz:ρ x=z at rx;cases rx.dB with|sp _ _ _ _ b o' hb hc=>exact⟨b,o',hb,hc,hz.symm▸rfl⟩ :
   ∃b o',(row≠[]->E.ok st gh w a i' b)/\(∀(j:Nat) y,row[j]?=some y->∃u,w.cell? ⟨b,o'+j,none⟩=some u/\bU w (E.ok st gh w a i') y u)/\ρ x=.pointer (some ⟨b,o'+off,none⟩))
  obtain⟨cs,hl,hcell,hone,hrep⟩:=PU (n:=i.size) (off:=off) hc hp;obtain⟨v,hrun,hval⟩:=jO (Pg:=Pg) (w:=w) (htt _ _ ht) b (o'+off) cs hl hcell (λ_=>hlt);exact still h (v:=v) (by unfold execOp;rw[ho];exact fQ (by rw[hv];simpa[Instr.loadAt,Instr.sureAddr]using hrun)) (kG (by simp[hl]) hone hrep v hval)
   λg' hg'=>by obtain⟨y,hy,hg'⟩:=jh hg';rw[rJ hy]at hg';cases hg'
 .cases hk
theorem Yq{t:TypeId}{i:TI}(h:oW Pg t i)(cs:List Value)(off:Nat)(hlt:off+i.size<=cs.length)(hp:0<i.size):
  ∃v,(part t cs.toArray off).run Pg w=.ok v w/\(if i.agg=true then v=.agg ((cs.drop off).take i.size).toArray else∀u,((cs.drop off).take i.size)[0]?=some u->v=u):=by
 unfold part;simp only[Sem.run_bind,zF h,Result.andThen_ok];cases ha:i.agg with
 |true=>
  refine⟨.agg ((cs.drop off).take i.size).toArray,?_,by simp⟩;simp only[if_true,Sem.run_bind,dL h,Result.andThen_ok];have:cs.toArray.extract off (off+i.size)=((cs.drop off).take i.size).toArray:=by simp[List.extract_toArray]
  rw[this];rfl
 |false=>
  have hlt':off<cs.length:=by omega
  refine⟨cs[off],by simp[Q3 hlt'],?_⟩;simp only[Wa,if_false];intro u hu;rw[ZZ,Qt hp,Wb]at hu;rw[Uq,Q3 hlt']at hu;exact WN hu
theorem PY(htt:iC Pg tt)(t:TypeId)(x:Operand)(n:Nat):fB Pg tt (.field t x n):=by
 intro E st gh val w ρ F o d r ho h hF hFn hk hp hd;simp only[kernel]at hk;split at hk
 rotate_left
 cases hk;rename_i fs _ _ _ ws ht hx;have rx:=hF x;rw[hx]at rx;obtain⟨cs,hv,hl,hone,hrep⟩:=rx.Gt;split at hk
 rotate_left
 cases hk;rename_i off u hn;split at hk
 rotate_left
 cases hk;rename_i iu hu;split at hk
 rotate_left
 cases hk;rename_i hlt;cases hk;obtain⟨gs,f,g1,g2,g3,g4⟩:=AP (htt _ _ ht) hn;obtain⟨v,hrun,hval⟩:=Yq (Pg:=Pg) (w:=w) (htt _ _ hu) cs off (by omega) hlt.2;have hr:(Instr.field t (ρ x) n).run Pg w=.ok v w:=by rw[hv];simp only[Instr.field,Sem.run_bind,dN g1,Result.andThen_ok,g2,g3,g4,asAgg,Sem.run_pure];exact hrun
 refine still h (v:=v) (by unfold execOp;rw[ho];exact fQ hr) (kG (cs:=(cs.drop off).take iu.size) (by simp;omega) (λc hc=>hone c (Up (W6 hc)))
  (λj y u hy hu=>?_) v hval) λg' hg'=>?_
 .have hj:j<iu.size:=by have:=(Q4.1 hu).1;simp at this;omega
  rw[ZZ,Qt hj,Wb]at hy hu;exact hrep _ _ _ hy hu
 .obtain ⟨y,hy,hg'⟩:=jh hg';have hy':=Up (W6 hy);have:=hFn x g';rw[hx]at this;exact this (by simp only[S.names,V.names,YY];exact⟨y,hy',hg'⟩)
theorem qK{n:P}{m:Nat}(h:inRange n m):∃k j,n=.int k j/\0<=j/\j<m/\n.nat<m/\(n.nat:Int)=j:=by cases n<;>simp only[inRange]at h;rename_i k j;exact⟨k,j,rfl,h.1,h.2,by simp[P.nat,P.num];omega,by simp[P.nat,P.num];omega⟩
theorem bU.zG{ok:Nat->Prop}{sz:Nat}{l:List (List P)}{v:Value}(h:bU w ok (.sl sz l) v):∃ao cap,v=.slice ao l.length cap/\l.length<=cap/\
  (l≠[]->∃ad,ao=some ad/\ad.spot=none/\(0<sz->ok ad.block)/\(∀x∈l,x.length=sz)/\∃f:Nat->Nat->Value,(∀(i:Nat) x,l[i]?=some x->∀(j:Nat) y,x[j]?=some y->w.cell? ⟨ad.block,ad.off+i*sz+j,none⟩=some (f i j))/\
   ∀(i:Nat) x,l[i]?=some x->∀(j:Nat) y,x[j]?=some y->bU w ok y (f i j)):=by
 cases h with
 |nil sz ao cap=>exact⟨ao,cap,rfl,vb _,λh=>absurd rfl h⟩
 |sl sz l ad cap f hs hok hcap hlen hc hr=>exact⟨some ad,cap,rfl,hcap,λ_=>⟨ad,rfl,hs,hok,hlen,f,hc,hr⟩⟩
theorem Ny{fz a i:Bool}{sz:Nat}{l:List (List P)}{G:Gh}(h:lF E st gh w (.arr fz a i sz l) G):l.length<=G.cap:=by
 cases fz with
 |false=>
  rcases h with⟨h1,h2,h3⟩|⟨ad,c,e,q1,q2,q3,q4,q5,_⟩
  .subst h3;exact vb _
  .exact q5.1
 |true=>have h:bU w (E.ok st gh w a i) (.sl sz l) (.slice G.ad l.length G.cap):=h;obtain⟨ao,cap,he,hc,_⟩:=h.zG;cases he;exact hc
theorem uK{x:O}{G:Gh}(h:lF E st gh w x G){sz len:Nat}(hd:x.dim=some (sz,len)):len<=G.cap/\(0<len->∃ad,G.ad=some ad/\ad.spot=none):=by
 cases x with
 |arr fz a i sz' l=>
  obtain⟨rfl,rfl⟩:=O.jJ hd;refine⟨Ny h,λhp=>?_⟩;cases fz with
  |false=>
   rcases h with⟨h1',h2',h3'⟩|⟨ad,c,e,q1,q2,_⟩
   .subst h3';simp at hp
   .exact ⟨ad,q1,q2⟩
  |true=>have h:bU w (E.ok st gh w a i) (.sl sz' l) (.slice G.ad l.length G.cap):=h;obtain⟨ao,cap,he,hc,hr⟩:=h.zG;cases he;obtain⟨ad,h1,hs,_⟩:=hr (vq.1 hp);exact⟨ad,h1,hs⟩
 |aF a i sz' ah l hole=>
  simp only[O.dim,Q0,QP]at hd;obtain⟨rfl,rfl⟩:=hd;rcases h with⟨h1',h2',h3',_⟩|⟨ad,c,e,q1,q2,q3,q4,q5,_⟩
  .subst h3';exact⟨vb _,λhp=>by simp at hp⟩
  .exact ⟨q5.1,λ_=>⟨ad,q1,q2⟩⟩
 |_=>cases hd
theorem run_indexAt_slice{t e:TypeId}{ie:TI}(hu:Pg.underlying t=some (.slice e))(he:oW Pg e ie)(b o len cap:Nat)(k:IntKind)(j:Int)(h0:0<=j)(h1:j<len):
  (Instr.indexAt t (.slice (some ⟨b,o,none⟩) len cap) (.int k j)).run Pg w=.ok (.pointer (some ⟨b,o+j.toNat*ie.size,none⟩)) w:=by
 simp only[Instr.indexAt,asIntOf,Sem.run_bind,Sem.run_pure,dN hu,Result.andThen_ok];simp[h0,h1,dL he,Addr.gX]
theorem Gj(htt:iC Pg tt)(t:TypeId)(x ix:Operand):fB Pg tt (.indexAddr t x ix):=by
 intro E st gh val w ρ F o d r ho h hF hFn hk hp hd;simp only[kernel]at hk;split at hk
 .rename_i e _ _ _ x' _ _ n ht hx hn;have rx:=hF x;rw[hx]at rx;have rn:=hF ix;rw[hn]at rn;have hu:=(htt _ _ ht).kind;simp only[oG]at hu;have hnx :∀g,g∈x'.names->st.used g=true:=λg hg=>hFn x g (by rw[hx,dG];exact hg);split at hk
  .rename_i ie g he;split at hk
   rotate_left
   cases hk;rename_i sz l hog;split at hk
   rotate_left
   cases hk;rename_i hsz;cases hk;obtain⟨k,j,hnk,h0,h1,h2,h3⟩:=qK hp;have rn':ρ ix=.int k j:=by have:=rn.eX;rw[hnk]at this;exact this.dR
   have hv:=(by cases rx.dB with|own _ _ _ hb=>exact hb _ _ hog:ρ x=.slice (gh g).ad l (gh g).cap);obtain⟨ad,had,hs⟩:=(uK (h.aW g) hog).2 (by omega);have Nw:(gh g).ad=some ⟨ad.block,ad.off,none⟩:=by rw[had,<-hs]
   have hr:(Instr.indexAt t (ρ x) (ρ ix)).run Pg w=.ok (.pointer (some ⟨ad.block,ad.off+n.nat*sz,none⟩)) w:=by
    have hj:j.toNat=n.nat:=by rw[hnk];rfl
    rw[hv,Nw,rn',run_indexAt_slice hu (htt _ _ he) _ _ _ _ _ _ h0 h1,hj,hsz]
   refine still h (v:=.pointer (some ⟨ad.block,ad.off+n.nat*sz,none⟩)) (by unfold execOp;rw[ho];exact fQ hr) (dn.Gu (.ep g _ 0 _ rfl λsz' len' ho'=>?_)) λg' hg'=>?_
   .rw [hog]at ho';cases ho';exact⟨ad,n.nat,had,rfl,h2,by rw[Uq]⟩
   .have hg':g'∈(S.v (.one (.ep g (kE n.nat) 0))).names:=hg';rw[dG]at hg';exact hnx g' (by simpa[W.names]using hg')
  .rename_i ie g lo hi he;split at hk
   rotate_left
   cases hk;rename_i sz l hog;split at hk
   rotate_left
   cases hk;rename_i hsz;cases hk;obtain⟨k,j,hnk,h0,h1,h2,h3⟩:=qK hp;have rn':ρ ix=.int k j:=by have:=rn.eX;rw[hnk]at this;exact this.dR
   obtain⟨p,q,vc,rfl,rfl,hpq,hql,hvc,hv⟩:=(by cases rx.dB with|vw _ _ _ _ _ hb=>exact hb _ _ hog :∃p q c:Nat,lo=.int .i64 p/\hi=.int .i64 q/\p<=q/\q<=l/\(q-p<=c/\p+c<=(gh g).cap)/\
    ρ x=.slice (if(gh g).cap=p then(gh g).ad else(gh g).ad.map (·.add (p*sz))) (q-p) c)
   have e1:(P.int .i64 (q:Int)).nat=q:=by simp[P.nat,P.num]
   have e2:(P.int .i64 (p:Int)).nat=p:=by simp[P.nat,P.num]
   rw[e1,e2]at h1 h2;have hidx:p+n.nat<l:=by omega
   obtain⟨hcap,had⟩:=uK (h.aW g) hog;obtain⟨ad,had,hs⟩:=had (by omega);have hne:¬ (gh g).cap=p:=by omega
   have Nw:(gh g).ad=some ⟨ad.block,ad.off,none⟩:=by rw[had,<-hs]
   have hr:(Instr.indexAt t (ρ x) (ρ ix)).run Pg w=.ok (.pointer (some ⟨ad.block,ad.off+(p+n.nat)*sz,none⟩)) w:=by
    have hj:j.toNat=n.nat:=by rw[hnk];rfl
    rw[hv,QR hne,Nw,rn'];simp only[W2,Addr.gX];rw[run_indexAt_slice hu (htt _ _ he) _ _ _ _ _ _ h0 h1,hj,<-hsz,Wl,JP]
   refine still h (v:=.pointer (some ⟨ad.block,ad.off+(p+n.nat)*sz,none⟩)) (by unfold execOp;rw[ho];exact fQ hr) (dn.Gu (.ep g _ 0 _ rfl λsz' len' ho'=>?_)) λg' hg'=>?_
   .rw [hog]at ho';cases ho';exact⟨ad,p+n.nat,had,by rw[e2];rfl,hidx,by rw[Uq]⟩
   .have hg':g'∈(S.v (.one (.ep g (kE ((P.int .i64 (p:Int)).nat+n.nat)) 0))).names:=hg';rw[dG]at hg';exact hnx g' (by simpa[W.names]using hg')
  .rename_i ie a i y he;cases hk;obtain⟨hsl,hp⟩:=hp;obtain⟨k,j,hnk,h0,h1,h2,h3⟩:=qK hp;have rn':ρ ix=.int k j:=by have:=rn.eX;rw[hnk]at this;exact this.dR
   cases y with
   |sl sz l=>
    have hne:l≠[]:=by intro e;subst e;simp[P.list]at h2
    have hsz:sz=ie.size:=by rcases hsl with e|e;exact e;exact absurd e hne
    subst hsz;have hrx:=rx.eX;generalize hz:ρ x=z at hrx;cases hrx with
    |nil=>exact absurd rfl hne
    |sl _ _ ad cap f hs hok hcap hlen hc hrr=>
     have h1:j<(l.length:Int):=h1;have h2:n.nat<l.length:=h2;obtain⟨b0,o0,sp0⟩:=ad;simp only at hs;subst hs;have hrow:l[n.nat]?=some l[n.nat]:=Q3 h2;have hr:(Instr.indexAt t (ρ x) (ρ ix)).run Pg w=.ok (.pointer (some ⟨b0,o0+n.nat*ie.size,none⟩)) w:=by
      have hj:j.toNat=n.nat:=by rw[hnk];rfl
      rw[hz,rn',run_indexAt_slice hu (htt _ _ he) _ _ _ _ _ _ h0 h1,hj]
     have hget:(P.sl ie.size l).list.getD n.nat []=l[n.nat]:=by show l.getD n.nat []=_;rw[Q2,hrow];rfl
     refine still h (v:=.pointer (some ⟨b0,o0+n.nat*ie.size,none⟩)) (by unfold execOp;rw[ho];exact fQ hr) (dn.Gu ?_) λg' hg'=>?_
     .rw [hget];have:=eH.sp (E:=E) (st:=st) (gh:=gh) (w:=w) a i l[n.nat] 0 b0 (o0+n.nat*ie.size) (λh0=>hok (by have:=hlen l[n.nat] (Z2 h2);have:=vq.2 h0;omega)) (λj y hy=>⟨_,hc _ _ hrow j y hy,hrr _ _ hrow j y hy⟩);simpa using this
     .have hg':g'∈(S.v (.one (.sp a i ((P.sl ie.size l).list.getD n.nat []) 0))).names:=hg';rw[dG]at hg';simp[W.names]at hg'
   |_=>exact hsl.elim
  .cases hk
 .rename_i m e _ _ _ g _ _ n ht hx hn;have rx:=hF x;rw[hx]at rx;have rn:=hF ix;rw[hn]at rn;have hu:=(htt _ _ ht).kind;simp only[oG]at hu;split at hk
  rotate_left
  cases hk;rename_i ie sz rows he hgt;split at hk
  rotate_left
  cases hk;rename_i hc;cases hk;obtain⟨k,j,hnk,h0,h1,h2,h3⟩:=qK hp;have rn':ρ ix=.int k j:=by have:=rn.eX;rw[hnk]at this;exact this.dR
  have hv:ρ x=.pointer (some ⟨g,0,none⟩):=by have:=rx.dB;generalize ρ x=z at this;cases this;rfl
  obtain⟨g1,g2,g3⟩:=E.hg g sz rows hgt;have hlt:n.nat<rows.length:=by omega
  have hrow:rows[n.nat]?=some rows[n.nat]:=Q3 hlt;have hfr:w.heap[g]?=E.w0.heap[g]?:=h.frame g g1 g2;have hj:j.toNat=n.nat:=by rw[hnk];rfl
  have hr:(Instr.indexAt t (ρ x) (ρ ix)).run Pg w=.ok (.pointer (some ⟨g,n.nat*sz,none⟩)) w:=by rw[hv,rn'];simp only[Instr.indexAt,asIntOf,Sem.run_bind,Sem.run_pure,dN hu,Result.andThen_ok,Instr.sureAddr];simp[h0,h1,dL (htt _ _ he),Addr.gX,hj,hc.1]
  have hget:rows.getD n.nat []=rows[n.nat]:=by rw[Q2,hrow];rfl
  have hok:E.ok st gh w false false g:=⟨.inr (.inr (.inr (by unfold dV.has;rw[hgt];rfl))),Vi g1 h.size,λg' ho had=>by
   rcases (h.wr g' g ho had).1 with q|q
   .omega
   .exact g2 q⟩
  refine still h (v:=.pointer (some ⟨g,n.nat*sz,none⟩)) (by unfold execOp;rw[ho];exact fQ hr) (dn.Gu ?_) λg' hg'=>?_
  .show eH E st gh w (.sp false false (rows.getD n.nat []) 0) _;rw[hget];exact eH.sp false false rows[n.nat] 0 g (n.nat*sz) (λ_=>hok) λj y hy=>by obtain⟨u,hu1,hu2⟩:=(g3 _ _ hrow).2 j y hy;exact⟨u,(World.cell?_of_block (w:=E.w0) hfr).trans hu1,hu2.mono λ_ f=>f.elim⟩
  .have hg':g'∈(S.v (.one (.sp false false (rows.getD n.nat []) 0))).names:=hg';rw[dG]at hg';simp[W.names]at hg'
 .rename_i m e _ _ _ x' _ _ k n hng ht hx hn;have rx:=hF x;rw[hx]at rx;have rn:=hF ix;rw[hn]at rn;have hu:=(htt _ _ ht).kind;simp only[oG]at hu;split at hk
  rotate_left
  cases hk;rename_i ie he;split at hk
  rotate_left
  cases hk;rename_i hc;cases hk;obtain⟨b,o',hv,hsh⟩:=rx.dB.Hw hc.2.2;have hr:(Instr.indexAt t (ρ x) (ρ ix)).run Pg w=.ok (.pointer (some ⟨b,o'+n.toNat*ie.size,none⟩)) w:=by rw[hv,rn.eX.dR];simp only[Instr.indexAt,asIntOf,Sem.run_bind,Sem.run_pure,dN hu,Result.andThen_ok,Instr.sureAddr];simp[hc.1,hc.2.1,dL (htt _ _ he),Addr.gX]
  refine still h (v:=.pointer (some ⟨b,o'+n.toNat*ie.size,none⟩)) (by unfold execOp;rw[ho];exact fQ hr) (dn.Gu (hsh _)) λg' hg'=>hFn x g' ?_;have hg':g'∈(S.v (.one (x'.shift (n.toNat*ie.size)))).names:=hg';rw[dG,W.Ey]at hg';rw[hx,dG];exact hg'
 .cases hk
theorem Dc{b:Bool}{lo hi:Option Value}{len cap m k:Nat}(hlo:(lo=none/\m=0)\/∃kd,lo=some (.int kd m))(hhi:(hi=none/\k=len)\/∃kd,hi=some (.int kd k))(h1:m<=k)(h2:k<=cap):
  (Instr.sliceBounds b len cap lo hi none).run Pg w=.ok (m,k,cap) w:=by
 have hb :∀(kd:IntKind) (n y:Nat) (c:BoundsCode),n<=y->(Instr.sliceBound (.int kd n) y c).run Pg w=.ok n w:=by
  intro kd n y c hn;have:0<=(n:Int)/\(n:Int)<=y:=by omega
  simp[Instr.sliceBound,asIntOf,hn]
 unfold Instr.sliceBounds;rcases hhi with⟨rfl,rfl⟩|⟨kh,rfl⟩<;>rcases hlo with⟨rfl,rfl⟩|⟨kl,rfl⟩
 .simp
 .simp [hb _ _ _ _ h1]
 .simp [hb _ _ _ _ h2]
 .simp [hb _ _ _ _ h2,hb _ _ _ _ h1]
theorem nJ{lo hi:Option Value}{len cap m k:Nat}(hlo:(lo=none/\m=0)\/∃kd,lo=some (.int kd m))(hhi:(hi=none/\k=len)\/∃kd,hi=some (.int kd k))(h1:m<=k)(h2:k<=cap):
  (Instr.sliceBounds true len cap lo hi none).run Pg w=.ok (m,k,cap) w:=by
 have hb :∀(kd:IntKind) (n y:Nat) (c:BoundsCode),n<=y->(Instr.sliceBound (.int kd n) y c).run Pg w=.ok n w:=by
  intro kd n y c hn;have:0<=(n:Int)/\(n:Int)<=y:=by omega
  simp[Instr.sliceBound,asIntOf,hn]
 unfold Instr.sliceBounds;rcases hhi with⟨rfl,rfl⟩|⟨kh,rfl⟩<;>rcases hlo with⟨rfl,rfl⟩|⟨kl,rfl⟩
 .simp
 .simp [hb _ _ _ _ h1]
 .simp [hb _ _ _ _ h2]
 .simp [hb _ _ _ _ h2,hb _ _ _ _ h1]
theorem gK{F:Operand->S}{ρ:Operand->Value}(hF :∀x,dn E st gh w (F x) (ρ x)){dflt y:P}{lo:Option Operand}(h:lH dflt (lo.map F)=some y){m:Nat}(hy:y=.int .i64 m):
  (lo.map ρ=none/\dflt=.int .i64 m)\/∃kd,lo.map ρ=some (.int kd m):=by
 cases lo with
 |none=>simp only[Kl,lH,Q0]at h;subst h;exact .inl ⟨rfl,hy⟩
 |some x=>
  simp only[W2]at h ⊢;have:=hF x;unfold lH at h;split at h
  .rename_i he;cases he
  .rename_i a i z he;simp only[Q0]at he h;rw[he]at this;subst h hy;exact .inr ⟨.i64,by rw[this.eX.dR]⟩
  .cases h
theorem Nz(htt:iC Pg tt)(t:TypeId)(x hi mx:Operand):fB Pg tt (.slice t x none (some hi) (some mx)):=by
 intro E st gh val w ρ F o d r ho h hF hFn hk hp hd;simp only[kernel]at hk;unfold AB at hk;have hrun :∀(e:TypeId) (ao:Option Addr) (len cap k j:Nat) (ie:TI),Pg.underlying t=some (.slice e)->oW Pg e ie->ρ x=.slice ao len cap->ρ hi=.int .i64 k->ρ mx=.int .i64 j->k<=j->j<=cap->
   (execOp ρ o).run Pg w=.ok (.value (.slice (if j=0 then ao else ao.map (·.add 0)) k j)) w:=by
  intro e ao len cap k j ie hu he hv hh hm h1 h2;unfold execOp;rw[ho];refine fQ ?_;have b1:(j:Int)<=cap:=by omega
  have b2:(k:Int)<=j:=by omega
  simp[Instr.sliceAt,dN hu,Instr.slice,Instr.sliceBounds,Instr.sliceBound,asIntOf,hv,hh,hm,dL he,h1,h2,Result.andThen]
 split at hk
 .rename_i e _ _ _ g _ _ h' _ _ m' ht hx hh hm;have rx:=hF x;rw[hx]at rx;have rh:=hF hi;rw[hh]at rh;have rm:=hF mx;rw[hm]at rm;have hu:=(htt _ _ ht).kind;simp only[oG]at hu;split at hk
  rotate_left
  cases hk;rename_i ie _ _ sz l he hog;split at hk
  rotate_left
  cases hk;rename_i hsz;cases hk;obtain⟨k,j,rfl,rfl,hkj,hjl⟩:=hp;have hv:=(by cases rx.dB with|own _ _ _ hb=>exact hb _ _ (O.jM hog):ρ x=.slice (gh g).ad l.length (gh g).cap);have hcap:=(uK (h.aW g) (O.jM hog)).1;have hr:=hrun e _ _ _ k j ie hu (htt _ _ he) hv rh.eX.dR rm.eX.dR hkj (by omega);have hadd:(gh g).ad.map (·.add 0)=(gh g).ad:=by
   have hO:=h.aW g;rw[hog]at hO;rcases hO with⟨z1,_⟩|⟨ad,c,e0,z1,z2,_⟩
   .rw [z1];rfl
   .obtain ⟨b0,o0,sp0⟩:=ad;simp only at z2;subst z2;rw[z1];rfl
  rw[hadd,ite_self]at hr;refine still h hr (dn.Gu (.vw g (kE 0) _ _ rfl λsz' len' ho'=>?_)) λg' hg'=>?_
  .rw [hog]at ho';obtain⟨rfl,rfl⟩:=O.jJ (fz:=false) ho';refine⟨0,k,j,rfl,rfl,by omega,by omega,by omega,?_⟩;rw[Nat.zero_mul,hadd,ite_self,Nat.sub_zero]
  .have hg':g'∈(S.v (.one (.vw g (kE 0) (P.int .i64 (k:Int))))).names:=hg';rw[dG]at hg';exact hFn x g' (by rw[hx,dG];simpa[W.names]using hg')
 .rename_i e _ _ _ _ _ h' _ _ m' ht hx hh hm;have rx:=hF x;rw[hx]at rx;have rh:=hF hi;rw[hh]at rh;have rm:=hF mx;rw[hm]at rm;have hu:=(htt _ _ ht).kind;simp only[oG]at hu;split at hk
  rotate_left
  .cases hk
  rename_i ie he;cases hk;obtain⟨rfl,rfl⟩:=hp;have hv:ρ x=.slice none 0 0:=by have:=rx.dB;generalize ρ x=z at this;cases this;rfl
  have hr:(execOp ρ o).run Pg w=.ok (.value (.slice none 0 0)) w:=by unfold execOp;rw[ho];refine fQ ?_;have hh':=rh.eX.dR;have hm':=rm.eX.dR;simp[Instr.sliceAt,dN hu,Instr.slice,Instr.sliceBounds,Instr.sliceBound,asIntOf,hv,hh',hm',dL (htt _ _ he),Result.andThen]
  exact still h hr (dn.Gu .b_) λg' hg'=>by have hg':g'∈(S.v (.one W.b_)).names:=hg';rw[dG]at hg';simp[W.names]at hg'
 .cases hk
theorem PZ(htt:iC Pg tt)(t:TypeId)(x:Operand)(lo hi:Option Operand):fB Pg tt (.slice t x lo hi none):=by
 intro E st gh val w ρ F o d r ho h hF hFn hk hp hd;simp only[kernel]at hk;split at hk
 .rename_i e _ _ _ x' ht hx;have rx:=hF x;rw[hx]at rx;have hu:=(htt _ _ ht).kind;simp only[oG]at hu;have hnx :∀g,g∈x'.names->st.used g=true:=λg hg=>hFn x g (by rw[hx,dG];exact hg);have hrun :∀(ao:Option Addr) (len cap m k:Nat) (ie:TI),oW Pg e ie->ρ x=.slice ao len cap->(lo.map ρ=none/\m=0)\/(∃kd,lo.map ρ=some (.int kd m))->
    ((hi.map ρ=none/\k=len)\/∃kd,hi.map ρ=some (.int kd k))->m<=k->k<=cap->
    (execOp ρ o).run Pg w=.ok (.value (.slice (if cap=m then ao else ao.map (·.add (m*ie.size))) (k-m) (cap-m))) w:=by
   intro ao len cap m k ie he hv hlo hhi h1 h2;unfold execOp;rw[ho];refine fQ ?_;simp only[Kl];have hs:=nJ (Pg:=Pg) (w:=w) (len:=len) hlo hhi h1 h2;simp[Instr.sliceAt,dN hu,Instr.slice,hv,hs,dL he]
  split at hk
  rotate_left
  cases hk;rename_i ie ask len he hlen;split at hk
  rotate_left
  cases hk;rename_i lo' hi' hlo hhi;split at hk
  .rename_i g;split at hk
   rotate_left
   cases hk;rename_i sz l hog;split at hk
   rotate_left
   cases hk;rename_i hsz;cases hk;obtain⟨m,k,hm,hk,hmk,hkl⟩:=hp;have hv:=(by cases rx.dB with|own _ _ _ hb=>exact hb _ _ hog:ρ x=.slice (gh g).ad l (gh g).cap);have hcap:=(uK (h.aW g) hog).1;have H7:(lo.map ρ=none/\m=0)\/∃kd,lo.map ρ=some (.int kd m):=(gK hF hlo hm).imp (λ⟨a,b⟩=>⟨a,by simp[kE]at b;omega⟩) id;have uM:(hi.map ρ=none/\k=l)\/∃kd,hi.map ρ=some (.int kd k):=(gK hF hhi hk).imp (λ⟨a,b⟩=>⟨a,by simp only[lenOf,hog,Q0,QP]at hlen;rw[<-hlen.2]at b;simp at b;omega⟩) id
   refine still h (hrun _ _ _ m k ie (htt _ _ he) hv H7 uM hmk (by omega)) (dn.Gu (.vw g lo' hi' _ rfl λsz' len' ho'=>?_)) λg' hg'=>?_
   .rw [hog]at ho';cases ho';exact⟨m,k,(gh g).cap-m,hm,hk,hmk,hkl,by omega,by rw[hsz]⟩
   .have hg':g'∈(S.v (.one (.vw g lo' hi'))).names:=hg';rw[dG]at hg';exact hnx g' (by simpa[W.names]using hg')
  .rename_i a i y;cases hk;obtain⟨hask,hsl,m,k,hm,hk,hmk,hkl⟩:=hp;cases y with
   |sl sz l=>
    have hkl:k<=l.length:=hkl;obtain⟨ao,cap,hv,hcap,hcells⟩:=rx.eX.zG;have H7:(lo.map ρ=none/\m=0)\/∃kd,lo.map ρ=some (.int kd m):=(gK hF hlo hm).imp (λ⟨a,b⟩=>⟨a,by simp[kE]at b;omega⟩) id;have uM:(hi.map ρ=none/\k=l.length)\/∃kd,hi.map ρ=some (.int kd k):=(gK hF hhi hk).imp (λ⟨a,b⟩=>⟨a,by simp only[lenOf,Q0,QP]at hlen;rw[<-hlen.2]at b;simp[P.len]at b;omega⟩) id
    have e1:lo'.nat=m:=by rw[hm];simp[P.nat,P.num]
    have e2:hi'.nat=k:=by rw[hk];simp[P.nat,P.num]
    refine still h (hrun _ _ _ m k ie (htt _ _ he) hv H7 uM hmk (by omega)) (dn.ofP ?_) λg' hg'=>?_
    .show bU w _ (P.sub ie.size lo'.nat hi'.nat (.sl sz l)) _;rw[e1,e2];have hlen':((l.take k).drop m).length=k-m:=by simp;omega
     refine bU.fG ?_;show bU w _ (.sl ie.size ((l.take k).drop m)) _;rcases Nat.lt_or_ge m k with hlt|hge
     .have hne:l≠[]:=by intro e;subst e;simp at hkl;omega
      have hsz:sz=ie.size:=by rcases hsl with e|e;exact e;exact absurd e hne
      obtain⟨ad,rfl,hs,hok,hrow,f,hc,hr⟩:=hcells hne;have hcm:¬ cap=m:=by omega
      obtain⟨b0,o0,sp0⟩:=ad;simp only at hs;subst hs;rw[QR hcm,W2,Addr.gX,<-hlen'];refine .sl _ _ _ _ (λi j=>f (m+i) j) rfl (by rw[<-hsz];exact hok) (by omega) (λx hx=>by rw[<-hsz];exact hrow x (W6 (Up hx))) (λi x hx j y hy=>?_) λi x hx j y hy=>?_
      .rw [Wb,ZZ]at hx;split at hx
       .have e:o0+m*sz+i*sz+j=o0+(m+i)*sz+j:=by rw[Wl];omega
        show w.cell? ⟨b0,o0+m*ie.size+i*ie.size+j,none⟩=_;rw[<-hsz,e];exact hc (m+i) x hx j y hy
       .cases hx
      .rw [Wb,ZZ]at hx;split at hx
       .exact hr (m+i) x hx j y hy
       .cases hx
     .have e3:k-m=0:=by omega
      have e4:(l.take k).drop m=[]:=Vv (by omega);rw[e3,e4];exact .nil _ _ _
    .have hg':g'∈(S.v (.one (.p a i (P.sub ie.size lo'.nat hi'.nat (.sl sz l))))).names:=hg';rw[dG]at hg';simp[W.names]at hg'
   |_=>exact hsl.elim
  .cases hk;obtain⟨hm,hk⟩:=hp;have hv:=(by generalize hz:ρ x=z at rx;cases rx.dB;rfl:ρ x=.slice none 0 0);have H7:(lo.map ρ=none/\0=0)\/∃kd,lo.map ρ=some (.int kd (0:Nat)):=(gK hF hlo hm).imp (λ⟨a,b⟩=>⟨a,rfl⟩) id;have uM:(hi.map ρ=none/\0=0)\/∃kd,hi.map ρ=some (.int kd (0:Nat)):=(gK hF hhi hk).imp (λ⟨a,b⟩=>⟨a,rfl⟩) id;refine still h (hrun _ _ _ 0 0 ie (htt _ _ he) hv H7 uM (ZD _) (ZD _)) (dn.Gu ?_) λg' hg'=>?_;exact .b_;have hg':g'∈(S.v (.one .b_)).names:=hg';rw[dG]at hg';simp[W.names]at hg'
  .cases hk
 .rename_i _ _ _ a i y ht hx;have rx:=hF x;rw[hx]at rx;have hu:=(htt _ _ ht).kind;simp only[oG]at hu;split at hk
  rotate_left
  cases hk;rename_i lo' hi' hlo hhi;cases hk;obtain⟨hs,m,k,hm,hk,hmk,hkl⟩:=hp;cases y with
  |str s=>
   have hkl:k<=s.size:=hkl;have hv:=rx.eX.qJ;have H7:(lo.map ρ=none/\m=0)\/∃kd,lo.map ρ=some (.int kd m):=(gK hF hlo hm).imp (λ⟨a,b⟩=>⟨a,by simp[kE]at b;omega⟩) id;have uM:(hi.map ρ=none/\k=s.size)\/∃kd,hi.map ρ=some (.int kd k):=(gK hF hhi hk).imp (λ⟨a,b⟩=>⟨a,by simp[P.len]at b;omega⟩) id;have hb:=Dc (Pg:=Pg) (w:=w) (b:=false) (len:=s.size) H7 uM hmk hkl;have e1:lo'.nat=m:=by rw[hm];simp[P.nat,P.num]
   have e2:hi'.nat=k:=by rw[hk];simp[P.nat,P.num]
   refine fM (tt:=tt) h (v:=.string (s.extract m k)) ?_ λok=>?_
   .unfold execOp;rw[ho];refine fQ ?_;simp only[Kl];simp[Instr.sliceAt,dN hu,Instr.slice,hv,hb]
   .show bU w ok (P.str (s.extract lo'.nat hi'.nat)) _;rw[e1,e2];exact .str _
  |_=>exact hs.elim
 .cases hk
end
end Go.Fw

namespace Go.Fw
variable [dV]
section
variable {E:Env} {st st':St} {gh bG:Nat->Gh} {w w':World} {val:Nat->Value} {Pg:Program} {tt:TT}
theorem cells_one{v:Value}(h:v.oneCell'=true):v.cells=#[v]:=by cases v<;>first|rfl|simp[Value.oneCell']at h
theorem qH.cells{x:V}{v:Value}(h:qH E st gh w x v)(hs:x.solid=true):∃cs:List Value,v.cells=cs.toArray/\cs.length=x.words.length/\(∀c∈cs,c.oneCell'=true)/\
  ∀(j:Nat) y u,x.words[j]?=some y->cs[j]?=some u->eH E st gh w y u:=by
 cases h with
 |one x v h=>
  have ho:v.oneCell'=true:=h.oneCell (by intro b y e;subst e;cases hs) (by intro e;subst e;cases hs);refine⟨[v],by rw[cells_one ho],rfl,by simpa using ho,λj y u hy hu=>?_⟩;cases j with
  |zero=>simp[V.words]at hy hu;subst hy hu;exact h
  |succ j=>simp at hu
 |agg xs cs hl hv h=>exact⟨cs,rfl,hl.symm,hv,h⟩
theorem dn.NC{x:V}{v:Value}(h:dn E st gh w (.v x) v):qH E st gh w x v:=by cases h;assumption
theorem foldl_set(off:Nat):∀(vs:List Value) (j:Nat) (a:Array Value),off+j+vs.length<=a.size->
  ((vs.zipIdx j).foldl (λcs (p:Value×Nat)=>cs.setIfInBounds (off+p.2) p.1) a).toList=aJ a.toList (off+j) vs:=by
 intro vs
 induction vs with
 |nil=>intro j a h;simp[aJ]
 |cons v vs ih=>
  intro j a h;simp only[List.zipIdx_cons,Ka];rw[ih (j+1) _ (by simp at h ⊢;omega)];simp only[Array.toList_setIfInBounds,aJ];simp at h;apply qn;intro n;simp only[K9,ZZ,Wb,Z0,WF,UX,Kx,K7];have e1:min (off+(j+1)) a.toList.length=off+j+1:=by simp;omega
  have e2:min (off+j) a.toList.length=off+j:=by simp;omega
  rw[e1,e2];rcases Nat.lt_trichotomy n (off+j)with hn|hn|hn
  .simp [hn,show n<off+j+1 by omega,show n<off+j+1+vs.length by omega,show n<off+j+(vs.length+1) by omega,show n<off+(j+1) by omega,show ¬ off+j=n by omega]
  .subst hn;have:off+j<a.size:=by omega
   simp[this,show off+j<off+j+1+vs.length by omega,show off+j<off+(j+1) by omega]
  .by_cases h2:n<off+j+(vs.length+1)
   .rw [Qt (by omega),QR (by omega),Qt (by omega),QR (by omega)];have:n-(off+j)=(n-(off+j+1))+1:=by omega
    rw[this,VV]
   .rw [QR (by omega),QR (by omega)];have e:off+(j+1)+vs.length+(n-(off+j+1+vs.length))=off+j+(vs.length+1)+(n-(off+j+(vs.length+1))):=by omega
    rw[e,QR (by omega)]
theorem dS{α:Type}{l new:List α}{off:Nat}(h:off+new.length<=l.length):(aJ l off new).length=l.length:=by simp[aJ];omega
theorem eF{α:Type}{l new:List α}{off:Nat}(h:off+new.length<=l.length)(j:Nat):(aJ l off new)[j]?=if off<=j/\j<off+new.length then new[j-off]? else l[j]?:=by
 unfold aJ;simp only[K9,ZZ,Wb,Z0,WF];have e2:min off l.length=off:=by omega
 rw[e2];by_cases h1:j<off
 .rw [Qt (by omega),Qt h1,Qt h1,QR (by omega)]
 .by_cases h2:j<off+new.length
  .rw [Qt h2,QR h1,Qt ⟨by omega,h2⟩]
  .rw [QR h2,QR (by omega)];congr 1;omega
theorem AQ{place place':Nat->Option (Nat×Nat)}(hpl :∀n p,place n=some p->place' n=some p):∀(xs:List (Nat×S)) (vs:List (Nat×Value)) (ws ws':List W) (cs:List Value),xs.length=vs.length->
  (∀(j:Nat) x v,xs[j]?=some x->vs[j]?=some v->x.1=v.1/\dn E st gh w x.2 v.2)->ws.length=cs.length->(∀c∈cs,c.oneCell'=true)->
  (∀(j:Nat) x u,ws[j]?=some x->cs[j]?=some u->eH E st gh w x u)->lG place ws xs=some ws'->
  ∃cs':List Value,Instr.fill place' cs.toArray vs=some cs'.toArray/\ws'.length=cs'.length/\(∀c∈cs',c.oneCell'=true)/\(∀(j:Nat) x u,ws'[j]?=some x->cs'[j]?=some u->eH E st gh w x u)/\ws'.length=ws.length
 | [],vs,ws,ws',cs,hl,hx,hlen,hone,hr,hf=>by
  simp only[lG,Q0]at hf;subst hf;cases vs with
  |nil=>exact⟨cs,rfl,hlen,hone,hr,rfl⟩
  |cons v vs=>simp at hl
 |(n,.v x)::xs,vs,ws,ws',cs,hl,hx,hlen,hone,hr,hf=>by
  cases vs with
  |nil=>simp at hl
  |cons v vs=>
   obtain⟨n',v⟩:=v;simp only[lG]at hf;split at hf
   rotate_left
   cases hf;rename_i off size hp;split at hf
   rotate_left
   cases hf;rename_i hc;obtain⟨hn,hrx⟩:=hx 0 _ _ rfl rfl;simp only at hn hrx;subst hn;obtain⟨us,hus,Ue,huo,hur⟩:=hrx.NC.cells hc.2.2;have hsz:us.length=size:=by rw[Ue,hc.1]
   have hb:off+us.length<=cs.length:=by omega
   have hstep:Instr.fill place' cs.toArray ((n,v)::vs)=Instr.fill place' (aJ cs off us).toArray vs:=by
    have hfold:=foldl_set off us 0 cs.toArray (by simp;omega);simp only[Instr.fill,hpl _ _ hp,hus];have h1:(decide (us.toArray.size≠size)||decide (off+us.toArray.size>cs.toArray.size))=false:=by simp;omega
    rw[h1];simp only[Wa,if_false];congr 1;apply Array.ext';have:us.toArray.zipIdx.foldl (λcs (p:Value×Nat)=>cs.setIfInBounds (off+p.2) p.1) cs.toArray=(us.zipIdx 0).foldl (λcs (p:Value×Nat)=>cs.setIfInBounds (off+p.2) p.1) cs.toArray:=by rw[<-Array.foldl_toList];simp
    rw[this,hfold];simp
   have hwl:off+x.words.length<=ws.length:=by omega
   obtain⟨cs',h1,h2,h3,h4,h5⟩:=AQ hpl xs vs (aJ ws off x.words) ws' (aJ cs off us) (by simpa using hl) (λj a b ha hb=>hx (j+1) a b (by simpa using ha) (by simpa using hb))
    (by rw[dS hwl,dS hb,hlen]) (λc hcm=>by
     obtain⟨j,hj⟩:=VS.1 hcm;rw[eF hb]at hj;split at hj
     .exact huo c (Ys hj)
     .exact hone c (Ys hj)) (λj a b ha hb'=>by
     rw[eF hwl]at ha;rw[eF hb,Ue]at hb';split at ha
     .rename_i hin;rw[Qt hin]at hb';exact hur _ _ _ ha hb'
     .rename_i hin;rw[QR hin]at hb';exact hr _ _ _ ha hb') hf
   exact⟨cs',by rw[hstep];exact h1,h2,h3,h4,by rw[h5,dS hwl]⟩
 |(n,.lq x)::xs,vs,ws,ws',cs,hl,hx,hlen,hone,hr,hf=>by simp[lG]at hf
 |(n,.no)::xs,vs,ws,ws',cs,hl,hx,hlen,hone,hr,hf=>by simp[lG]at hf
theorem Uf{v:Value}(h:v.oneCell'=true):eH E st gh w (cv v) v:=by
 unfold cv;split
 .exact .p _ _ _ _ (.int _ _)
 .exact .p _ _ _ _ (.bool _)
 .exact .p _ _ _ _ (.str _)
 .exact .b_
 .exact .p _ _ _ _ (.opq _ h)
theorem oI(v:Value):(cv v).names=[]:=by unfold cv;split<;>simp[W.names]
theorem sK{t:TypeId}{i:TI}(h:oW Pg t i):(∀c∈i.zero,c.oneCell'=true)/\(i.zero.map cv).length=i.zero.length/\∀(j:Nat) x u,(i.zero.map cv)[j]?=some x->i.zero[j]?=some u->eH E st gh w x u:=by have h1:=h.one;rw[Z1]at h1;refine⟨h1,by simp,λj x u hx hu=>?_⟩;simp only[Z3,hu,W2,Q0]at hx;subst hx;exact Uf (h1 u (Ys hu))
theorem yV(w:World)(o:Obj):(w.heap.push o)[w.heap.size]?=some o:=by simp
theorem P5(h:Rel E st gh val w)(d:Nat)(hd:st.used d=false)(ws:List W)(cs:List Value)(t:TypeId)(hl:ws.length=cs.length)(hone :∀c∈cs,c.oneCell'=true)
  (hr :∀(j:Nat) x u,ws[j]?=some x->cs[j]?=some u->eH E st gh w x u) (hn :∀x∈ws,∀g∈x.names,st.used g=true) :
  ∃bG,Rel E (st.aB [(d,.box ws)] [d]) bG val { w with heap:=w.heap.push (.cells cs.toArray t) }/\Lets E st (st.aB [(d,.box ws)] [d]) gh bG w { w with heap:=w.heap.push (.cells cs.toArray t) }/\
   (bG d).ad=some ⟨w.heap.size,0,none⟩ /\(st.aB [(d,.box ws)] [d]).o d=.box ws:=by
 have hm:=Rel.make h d hd (.box ws) cs.toArray t ⟨some ⟨w.heap.size,0,none⟩,0,λ_=>none⟩ rfl (λ_=>rfl) (λbG w' hlets hg hw=>by
  subst hw;refine⟨⟨w.heap.size,0,none⟩,cs.toArray,t,rfl,rfl,yV _ _,by simp;omega,λj x hx=>?_⟩;have hlt:j<cs.length:=by have:=(Q4.1 hx).1;omega
  have hc:cs[j]?=some cs[j]:=Q3 hlt;refine⟨cs[j],by simp,hone _ (Z2 hlt),hlets.zC (λg hg=>hn x (Ys hx) g hg) (hr j x _ hx hc)⟩) (λg hg=>by
  simp only[O.names,YY]at hg;obtain⟨x,hx,hg⟩:=hg;exact hn x hx g hg)
 exact⟨_,hm.1,hm.2,by simp[eG],by simp[St.aB,List.lookup]⟩
theorem P6(htt:iC Pg tt)(t:TypeId):fB Pg tt (.alloc t):=by
 intro E st gh val w ρ F o d r ho h hF hFn hk hp hd;simp only[kernel]at hk;split at hk
 rotate_left
 cases hk;rename_i i ht;cases hk;obtain⟨z,hz,hzc,_⟩:=mQ (Pg:=Pg) (w:=w) (htt _ _ ht);obtain⟨hone,hl,hr⟩:=sK (E:=E) (st:=st) (gh:=gh) (w:=w) (htt _ _ ht);obtain⟨bG,h1,h2,h3,h4⟩:=P5 h d (hd d (by simp)) (i.zero.map cv) i.zero t hl hone hr (λx hx g hg=>by simp only[XN]at hx;obtain⟨v,_,rfl⟩:=hx;rw[oI]at hg;cases hg)
 have aei:z.cells=i.zero.toArray:=by rw[<-hzc]
 refine⟨.pointer (some ⟨w.heap.size,0,none⟩),_,bG,.inl ?_,h1,h2,dn.Gu (.box d 0 _ rfl λws hws=>⟨_,h3,rfl⟩),λg hg=>?_⟩
 .unfold execOp;rw[ho];refine fQ ?_;simp[Instr.alloc,hz,newVar,newRow,aei]
 .have hg:g∈(S.v (.one (.box d 0))).names:=hg;rw[dG]at hg;simp only[W.names,Q6]at hg;subst hg;simp[St.aB]
theorem P7(htt:iC Pg tt)(t:TypeId)(x:Operand):fB Pg tt (.range t x):=by
 intro E st gh val w ρ F o d r ho h hF hFn hk hp hd;simp only[kernel]at hk;split at hk
 rotate_left
 cases hk;rename_i a i x' ht hx;cases hk;have rx:=hF x;rw[hx]at rx;have hu:=(htt _ _ ht).kind;simp only[oG]at hu;cases x' with
 |str bs=>
  have hv:=rx.eX.qJ;obtain⟨h1,h2⟩:=h.agR d (hd d (by simp)) (.it (.str bs) (kE 0)) (.stringIter bs 0) ⟨some ⟨w.heap.size,0,none⟩,0,λ_=>none⟩ rfl (λ_=>rfl)
   (λbG w' _ _ hw=>⟨_,bs,0,rfl,rfl,rfl,by rw[hw];simp⟩) (λg hg=>by simp[O.names]at hg)
  refine⟨.pointer (some ⟨w.heap.size,0,none⟩),_,_,.inl ?_,h1,h2,dn.Gu (.mO d _ rfl λs n _=>⟨⟨w.heap.size,0,none⟩,by simp[eG],rfl⟩),λg hg=>?_⟩
  .unfold execOp;rw[ho];refine fQ ?_;rw[hv];simp[Instr.range,dN hu]
  .have hg:g∈(S.v (.one (.mO d))).names:=hg;rw[dG]at hg;simp only[W.names,Q6]at hg;subst hg;simp[St.aB]
 |_=>exact hp.elim
theorem Yr(htt:iC Pg tt)(t:TypeId)(x:Operand):fB Pg tt (.box t x):=by
 intro E st gh val w ρ F o d r ho h hF hFn hk hp hd;simp only[kernel]at hk;split at hk
 rotate_left
 cases hk;rename_i i x' ht hx;split at hk
 rotate_left
 cases hk;rename_i hc;cases hk;have rx:=hF x;rw[hx]at rx;obtain⟨cs,hv,hl,hone,hr⟩:=rx.NC.cells hc.2;obtain⟨bG,h1,h2,h3,h4⟩:=P5 h d (hd d (by simp)) x'.words cs t hl.symm hone hr (λy hy g hg=>by
  have:=hFn x g;rw[hx]at this;refine this ?_;cases x' with
  |one z=>simp[V.words]at hy;subst hy;simpa[S.names,V.names]using hg
  |agg xs=>simp only[S.names,V.names,YY];exact⟨y,hy,hg⟩)
 refine⟨.pointer (some ⟨w.heap.size,0,none⟩),_,bG,.inl ?_,h1,h2,dn.Gu (.box d 0 _ rfl λws hws=>⟨_,h3,rfl⟩),λg hg=>?_⟩
 .unfold execOp;rw[ho];refine fQ ?_;simp[Instr.box,newVar,newRow,hv]
 .have hg:g∈(S.v (.one (.box d 0))).names:=hg;rw[dG]at hg;simp only[W.names,Q6]at hg;subst hg;simp[St.aB]
theorem yX{α β:Type}(f:α->Sem β)(g:α->β):∀(l:List α),(∀x∈l,(f x).run Pg w=.ok (g x) w)->(l.mapM f).run Pg w=.ok (l.map g) w
 | [],_=>by simp
 |x::l,h=>by simp only[vQ,Sem.run_bind,h x (by simp),Result.andThen_ok,yX f g l (λy hy=>h y (by simp[hy])),Sem.run_pure,X2]
theorem Ez{place:Nat->Option (Nat×Nat)}:∀(xs:List (Nat×S)) (ws ws':List W),lG place ws xs=some ws'->∀y∈ws',∀g∈y.names,(∃z∈ws,g∈z.names)\/∃x∈xs,g∈x.2.names
 | [],ws,ws',h,y,hy,g,hg=>by simp[lG]at h;subst h;exact .inl ⟨y,hy,hg⟩
 |(n,.v x)::xs,ws,ws',h,y,hy,g,hg=>by
  simp only[lG]at h;split at h
  rotate_left
  cases h;split at h
  rotate_left
  cases h;rcases Ez xs _ _ h y hy g hg with⟨z,hz,hg⟩|⟨x',hx',hg⟩
  rotate_left
  exact .inr ⟨x',WK _ hx',hg⟩;unfold aJ at hz;simp only[QQ]at hz;rcases hz with(hz|hz)|hz
  .exact .inl ⟨z,W6 hz,hg⟩
  .refine .inr ⟨_,List.mem_cons_self,?_⟩;cases x with
   |one z'=>simp[V.words]at hz;subst hz;simpa[S.names,V.names]using hg
   |agg zs=>simp only[S.names,V.names,YY];exact⟨z,hz,hg⟩
  .exact .inl ⟨z,Up hz,hg⟩
 |(n,.lq x)::xs,ws,ws',h,y,hy,g,hg=>by simp[lG]at h
 |(n,.no)::xs,ws,ws',h,y,hy,g,hg=>by simp[lG]at h
theorem Df{ρ:Operand->Value}{F:Operand->S}(hF :∀x,dn E st gh w (F x) (ρ x))(parts:List (Nat×Operand))(j:Nat)(x:Nat×S)(v:Nat×Value)(hx:(parts.map λp=>(p.1,F p.2))[j]?=some x)
  (hv:(parts.map λp=>(p.1,ρ p.2))[j]?=some v):x.1=v.1/\dn E st gh w x.2 v.2:=by
 simp only[Z3,W7]at hx hv;obtain⟨p,hp,rfl⟩:=hx;obtain⟨q,hq,rfl⟩:=hv;rw[hp]at hq;cases hq;exact⟨rfl,hF _⟩
theorem P8(htt:iC Pg tt)(t:TypeId)(parts:Array (Nat×Operand)):fB Pg tt (.build t parts):=by
 intro E st gh val w ρ F o d r ho h hF hFn hk hp hd;simp only[kernel]at hk;split at hk
 rotate_left
 cases hk;rename_i i ht;split at hk
 rotate_left
 cases hk;rename_i hkn;split at hk
 rotate_left
 cases hk;rename_i ws EC;cases hk;obtain⟨z,hz,hzc,_⟩:=mQ (Pg:=Pg) (w:=w) (htt _ _ ht);obtain⟨hone,hl,hr⟩:=sK (E:=E) (st:=st) (gh:=gh) (w:=w) (htt _ _ ht);have aei:z.cells=i.zero.toArray:=by rw[<-hzc]
 have hparts:(parts.map λ(p:Nat×Operand)=>(p.1,ρ p.2)).toList=parts.toList.map λp=>(p.1,ρ p.2):=by simp
 have hkind:=(htt _ _ ht).kind;have fin :∀(place':Nat->Option (Nat×Nat)),(∀n p,placeOf tt t n=some p->place' n=some p)->
   ∃cs':List Value,Instr.fill place' z.cells (parts.map λ(p:Nat×Operand)=>(p.1,ρ p.2)).toList=some cs'.toArray/\dn E st gh w (.v (.agg ws)) (.agg cs'.toArray):=by
  intro place' hpl;obtain⟨cs',h1,h2,h3,h4,h5⟩:=AQ (E:=E) (st:=st) (gh:=gh) (w:=w) hpl _ (parts.toList.map λp=>(p.1,ρ p.2)) _ _ i.zero (by simp) (λj x v hx hv=>Df hF _ j x v hx hv) hl hone hr EC;exact⟨cs',by rw[hparts,aei];exact h1,.v _ _ (.agg _ _ h2 h3 h4)⟩
 have aao :∀g∈(S.v (.agg ws)).names,st.used g=true:=by
  intro g hg;simp only[S.names,V.names,YY]at hg;obtain⟨y,hy,hg⟩:=hg;rcases Ez _ _ _ EC y hy g hg with⟨u,hu,hg⟩|⟨x,hx,hg⟩
  .simp only[XN]at hu;obtain⟨v,_,rfl⟩:=hu;rw[oI]at hg;cases hg
  .simp only[XN]at hx;obtain⟨p,_,rfl⟩:=hx;exact hFn _ g hg
 obtain⟨k,size,bytes,zero⟩:=i;simp only at aei hz hone hl hr;cases k with
 |struct fs=>
  obtain⟨gs,hu,hfs⟩:=hkind;have hkn:(fs.all λf=>(tt f.2).isSome)=true:=hkn;rw[Z1]at hkn;have hsz :∀f∈gs.toList,∃iu,tt f.type=some iu:=by intro f hf;have:=hkn (f.offset,f.type) (by rw[<-hfs];exact XN.2 ⟨f,hf,rfl⟩);exact vA.1 this
  have hmap:(gs.mapM λf=>do pure (f.offset,<-sizeOf f.type):Sem (Array (Nat×Nat))).run Pg w=.ok (gs.map λf=>(f.offset,((tt f.type).map (·.size)).getD 0)) w:=by
   have:(gs.toList.mapM λf=>do pure (f.offset,<-sizeOf f.type):Sem (List (Nat×Nat))).run Pg w=.ok (gs.toList.map λf=>(f.offset,((tt f.type).map (·.size)).getD 0)) w:=by refine yX _ _ _ λf hf=>?_;obtain⟨iu,hiu⟩:=hsz f hf;simp[dL (htt _ _ hiu),hiu]
   rw[<-Array.toArray_toList (xs:=gs),List.mapM_toArray,Sem.run_map,this];simp only[Result.andThen_ok];congr 1;apply Array.ext';simp
  obtain⟨cs',h1,h2⟩:=fin (λn=>(gs.map λf=>(f.offset,((tt f.type).map (·.size)).getD 0))[n]?) (λn p hpn=>by obtain⟨off,sz⟩:=p;obtain⟨u,iu,e1,e2,e3⟩:=wW ht hpn;rw[<-hfs]at e1;simp only[Z3,W7,QP]at e1;obtain⟨f,g1,g2,g3⟩:=e1;simp only[Array.getElem?_map,W7];exact⟨f,by simpa using g1,by rw[g2,g3,e2];simp[e3]⟩)
  refine still h (v:=.agg cs'.toArray) (by unfold execOp;rw[ho];refine fQ ?_;simp only[Instr.build,Sem.run_bind,hz,Result.andThen_ok,dN hu,hmap];simp only[h1];rfl) h2 aao
 |arr n e=>
  simp only[oG]at hkind;have hkn:(tt e).isSome=true:=hkn;obtain⟨ie,hie⟩:=vA.1 hkn;obtain⟨cs',h1,h2⟩:=fin (λn=>some (n*ie.size,ie.size)) (λm p hpm=>by unfold placeOf at hpm;rw[ht]at hpm;simp only[hie,W2]at hpm;split at hpm;exact hpm;cases hpm)
  refine still h (v:=.agg cs'.toArray) (by unfold execOp;rw[ho];refine fQ ?_;simp only[Instr.build,Sem.run_bind,hz,Result.andThen_ok,dN hkind,dL (htt _ _ hie)];simp only[h1];rfl) h2 aao
 |_=>cases hkn
theorem bU.agS{ok:Nat->Prop}{sz:Nat}{l:List (List P)}{ao:Option Addr}{len cap:Nat}(h:bU w ok (.sl sz l) (.slice ao len cap)){c:Nat}(hc:l.length<=c):bU w ok (.sl sz l) (.slice ao len c):=by
 cases h with
 |nil=>exact .nil _ _ _
 |sl _ _ ad _ f hs hok hcap hlen hc' hr=>exact .sl _ _ _ _ f hs hok hc hlen hc' hr
theorem bU.sub{ok:Nat->Prop}{sz:Nat}{l:List (List P)}{ao:Option Addr}{len cap:Nat}(h:bU w ok (.sl sz l) (.slice ao len cap)){m k:Nat}(hmk:m<=k)(hkl:k<=l.length):
  bU w ok (.sl sz ((l.take k).drop m)) (.slice (if cap=m then ao else ao.map (·.add (m*sz))) (k-m) (cap-m)):=by
 obtain⟨ao',cap',he,hcap,hcells⟩:=h.zG;cases he;have hlen':((l.take k).drop m).length=k-m:=by simp;omega
 rcases Nat.lt_or_ge m k with hlt|hge
 .have hne:l≠[]:=by intro e;subst e;simp at hkl;omega
  obtain⟨ad,rfl,hs,hok,hrow,f,hc,hr⟩:=hcells hne;have hcm:¬ cap=m:=by omega
  obtain⟨b0,o0,sp0⟩:=ad;simp only at hs;subst hs;rw[QR hcm,W2,Addr.gX,<-hlen'];refine .sl _ _ _ _ (λi j=>f (m+i) j) rfl hok (by omega) (λx hx=>hrow x (W6 (Up hx))) (λi x hx j y hy=>?_) λi x hx j y hy=>?_
  .rw [Wb,ZZ]at hx;split at hx
   .have e:o0+m*sz+i*sz+j=o0+(m+i)*sz+j:=by rw[Wl];omega
    show w.cell? ⟨b0,o0+m*sz+i*sz+j,none⟩=_;rw[e];exact hc (m+i) x hx j y hy
   .cases hx
  .rw [Wb,ZZ]at hx;split at hx
   .exact hr (m+i) x hx j y hy
   .cases hx
 .have e3:k-m=0:=by omega
  have e4:(l.take k).drop m=[]:=Vv (by omega);rw[e3,e4];exact .nil _ _ _
theorem Gv:st.aB [] []=st:=by simp[St.aB]
theorem lI(o:Nat->O)(gs:List Nat)(g:Nat):(gs.map (aN o)).lookup g=if g∈gs then some (aN o g).2 else none:=by
 induction gs with
 |nil=>simp
 |cons x gs ih=>
  simp only[X2];by_cases e:g=x
  .subst e;have:(aN o g)=(g,(aN o g).2):=rfl;rw[this,List.lookup];simp
  .have hne:(g==x)=false:=by simpa using e
   have:(aN o x)=(x,(aN o x).2):=rfl;rw[this,List.lookup,hne];simp only[ih,Xs,e,false_or]
theorem _root_.Go.Fw.O.like.trans{x y z:O}(h1:x.like y)(h2:y.like z):x.like z:=by cases x<;>cases y<;>cases z<;>first|exact h1.elim|exact h2.elim|trivial|exact⟨h1.1.trans h2.1,h1.2.trans h2.2⟩
theorem ND{α:Type}{l:List α}{c:Nat}{y:α}(h:c<l.length)(j:Nat):(aJ l c [y])[j]?=if j=c then some y else l[j]?:=by
 rw[eF (by simp;omega)];by_cases e:j=c
 .subst e;rw[Qt ⟨ZD _,by simp⟩,Qt rfl];simp
 .rw [QR e,QR];simp;omega
theorem iK{l:List (List P)}{n c:Nat}{y:P}:(iR l n c y).length=l.length:=by simp[iR]
theorem wX{l:List (List P)}{n c:Nat}{y:P}{n':Nat}{x':List P}(h:(iR l n c y)[n']?=some x'):(n'≠n/\l[n']?=some x')\/(n'=n/\∃x,l[n]?=some x/\x'=aJ x c [y]):=by
 unfold iR at h;rw[Kx]at h;split at h
 .rename_i e;split at h
  .rename_i hlt;refine .inr ⟨e.symm,l[n],Q3 hlt,?_⟩;rw[Q2,Q3 hlt]at h;simpa using h.symm
  .cases h
 .rename_i e;exact .inl ⟨λx=>e x.symm,h⟩
theorem AU{l:List (List P)}{n c sz:Nat}{y:P}(hl :∀x∈l,x.length=sz)(hc:c<sz):∀x∈iR l n c y,x.length=sz:=by intro x hx;obtain⟨j,hj⟩:=VS.1 hx;rcases wX hj with⟨_,h⟩|⟨_,x0,h,rfl⟩;exact hl x (Ys h);have:=hl x0 (Ys h);rw[dS (by simp;omega),this]
theorem uN{o:Nat->O}{g:Nat}{a i:Bool}{sz:Nat}{l:List (List P)}(h:plainO o g=some (a,i,sz,l)):
  (∃fz,o g=.arr fz a i sz l)\/(∃ah,o g=.aF a i sz ah l none)\/
  ∃a0 i0 ah l0 n c d fz' a' i' sz' l',o g=.aF a0 i0 sz ah l0 (some (n,c,d))/\o d=.arr fz' a' i' sz' l'/\ah.lookup c=some sz'/\c<sz/\a=(a0||a')/\i=(i0||i')/\l=iR l0 n c (P.fG sz' l'):=by
 unfold plainO at h;cases ho:o g with
 |arr fz a' i' sz' l'=>rw[ho]at h;cases h;exact .inl ⟨fz,rfl⟩
 |aF a' i' sz' ah l' hole=>
  rw[ho]at h;rcases hole with _|⟨n,c,d⟩
  .cases h;exact .inr (.inl ⟨ah,rfl⟩)
  .simp only at h;cases hd:o d with
   |arr fz2 a2 i2 sz2 l2=>
    rw[hd]at h;simp only at h;split at h
    .rename_i hc;cases h;exact .inr (.inr ⟨a',i',ah,l',n,c,d,fz2,a2,i2,sz2,l2,rfl,hd,hc.1,hc.2,rfl,rfl,rfl⟩)
    .cases h
   |_=>rw[hd]at h;cases h
 |_=>rw[ho]at h;cases h
theorem Ug{o:Nat->O}{g:Nat}{fz a i:Bool}{sz:Nat}{l:List (List P)}(h:o g=.arr fz a i sz l):plainO o g=some (a,i,sz,l):=by simp[plainO,h]
theorem ED{o:Nat->O}{g:Nat}{a i:Bool}{sz:Nat}{l:List (List P)}(h:plainO o g=some (a,i,sz,l)):(o g).like (.arr true a i sz l):=by
 rcases uN h with⟨fz,h⟩|⟨ah,h⟩|⟨a0,i0,ah,l0,n,c,d,fz',a',i',sz',l',h',_,_,_,_,_,rfl⟩
 .rw [h];exact⟨rfl,rfl⟩
 .rw [h];exact⟨rfl,rfl⟩
 .rw [h'];exact⟨rfl,iK.symm⟩
theorem H8{o:Nat->O}{g:Nat}{a i:Bool}{sz:Nat}{l:List (List P)}(h:plainO o g=some (a,i,sz,l)):(o g).dim=some (sz,l.length):=O.Au (ED h) rfl
theorem uO{o:Nat->O}{g:Nat}{a i:Bool}{sz:Nat}{l:List (List P)}(h:plainO o g=some (a,i,sz,l)):wU o ((o g).names++[g]):=by
 have hg:(plainO o g).isSome=true:=by rw[h];rfl
 rcases uN h with⟨fz,h⟩|⟨ah,h⟩|⟨a0,i0,ah,l0,n,c,d,fz',a',i',sz',l',h,hd,_⟩
 .intro x hx;rw[h]at hx;simp[O.names]at hx;subst hx;exact⟨hg,by rw[h];simp[O.names]⟩
 .intro x hx;rw[h]at hx;simp[O.names,bZ]at hx;subst hx;exact⟨hg,by rw[h];simp[O.names,bZ]⟩
 .intro x hx;rw[h]at hx ⊢;simp only[O.names,bZ,Ke,qa,Xs,K0,or_false]at hx ⊢;rcases hx with rfl|rfl
  .exact ⟨by rw[Ug hd];rfl,by rw[hd];simp[O.names]⟩
  .exact ⟨hg,by rw[h];simp[O.names,bZ]⟩
theorem wU.used{gs:List Nat}(h:Rel E st gh val w)(hg:wU st.o gs){g:Nat}(hm:g∈gs):st.used g=true:=by refine h.ul g λe=>?_;have:=(hg g hm).1;simp[plainO,e]at this
theorem lY{o:Nat->O}{g:Nat}{a i:Bool}{sz:Nat}{l:List (List P)}(h:plainO o g=some (a,i,sz,l)):(Fw.aN o g).2=.arr true a i sz l:=by simp[Fw.aN,h]
theorem fJ(gs:List Nat)(g:Nat):(st.aB (gs.map (Fw.aN st.o)) []).o g=if g∈gs then(Fw.aN st.o g).2 else st.o g:=by
 show (match (gs.map (Fw.aN st.o)).lookup g with|some x=>x|none=>st.o g)=_;rw[lI];split<;>rename_i h
 .split at h
  .rename_i hm;rw[Qt hm];exact(WN h).symm
  .cases h
 .split at h;cases h;rename_i hm;rw[QR hm]
theorem Rel.freezes(gs:List Nat)(h:Rel E st gh val w)(hg:wU st.o gs):
  Rel E (st.aB (gs.map (Fw.aN st.o)) []) gh val w/\Lets E st (st.aB (gs.map (Fw.aN st.o)) []) gh gh w w:=by
 have hso:=fJ (st:=st) gs;have hss:(st.aB (gs.map (Fw.aN st.o)) []).s=st.s:=rfl;have hsu :∀g,st.used g=true->(st.aB (gs.map (Fw.aN st.o)) []).used g=true:=λg hg=>by simp[St.aB,hg]
 generalize st.aB (gs.map (Fw.aN st.o)) []=st' at hso hss hsu ⊢;have hin :∀g∈gs,∃a i sz l,plainO st.o g=some (a,i,sz,l)/\st'.o g=.arr true a i sz l:=by intro g hm;obtain⟨⟨a,i,sz,l⟩,hp⟩:=vA.1 (hg g hm).1;exact⟨a,i,sz,l,hp,by rw[hso,Qt hm,lY hp]⟩
 have hown :∀g',(st'.o g').bJ=true->(st.o g').bJ=true/\g'∉gs:=by
  intro g' hg';by_cases hm:g'∈gs
  .obtain ⟨a,i,sz,l,_,e⟩:=hin g' hm;rw[e]at hg';cases hg'
  .rw [hso,QR hm]at hg';exact⟨hg',hm⟩
 have hl:Lets E st st' gh gh w w:=by
  refine⟨λa' i' b hb=>⟨⟨hb.1,hb.2.1,λg' hg'=>hb.2.2 g' (hown g' hg').1⟩,rfl⟩,λg' _=>.inr ⟨⟨rfl,rfl⟩,?_⟩⟩;by_cases hm:g'∈gs
  .obtain ⟨a,i,sz,l,hp,e⟩:=hin g' hm;rw[e];exact ED hp
  .rw [hso,QR hm];exact O.eU _
 have VY :∀g b a i,g∈gs->(st.o g).inner=some i->(gh g).has b->E.ok st' gh w a i b:=λg b a i hm hi hb=>h.aef hi hb λg' hg'=>⟨(hown g' hg').1,λe=>(hown g' hg').2 (e▸hm)⟩
 have hplain :∀g fz a i sz l,g∈gs->st.o g=.arr fz a i sz l->bU w (E.ok st' gh w a i) (.sl sz l) (.slice (gh g).ad l.length (gh g).cap):=by
  intro g fz a i sz l hm ho;have hO:=h.aW g;rw[ho]at hO;cases fz with
  |true=>exact hl.kD hO
  |false=>exact iw.plain hO hl λad had=>VY g _ a i hm (by rw[ho];rfl) (Gh.jC had)
 have hsub :∀g a i sz ah l hole n j sz' y v,g∈gs->st.o g=.aF a i sz ah l hole->yT E st gh w a i (gh g) sz' n j y v->bU w (E.ok st' gh w a i) y v:=by intro g a i sz ah l hole n j sz' y v hm ho hr;obtain⟨l',ao,k,rfl,rfl,hA,hs⟩:=hr;exact bU.fG (iw.plain hA hl λad had=>VY g _ a i hm (by rw[ho];rfl) (.inr (by rw[hs ad had];rfl)))
 refine⟨h.step hl hss hsu (λg'=>?_) (λg1 g2 b h1 h2=>h.inj g1 g2 b (hown g1 h1).1 (hown g2 h2).1) (λg1 b h1=>h.wr g1 b (hown g1 h1).1)
  (λg1 i1 b h1 h2 h3=>by have e:=(hown g1 (O.kF h1)).2;rw[hso,QR e]at h1;exact h.wi g1 i1 b h1 h2 h3)
  (λg1 h1 h2=>by have e:=(hown g1 h1).2;rw[hso,QR e]at h1 h2;exact h.ns g1 h1 h2)
  (λ_ _ _=>rfl) (ZD _) rfl rfl rfl (λg' x hx=>?_) (λg' hg'=>?_),hl⟩
 .by_cases hm:g'∈gs
  .obtain ⟨a,i,sz,l,hp,e⟩:=hin g' hm;rw[e];show bU w (E.ok st' gh w a i) (.sl sz l) (.slice (gh g').ad l.length (gh g').cap);rcases uN hp with⟨fz,ho⟩|⟨ah,ho⟩|⟨a0,i0,ah,l0,n,c,d,fz',a',i',sz',l',ho,hd,hc,hcs,rfl,rfl,rfl⟩
   .exact hplain g' fz a i sz l hm ho
   .have hO:=h.aW g';rw[ho]at hO;rcases hO with⟨h1,h2,h3,_⟩|⟨ad,cs,e,h1,h2,h3,h4,h5,h6,h7,h8⟩
    .subst h3;rw[h1];exact .nil sz none _
    .rw [h1];have hcell :∀n j,w.cell? ⟨ad.block,ad.off+n*sz+j,none⟩=cs[ad.off+n*sz+j]?:=λn j=>by simp[World.cell?,h3]
     refine .sl sz l ad (gh g').cap (λn j=>(cs[ad.off+n*sz+j]?).getD undef) h2 (λ_=>VY g' _ a i hm (by rw[ho];rfl) (Gh.jC h1)) h5.1 h6 (λn x hx j y hy=>?_) (λn x hx j y hy=>?_)
     .obtain ⟨v,hv,_⟩:=h8 n x hx j y hy;rw[hcell,hv];rfl
     .obtain ⟨v,hv,hr⟩:=h8 n x hx j y hy;simp only[hv,Option.getD_some];unfold iy at hr;cases hc:ah.lookup j with
      |none=>rw[hc]at hr;exact hl.kD hr
      |some sz'=>rw[hc]at hr;simp only[gB]at hr;exact hsub g' a i sz ah l none n j sz' y v hm ho hr
   .have hdm:d∈gs:=(hg g' hm).2 d (by rw[ho];simp[O.names,bZ]);have hO:=h.aW g';rw[ho]at hO;rw[iK];rcases hO with⟨h1,h2,h3,_⟩|⟨ad,cs,e,h1,h2,h3,h4,h5,h6,h7,h8⟩
    .subst h3;rw[h1];exact .nil sz none _
    .rw [h1];have hcell :∀n j,w.cell? ⟨ad.block,ad.off+n*sz+j,none⟩=cs[ad.off+n*sz+j]?:=λn j=>by simp[World.cell?,h3]
     have m0 :∀b,E.ok st' gh w a0 i0 b->E.ok st' gh w (a0||a') (i0||i') b:=λb hb=>Env.oH (by simp;exact λh=>.inl h) (by simp;exact λh=>.inl h) hb;have m1 :∀b,E.ok st' gh w a' i' b->E.ok st' gh w (a0||a') (i0||i') b:=λb hb=>Env.oH (by simp;exact λh=>.inr h) (by simp;exact λh=>.inr h) hb;have key :∀(n':Nat) x,(iR l0 n c (P.fG sz' l'))[n']?=some x->∀(j:Nat) y,x[j]?=some y->∃v,cs[ad.off+n'*sz+j]?=some v/\bU w (E.ok st' gh w (a0||a') (i0||i')) y v:=by
      intro n' x hx j y hy;have hold :∀x0 y0,l0[n']?=some x0->x0[j]?=some y0->¬ (n=n'/\c=j)->∃v,cs[ad.off+n'*sz+j]?=some v/\bU w (E.ok st' gh w (a0||a') (i0||i')) y0 v:=by
       intro x0 y0 hx0 hy0 hne;obtain⟨v,hv,hr⟩:=h8 n' x0 hx0 j y0 hy0;refine⟨v,hv,?_⟩;unfold iy at hr;cases hcj:ah.lookup j with
       |none=>rw[hcj]at hr;exact(hl.kD hr).mono λb hb=>⟨m0 b hb,rfl⟩
       |some sz2=>rw[hcj]at hr;simp only[gB]at hr;rw[QR hne]at hr;exact(hsub g' a0 i0 sz ah l0 _ n' j sz2 y0 v hm ho hr).mono λb hb=>⟨m0 b hb,rfl⟩
      rcases wX hx with⟨hne,hx0⟩|⟨rfl,x0,hx0,rfl⟩
      .exact hold x y hx0 hy λe=>hne e.1.symm
      .have hlen:=h6 x0 (Ys hx0);rw[ND (by omega)]at hy;split at hy
       .rename_i hj;subst hj;cases hy;have hlt:j<x0.length:=by omega
        obtain⟨v,hv,hr⟩:=h8 n' x0 hx0 j x0[j] (Q3 hlt);refine⟨v,hv,?_⟩;unfold iy at hr;rw[hc]at hr;simp only[gB]at hr;rw[Qt ⟨trivial,trivial⟩]at hr;have hv':=(by cases hr.2 with|own _ _ _ hb=>exact hb _ _ (O.jM hd):v=.slice (gh d).ad l'.length (gh d).cap);rw[hv'];exact(bU.fG (hplain d fz' a' i' sz' l' hdm hd)).mono λb hb=>⟨m1 b hb,rfl⟩
       .rename_i hj;exact hold x0 y hx0 hy λe=>hj e.2.symm
     have:=bU.sl (w:=w) (ok:=E.ok st' gh w (a0||a') (i0||i')) sz (iR l0 n c (P.fG sz' l')) ad (gh g').cap (λn j=>(cs[ad.off+n*sz+j]?).getD undef) h2 (λ_=>m0 _ (VY g' _ a0 i0 hm (by rw[ho];rfl) (Gh.jC h1)))
      (by rw[iK];exact h5.1) (AU h6 hcs) (λn' x hx j y hy=>by
       obtain⟨v,hv,_⟩:=key n' x hx j y hy;rw[hcell,hv];rfl) (λn' x hx j y hy=>by
       obtain⟨v,hv,hr⟩:=key n' x hx j y hy;simp only[hv,Option.getD_some];exact hr)
     rw[iK]at this;exact this
  .rw [hso,QR hm];exact hl.Az (λ_ _ _=>rfl) (h.uo g') (h.aW g')
 .by_cases hm:g'∈gs
  .obtain ⟨a,i,sz,l,_,e⟩:=hin g' hm;rw[e]at hx;simp[O.names]at hx
  .rw [hso,QR hm]at hx;exact hsu x (h.uo g' x hx)
 .by_cases hm:g'∈gs;exact hsu g' (wU.used h hg hm);rw[hso,QR hm]at hg';exact hsu g' (h.ul g' hg')
theorem NG(h:Rel E st gh val w){x:W}{v:Value}(r:eH E st gh w x v){y:P}{a i:Bool}{gs:List Nat}(ht:x.toP st.o=some (y,a,i,gs)):
  wU st.o gs/\∀st',(∀g∈gs,st'.o g=(Fw.aN st.o g).2)->Rel E st' gh val w->Lets E st st' gh gh w w->bU w (E.ok st' gh w a i) y v:=by
 cases r with
 |p a' i' x v hx=>simp only[W.toP,Q0,QP]at ht;obtain⟨rfl,rfl,rfl,rfl⟩:=ht;exact⟨wU.nil,λst' _ _ hl=>hl.kD hx⟩
 |b_=>simp only[W.toP,Q0,QP]at ht;obtain⟨rfl,rfl,rfl,rfl⟩:=ht;exact⟨wU.nil,λst' _ _ hl=>.nil _ _ _⟩
 |own g v hv hx=>
  simp only[W.toP]at ht;split at ht
  rotate_left
  cases ht;rename_i a' i' sz l ho;cases ht;refine⟨uO ho,λst' hst h' hl=>?_⟩;have hO:=h'.aW g;rw[hst g (by simp),lY ho]at hO;rw[hx _ _ (H8 ho)];exact bU.fG hO
 |vw g lo hi v hv hx=>
  simp only[W.toP]at ht;split at ht
  rotate_left
  cases ht;rename_i a' i' sz l ho;cases ht;refine⟨uO ho,λst' hst h' hl=>?_⟩;have hO:=h'.aW g;rw[hst g (by simp),lY ho]at hO;obtain⟨n,m,c,rfl,rfl,h1,h2,hc,he⟩:=hx _ _ (H8 ho);rw[he];have e1:(P.int .i64 (n:Int)).nat=n:=by simp[P.nat,P.num]
  have e2:(P.int .i64 (m:Int)).nat=m:=by simp[P.nat,P.num]
  rw[e1,e2];exact bU.fG ((bU.sub hO h1 h2).agS (by simp;omega))
 |_=>simp[W.toP]at ht
theorem AV(h:Rel E st gh val w):∀{ws:List W} {cs:List Value} {ps:List P} {a i:Bool} {gs:List Nat},ws.length=cs.length->(∀(j:Nat) x u,ws[j]?=some x->cs[j]?=some u->eH E st gh w x u)->
  wK st.o ws=some (ps,a,i,gs)->ps.length=ws.length/\wU st.o gs/\∀st',(∀g∈gs,st'.o g=(Fw.aN st.o g).2)->Rel E st' gh val w->
   Lets E st st' gh gh w w->∀(j:Nat) y u,ps[j]?=some y->cs[j]?=some u->bU w (E.ok st' gh w a i) y u
 | [],cs,ps,a,i,gs,hl,hr,ht=>by simp only[wK,Q0,QP]at ht;obtain⟨rfl,rfl,rfl,rfl⟩:=ht;exact⟨rfl,wU.nil,λst' _ _ _ j y u hy=>by simp at hy⟩
 |x::ws,cs,ps,a,i,gs,hl,hr,ht=>by
  cases cs with
  |nil=>simp at hl
  |cons c cs=>
   simp only[wK]at ht;split at ht
   rotate_left
   cases ht;rename_i y1 a1 i1 gs1 ys a2 i2 gs2 h1 h2;cases ht;obtain⟨k1,k2⟩:=NG h (hr 0 x c rfl rfl) h1;obtain⟨q0,q1,q2⟩:=AV h (by simpa using hl) (λj a b ha hb=>hr (j+1) a b (by simpa using ha) (by simpa using hb)) h2;refine⟨by simp[q0],k1.append q1,λst' hst h' hlet j y u hy hu=>?_⟩;cases j with
   |zero=>simp at hy hu;subst hy hu;exact(k2 st' (λg hg=>hst g (by simp[hg])) h' hlet).mono λb hb=>⟨Env.oH (by simp;exact λh=>.inl h) (by simp;exact λh=>.inl h) hb,rfl⟩
   |succ j=>exact(q2 st' (λg hg=>hst g (by simp[hg])) h' hlet j y u (by simpa using hy) (by simpa using hu)).mono λb hb=>⟨Env.oH (by simp;exact λh=>.inr h) (by simp;exact λh=>.inr h) hb,rfl⟩
theorem dH{α:Type}(ws:List α)(n:Nat):(fZ ws n).length=n*ws.length:=by
 induction n with
 |zero=>simp[fZ]
 |succ n ih=>simp[fZ,ih,Wl];omega
theorem iH{α:Type}(ws:List α):∀(n i:Nat),i<n*ws.length->(fZ ws n)[i]?=ws[i % ws.length]?
 |0,i,h=>by simp at h
 |n+1,i,h=>by
  simp only[fZ,K9];split
  .rename_i hlt;rw[qv hlt]
  .rename_i hge;have hh:i-ws.length<n*ws.length:=by rw[Wl]at h;omega
   rw[iH ws n _ hh];congr 1;have:i=(i-ws.length)+ws.length:=by omega
   rw[this,Nat.add_mod_right];congr 1;omega
theorem mW{z:Array Value}{zs:List Value}(hz:z.toList=zs)(n:Nat)(h0:0<zs.length):(Array.range (n*zs.length)).map (λi=>z[i % z.size]!)=(fZ zs n).toArray:=by
 apply Array.ext';apply qn;intro i;have hsz:z.size=zs.length:=by rw[<-hz];simp
 simp only[Array.toList_map,Array.toList_range,Z3];by_cases hi:i<n*zs.length
 .rw [qz hi];simp only[W2];rw[iH zs n i hi];have hm:i % zs.length<zs.length:=Nat.mod_lt _ h0;rw[Q3 hm];congr 1;have hm':i % z.size<z.size:=by rw[hsz];exact hm
  rw[getElem!_pos z _ hm'];have hzs:zs=z.toList:=hz.symm;subst hzs;simp only[Array.getElem_toList,Array.length_toList]
 .rw [UB (by simp;omega),UB (by rw[dH];omega)];rfl
theorem gQ{α:Type}(sz:Nat):∀(n:Nat) (l:List α),(chunks sz n l).length=n
 |0,_=>rfl
 |n+1,l=>by simp[chunks,gQ sz n]
theorem pY{α:Type}(sz:Nat):∀(n:Nat) (l:List α) (m:Nat),m<n->(chunks sz n l)[m]?=some ((l.drop (m*sz)).take sz)
 |0,l,m,h=>by omega
 |n+1,l,0,h=>by simp[chunks]
 |n+1,l,m+1,h=>by simp only[chunks,VV];rw[pY sz n _ m (by omega),List.drop_drop];congr 3;rw[Wl];omega
theorem AX(h:Rel E st gh val w)(d:Nat)(hd:st.used d=false)(a i:Bool)(sz:Nat)(l:List (List P))(c:Array Value)(t:TypeId)(cap:Nat)(hcap:l.length<=cap/\cap<=9223372036854775807)(hc:cap*sz<=c.size)(hrow :∀x∈l,x.length=sz)
  (hr :∀(n:Nat) x,l[n]?=some x->∀(j:Nat) y,x[j]?=some y->∃v,c[n*sz+j]?=some v/\bU w (E.ok st gh w a i) y v) :
  ∃bG,Rel E (st.aB [(d,.arr false a i sz l)] [d]) bG val { w with heap:=w.heap.push (.cells c t) }/\Lets E st (st.aB [(d,.arr false a i sz l)] [d]) gh bG w { w with heap:=w.heap.push (.cells c t) }/\
   bG d=⟨some ⟨w.heap.size,0,none⟩,cap,λ_=>none⟩ /\(st.aB [(d,.arr false a i sz l)] [d]).o d=.arr false a i sz l:=by
 have hm:=Rel.make h d hd (.arr false a i sz l) c t ⟨some ⟨w.heap.size,0,none⟩,cap,λ_=>none⟩ rfl (λ_=>rfl) (λbG w' hlets hg hw=>by subst hw;refine .inr ⟨⟨w.heap.size,0,none⟩,c,t,rfl,rfl,yV _ _,by simpa using hc,hcap,hrow,λn x hx j y hy=>?_⟩;obtain⟨v,hv,hrp⟩:=hr n x hx j y hy;exact⟨v,by simpa using hv,hlets.kD hrp⟩) (λg hg=>by simp[O.names]at hg)
 exact⟨_,hm.1,hm.2,by simp[eG],by simp[St.aB,List.lookup]⟩
theorem Lets.trans{st1 st2 st3:St}{lZ yY gh3:Nat->Gh}{w1 w2 w3:World}(h1:Lets E st1 st2 lZ yY w1 w2)(h2:Lets E st2 st3 yY gh3 w2 w3)(hu :∀g,st1.used g=true->st2.used g=true):
  Lets E st1 st3 lZ gh3 w1 w3:=by
 refine⟨λa i b hb=>?_,λg hg=>?_⟩
 .have k1:=h1.ok a i b hb;have k2:=h2.ok a i b k1.1;exact⟨k2.1,k2.2.trans k1.2⟩
 .rcases h2.names g (hu g hg)with k2|⟨e2,k2⟩;exact .inl k2;rcases h1.names g hg with k1|⟨e1,k1⟩
  .rw [k1]at k2;cases hz:st3.o g with
   |none=>exact .inl rfl
   |_=>rw[hz]at k2;simp[O.like]at k2
  .exact .inr ⟨⟨e2.1.trans e1.1,e2.2.trans e1.2⟩,O.like.trans k1 k2⟩
theorem lookup_append{o:Nat->O}{gs:List Nat}{d:Nat}{x:O}(hd:d∉gs)(hn:List Nat):
  (st.aB (gs.map (Fw.aN st.o)) []).aB [(d,x)] [d]=st.aB (gs.map (Fw.aN st.o)++[(d,x)]) [d]:=by
 unfold St.aB;congr 1
 .funext g;have key:((gs.map (Fw.aN st.o))++[(d,x)]).lookup g=if g∈gs then some (Fw.aN st.o g).2 else if g=d then some x else none:=by
   clear hd
   induction gs with
   |nil=>
    by_cases e:g=d
    .subst e;simp
    .have:(g==d)=false:=by simpa using e
     simp[List.lookup,this,e]
   |cons y gs ih=>
    simp only[X2,Ke];by_cases e:g=y
    .subst e;have:(Fw.aN st.o g)=(g,(Fw.aN st.o g).2):=rfl;rw[this,List.lookup];simp
    .have hne:(g==y)=false:=by simpa using e
     have:(Fw.aN st.o y)=(y,(Fw.aN st.o y).2):=rfl;rw[this,List.lookup,hne];simp only[ih,Xs,e,false_or]
  rw[key];by_cases e:g=d
  .subst e;simp[List.lookup,hd]
  .have hne:(g==d)=false:=by simpa using e
   have hl:[(d,x)].lookup g=none:=by simp[List.lookup,hne]
   rw[hl];show (match (gs.map (Fw.aN st.o)).lookup g with|some x=>x|none=>st.o g)=_;rw[lI];by_cases hm:g∈gs
   .simp [hm]
   .simp [hm,e]
theorem Dh(htt:iC Pg tt)(t:TypeId)(n:Nat)(parts:Array (Nat×Operand)):fB Pg tt (.buildSlice t n parts):=by
 intro E st gh val w ρ F o d r ho h hF hFn hk hp hd;simp only[kernel]at hk;split at hk
 rotate_left
 cases hk;rename_i e _ _ _ ht;split at hk
 rotate_left
 cases hk;rename_i ie he;split at hk
 rotate_left
 cases hk;rename_i ws EC;split at hk
 rotate_left
 cases hk;rename_i ps a i gs hps;split at hk
 rotate_left
 cases hk;rename_i hcap0;have hcap:n*ie.size<=16777216:=by omega
 cases hk;have hu:=(htt _ _ ht).kind;simp only[oG]at hu;obtain⟨z,hz,hzc,_⟩:=mQ (Pg:=Pg) (w:=w) (htt _ _ he);obtain⟨hone,hl,hr⟩:=sK (E:=E) (st:=st) (gh:=gh) (w:=w) (htt _ _ he);have hzl:=(htt _ _ he).len;have hparts:(parts.map λ(p:Nat×Operand)=>(p.1,ρ p.2)).toList=parts.toList.map λp=>(p.1,ρ p.2):=by simp
 obtain⟨cs',h1,h2,h3,h4,h5⟩:=AQ (E:=E) (st:=st) (gh:=gh) (w:=w) (place':=λi=>some (i*ie.size,ie.size)) (λm p hpm=>by split at hpm;exact hpm;cases hpm) _ (parts.toList.map λp=>(p.1,ρ p.2)) _ _
  (fZ ie.zero n) (by simp) (λj x v hx hv=>Df hF _ j x v hx hv) (by rw[dH,dH,hl]) (λc hc=>by
   obtain⟨j,hj⟩:=VS.1 hc;have hlt:j<n*ie.zero.length:=by have:=(Q4.1 hj).1;rwa [dH]at this
   rw[iH _ _ _ hlt]at hj;exact hone c (Ys hj)) (λj x u hx hu=>by
   have hlt:j<n*ie.zero.length:=by have:=(Q4.1 hu).1;rwa [dH]at this
   rw[iH _ _ _ hlt]at hu;rw[iH _ _ _ (by rw[hl];exact hlt),hl]at hx;exact hr _ _ _ hx hu) EC
 obtain⟨q0,q1,q2⟩:=AV h h2 h4 hps;obtain⟨f1,f2⟩:=Rel.freezes gs h q1;have hreads:=q2 _ (λg hg=>by rw[fJ,Qt hg]) f1 f2;have Gw:st.used d=false:=hd d (by simp);have hdg:d∉gs:=λhm=>by rw[wU.used h q1 hm]at Gw;cases Gw
 have hws:ws.length=n*ie.size:=by rw[h5,dH,hl,hzl]
 have ahN:ps.length=n*ie.size:=by rw[q0,hws]
 obtain⟨bG,m1,m2,m3,m4⟩:=AX f1 d (by simpa[St.aB]using Gw) a i ie.size (chunks ie.size n ps) cs'.toArray e n ⟨by rw[gQ];exact ZD _,by omega⟩ (by simp;omega) (λx hx=>by
   obtain⟨m,hm⟩:=VS.1 hx;have hlt:m<n:=by have:=(Q4.1 hm).1;rwa [gQ]at this
   rw[pY _ _ _ _ hlt]at hm;cases hm;simp[ahN];have:(m+1)*ie.size<=n*ie.size:=Zs _ hlt;rw[Wl]at this;omega) (λm x hx j y hy=>by
   have hlt:m<n:=by have:=(Q4.1 hx).1;rwa [gQ]at this
   rw[pY _ _ _ _ hlt]at hx;cases hx;rw[ZZ]at hy;split at hy
   .rename_i hj;rw[Wb]at hy;have hlt2:m*ie.size+j<cs'.length:=by have:=(Q4.1 hy).1;omega
    exact⟨cs'[m*ie.size+j],by simp,hreads _ _ _ hy (Q3 hlt2)⟩
   .cases hy)
 rw[lookup_append (o:=st.o) hdg []]at m1 m2 m4;refine⟨.slice (some ⟨w.heap.size,0,none⟩) n n,_,bG,.inl ?_,m1,Lets.trans f2 m2 (λg hg=>by simpa[St.aB]using hg),dn.Gu (.own d _ rfl λsz' len' ho'=>?_),λg hg=>?_⟩
 .unfold execOp;rw[ho];refine fQ ?_;have hle:¬ n*ie.size>2 ^ 24:=by omega
  have fin :∀Z:Array Value,(Array.range (n*ie.size)).map (λi=>Z[i % Z.size]!)=(fZ ie.zero n).toArray->
    Instr.fill (λi=>some (i*ie.size,ie.size)) ((Array.range (n*ie.size)).map λi=>Z[i % Z.size]!) (parts.map λ(p:Nat×Operand)=>(p.1,ρ p.2)).toList=some cs'.toArray:=by
   intro Z hZ;rw[hZ,hparts,h1]
  by_cases h0:n*ie.size=0
  .have e0:fZ ie.zero n=[]:=Vv (by rw[dH,hzl,h0]);have e1:=fin #[] (by rw[h0,e0];simp);simp only[Instr.buildSlice,Sem.run_bind,dN hu,Result.andThen_ok,dL (htt _ _ he),QR hle,Qt h0,Sem.run_pure];simp only[e1];simp[newRow]
  .have hpos:0<ie.zero.length:=by rw[hzl];rcases vB ie.size with h|h;(rw[h]at h0;simp at h0);exact h
   have e1:=fin z.cells (by have:=mW hzc n hpos;rw[hzl]at this;exact this);simp only[Instr.buildSlice,Sem.run_bind,dN hu,Result.andThen_ok,dL (htt _ _ he),QR hle,QR h0,hz,Sem.run_pure];simp only[e1];simp[newRow]
 .have Uh:(O.arr false a i ie.size (chunks ie.size n ps)).dim=some (sz',len'):=(ZS O.dim m4.symm).trans ho';obtain⟨_,rfl⟩:=O.jJ Uh;rw[m3,gQ]
 .have hg:g∈(S.v (.one (.own d))).names:=hg;rw[dG]at hg;simp only[W.names,Q6]at hg;subst hg;simp[St.aB]
end
end Go.Fw

namespace Go.Fw
variable [dV]
section
variable {E:Env} {st st':St} {gh bG:Nat->Gh} {w w':World} {val:Nat->Value} {Pg:Program} {tt:TT}
theorem Gl(htt:iC Pg tt)(t:TypeId)(n c:Operand):fB Pg tt (.makeSlice t n c):=by
 intro E st gh val w ρ F o d r ho h hF hFn hk hp hd;simp only[kernel]at hk;split at hk
 rotate_left
 cases hk;rename_i e _ _ _ _ _ n' _ _ c' ht hn hc;split at hk
 rotate_left
 cases hk;rename_i ie he;split at hk
 rotate_left
 cases hk;rename_i ps hps;split at hk
 rotate_left
 cases hk;rename_i hpos;cases hk;obtain⟨m,k,rfl,rfl,hmk,hby,hkm⟩:=hp;have hu:=(htt _ _ ht).kind;simp only[oG]at hu;have rn:=hF n;rw[hn]at rn;have rc:=hF c;rw[hc]at rc;obtain⟨x,z,g1,g2,g3,g4,g5,g6⟩:=(htt _ _ he).info;obtain⟨hone,hl,hr⟩:=sK (E:=E) (st:=st) (gh:=gh) (w:=w) (htt _ _ he);have hzl:=(htt _ _ he).len;obtain⟨q0,q1,q2⟩:=AV h hl hr hps;have hreads:=q2 st (by simp) h ⟨λa i b hb=>⟨hb,rfl⟩,λg _=>.inr ⟨⟨rfl,rfl⟩,O.eU _⟩⟩;have Gw:st.used d=false:=hd d (by simp);have hpl:ps.length=ie.size:=by rw[q0,hl,hzl]
 have e1:(P.int .i64 (m:Int)).nat=m:=by simp[P.nat,P.num]
 obtain⟨bG,m1,m2,m3,m4⟩:=AX h d Gw false false ie.size (List.replicate m ps) (fZ ie.zero k).toArray e k ⟨by simpa using hmk,by omega⟩ (by simp[dH,hzl]) (λx hx=>by
   rw[List.mem_replicate]at hx;rw[hx.2,hpl]) (λq x hx j y hy=>by
   rw[KK]at hx;split at hx
   .rename_i hq;cases hx;have hj:j<ie.size:=by have:=(Q4.1 hy).1;omega
    have hlt:q*ie.size+j<k*ie.zero.length:=by rw[hzl];have:(q+1)*ie.size<=k*ie.size:=Zs _ (by omega);rw[Wl]at this;omega
    have hz':ie.zero[j]?=some ie.zero[j]:=Q3 (by omega);refine⟨ie.zero[j],?_,hreads j y _ hy hz'⟩;simp only[K4];have hmod:(q*ie.size+j) % ie.zero.length=j:=by rw[hzl,vd,zg,qv hj]
    rw[iH _ _ _ hlt,hmod];exact hz'
   .cases hx)
 refine⟨.slice (some ⟨w.heap.size,0,none⟩) m k,_,bG,.inl ?_,by simpa[e1,P.list]using m1,by simpa[e1,P.list]using m2,dn.Gu (.own d _ rfl λsz' len' ho'=>?_),λg hg=>?_⟩
 .unfold execOp;rw[ho];refine fQ ?_;have hrun:=run_make (P:=Pg) w t e x z hu g1 g4 .i64 .i64 (m:Int) (k:Int) (by omega) (by omega) (by rw[g3];omega) (by omega);rw[rn.eX.dR,rc.eX.dR,hrun];have:=mW g5 k (by rw[hzl];exact hpos);rw[hzl]at this;simp only[Q1,g2,madeCells,this]
 .rw [e1]at ho';have Uh:(O.arr false false false ie.size (List.replicate m ps)).dim=some (sz',len'):=(ZS O.dim m4.symm).trans ho';obtain⟨_,rfl⟩:=O.jJ Uh;rw[m3,Kf]
 .have hg:g∈(S.v (.one (.own d))).names:=hg;rw[dG]at hg;simp only[W.names,Q6]at hg;subst hg;simp[St.aB]
theorem lT(b o:Nat)(e:TypeId):∀(vs:List Value) (i:Nat) (w:World) (c:Array Value),w.heap[b]?=some (.cells c e (0,0))->(∀v∈vs,v.oneCell'=true)->o+i+vs.length<=c.size->
  ∃w' c',(storeCells ⟨b,o,none⟩ vs i).run Pg w=.ok () w'/\w'.heap[b]?=some (.cells c' e (0,0))/\c'.toList=aJ c.toList (o+i) vs/\(∀b',b'≠b->w'.heap[b']?=w.heap[b']?)/\w'.heap.size=w.heap.size/\
   w'.os=w.os/\w'.tape=w.tape/\w'.output=w.output
 | [],i,w,c,hb,_,_=>⟨w,c,rfl,hb,by simp[aJ],λ_ _=>rfl,rfl,rfl,rfl,rfl⟩
 |v::vs,i,w,c,hb,hone,hlt=>by
  have hci:o+i<c.size:=by simp at hlt;omega
  have hcell:w.cell? ⟨b,o+i,none⟩=some c[o+i]:=by simp[World.cell?,hb,hci]
  have hfr:w.frozen? ⟨b,o+i,none⟩=false:=by simp[World.frozen?,hb]
  have hst':(store ((⟨b,o,none⟩:Addr).add i) v).run Pg w=.ok () (w.setCell ⟨b,o+i,none⟩ v):=by rw[Addr.gX,run_store Pg w _ v .plain (hone v (by simp)),hcell];simp[hfr]
  have hb':(w.setCell ⟨b,o+i,none⟩ v).heap[b]?=some (.cells (c.setIfInBounds (o+i) v) e (0,0)):=by simp[World.setCell,ve,hb]
  obtain⟨w',c',h1,h2,h3,h4,h5,h6,h7,h8⟩:=lT b o e vs (i+1) (w.setCell ⟨b,o+i,none⟩ v) _ hb' (λv hv=>hone v (by simp[hv])) (by simp at hlt ⊢;omega);refine⟨w',c',?_,h2,?_,λb' hne=>(h4 b' hne).trans ?_,by rw[h5];simp[World.setCell],h6,h7,h8⟩
  .unfold storeCells;rw[Sem.run_bind];rw[hst'];exact h1
  .rw [h3];have:=foldl_set o (v::vs) i c (by simp at hlt ⊢;omega);have h2':=foldl_set o vs (i+1) (c.setIfInBounds (o+i) v) (by simp at hlt ⊢;omega);rw[<-this];simp only[List.zipIdx_cons,Ka];rw[h2']
  .simp only[World.setCell,ve];rw[QR (λe=>hne e.symm)]
theorem rM{t:TypeId}{i:TI}(h:oW Pg t i)(b o:Nat){v:Value}{cs:List Value}(hv:v.cells=cs.toArray)(hl:cs.length=i.size)(hone :∀c∈cs,c.oneCell'=true){c:Array Value}{e:TypeId}
  (hb:w.heap[b]?=some (.cells c e (0,0))) (hlt:o+i.size<=c.size) :
  ∃w' c',(storeVar t ⟨b,o,none⟩ v).run Pg w=.ok () w'/\w'.heap[b]?=some (.cells c' e (0,0))/\c'.toList=aJ c.toList o cs/\(∀b',b'≠b->w'.heap[b']?=w.heap[b']?)/\w'.heap.size=w.heap.size/\
   w'.os=w.os/\w'.tape=w.tape/\w'.output=w.output:=by
 obtain⟨w',c',h1,h2,h3,h4⟩:=lT (Pg:=Pg) b o e cs 0 w c hb hone (by omega);refine⟨w',c',?_,h2,h3,h4⟩;have hne:¬ v.cells.size≠i.size:=by rw[hv];simp[hl]
 unfold storeVar;simp only[Sem.run_bind,dL h,Result.andThen_ok,QR hne];rw[hv];exact h1
theorem yS.block{ws:List W}{G:Gh}(h:yS E st gh w ws G){ad:Addr}(had:G.ad=some ad):ad.spot=none/\∃c e,w.heap[ad.block]?=some (.cells c e (0,0))/\ad.off+ws.length<=c.size/\
  ∀(j:Nat) x,ws[j]?=some x->∃v,c[ad.off+j]?=some v/\v.oneCell'=true/\eH E st gh w x v:=by
 obtain⟨ad',c,e,h1,h2,h3,h4,h5⟩:=h;rw[had]at h1;cases h1;exact⟨h2,c,e,h3,h4,h5⟩
theorem Ui{F:Operand->S}(hFn :∀x,∀g∈(F x).names,st.used g=true){y:Operand}{y':V}(hy:F y=.v y'):∀x∈y'.words,∀g∈x.names,st.used g=true:=by
 intro x hx g hg;have:=hFn y g;rw[hy]at this;refine this ?_;cases y' with
 |one z=>simp[V.words]at hx;subst hx;simpa[S.names,V.names]using hg
 |agg xs=>simp only[S.names,V.names,YY];exact⟨x,hx,hg⟩
theorem NH{α:Type}{l new:List α}{off:Nat}{x:α}(h:x∈aJ l off new):x∈l\/x∈new:=by
 unfold aJ at h;simp only[QQ]at h;rcases h with(h|h)|h
 .exact .inl (W6 h)
 .exact .inr h
 .exact .inl (Up h)
theorem H9{o:Nat->O}{gs:List Nat}{d:Nat}{x:O}(hd:d∉gs):
  (st.aB (gs.map (Fw.aN st.o)) []).aB [(d,x)] []=st.aB (gs.map (Fw.aN st.o)++[(d,x)]) []:=by
 have:=lookup_append (st:=st) (o:=o) (x:=x) hd [];have ho:=ZS St.o this;unfold St.aB at ho ⊢;simp only at ho ⊢;rw[ho];simp
theorem P9(htt:iC Pg tt)(t:TypeId)(x y:Operand):fB Pg tt (.store t x y):=by
 intro E st gh val w ρ F o d r ho h hF hFn hk hp hd;simp only[kernel]at hk;split at hk
 .rename_i i g off y' ht hx hy;have rx:=hF x;rw[hx]at rx;have ry:=hF y;rw[hy]at ry;split at hk
  rotate_left
  cases hk;rename_i ws hog;split at hk
  rotate_left
  cases hk;rename_i hc;cases hk;have hO:yS E st gh w ws (gh g):=by have:=h.aW g;rw[hog]at this;exact this
  obtain⟨ad,had,hv⟩:=(by cases rx.dB with|box _ _ _ _ hb=>exact hb ws hog :∃ad,(gh g).ad=some ad/\ρ x=.pointer (some ⟨ad.block,ad.off+off,none⟩));obtain⟨hs,c,e,hb,hlt,hcells⟩:=hO.block had;obtain⟨us,hus,Ue,huo,hur⟩:=ry.NC.cells hc.2.2;have aap:us.length=i.size:=by rw[Ue,hc.2.1]
  obtain⟨w',c',h1,h2,h3,h4,h5,h6,h7,h8⟩:=rM (Pg:=Pg) (htt _ _ ht) ad.block (ad.off+off) hus aap huo hb (by omega);have hyu:=Ui hFn hy;have AY:c'.size=c.size:=by have:=ZS List.length h3;rw[dS (by simp;omega)]at this;simpa using this
  have hm:=Rel.write h g ad (by rw[hog];rfl) had (.box (aJ ws off y'.words)) (by rw[hog];trivial) w' h4 h5 h6 h7 h8 rfl (λi e=>by cases e) (λ_=>by rw[hog];rfl) (λhlets=>by
   refine⟨ad,c',e,had,hs,h2,by rw[dS (by omega),AY];exact hlt,λj z hz=>?_⟩;rw[eF (by omega)]at hz;have hget:c'[ad.off+j]?=(aJ c.toList (ad.off+off) us)[ad.off+j]?:=by rw[<-h3];simp
   rw[eF (by simp;omega)]at hget;split at hz
   .rename_i hin;rw[Qt (by omega)]at hget;have hj':j-off<us.length:=by omega
    have e1:ad.off+j-(ad.off+off)=j-off:=by omega
    rw[e1,Q3 hj']at hget;exact⟨_,hget,huo _ (Z2 hj'),hlets.zC (hyu z (Ys hz)) (hur _ _ _ hz (Q3 hj'))⟩
   .rename_i hin;rw[QR (by omega)]at hget;obtain⟨v,hv,hvo,hvr⟩:=hcells j z hz;refine⟨v,by rw[hget];simpa using hv,hvo,hlets.zC (λg' hg'=>h.uo g g' ?_) hvr⟩;rw[hog];simp only[O.names,YY];exact⟨z,Ys hz,hg'⟩) (λg' hg'=>by
   simp only[O.names,YY]at hg';obtain⟨z,hz,hg'⟩:=hg';rcases NH hz with hz|hz
   .exact h.uo g g' (by rw[hog];simp only[O.names,YY];exact⟨z,hz,hg'⟩)
   .exact hyu z hz g' hg')
  refine⟨undef,w',gh,.inr ⟨?_,rfl⟩,hm.1,hm.2,.no _,λg hg=>by simp[S.names]at hg⟩;unfold execOp;rw[ho];refine aal ?_;rw[hv];simpa[Instr.storeAt,Instr.sureAddr]using h1
 .rename_i i g n off y' ht hx hy;have rx:=hF x;rw[hx]at rx;have ry:=hF y;rw[hy]at ry;split at hk
  rotate_left
  cases hk;rename_i a i' sz l ps a' i'' gs hog hps;split at hk
  rotate_left
  cases hk;rename_i hc;obtain⟨hc1,hc2,hc3,hc4,hc5⟩:=hc;cases hk;have hg:g∉gs:=λhm=>by simp[hm]at hc5
  obtain⟨us,hus,Ue,huo,hur⟩:=ry.NC.cells hc4;have aap:us.length=i.size:=by rw[Ue,hc3]
  obtain⟨q0,q1,q2⟩:=AV h Ue.symm hur hps;obtain⟨f1,f2⟩:=Rel.freezes gs h q1;have hreads:=q2 _ (λg hg=>by rw[fJ,Qt hg]) f1 f2;have aaq:(st.aB (gs.map (Fw.aN st.o)) []).o g=.arr false a i' sz l:=by rw[fJ,QR hg];exact hog
  obtain⟨ad,k,had,hn,hk,hv⟩:=(by cases rx.dB with|ep _ _ _ _ _ hb=>exact hb _ _ (O.jM hog) :∃(ad:Addr) (k:Nat),(gh g).ad=some ad/\n=.int .i64 k/\k<l.length/\ρ x=.pointer (some ⟨ad.block,ad.off+k*sz+off,none⟩));have hO:iw E (st.aB (gs.map (Fw.aN st.o)) []) gh w a i' sz l (gh g):=by have:=f1.aW g;rw[aaq]at this;exact this
  rcases hO with⟨z1,z2,z3⟩|⟨ad',c,e,z1,hs,hb,hlt,hcap,hrow,hcells⟩
  .subst z3;simp at hk
  rw[had]at z1;cases z1;have en:n.nat=k:=by rw[hn];simp[P.nat,P.num]
  have hlk:l[k]?=some l[k]:=Q3 hk;have agT:l.getD n.nat []=l[k]:=by rw[en,Q2,hlk];rfl
  have hrl:l[k].length=sz:=hrow _ (Z2 hk);have hle:(k+1)*sz<=(gh g).cap*sz:=Zs _ (by have:=hcap.1;omega);rw[Wl,Kk]at hle;obtain⟨w',c',h1,h2,h3,h4,h5,h6,h7,h8⟩:=rM (Pg:=Pg) (htt _ _ ht) ad.block (ad.off+k*sz+off) hus aap huo hb (by omega);have AY:c'.size=c.size:=by have:=ZS List.length h3;rw[dS (by simp;omega)]at this;simpa using this
  have hm:=Rel.write f1 g ad (by rw[aaq];rfl) had (.arr false (a||a') (i'||i'') sz (l.set k (aJ l[k] off ps))) (by rw[aaq];exact⟨rfl,by simp⟩) w' h4 h5 h6 h7 h8 rfl (λi1 e1=>by cases e1;exact⟨i',by rw[aaq];rfl,λhi=>by simp[hi]⟩) (λ_=>by rw[aaq];rfl) (λhlets=>by
   refine .inr ⟨ad,c',e,had,hs,h2,by rw[AY];exact hlt,by simpa using hcap,λz hz=>?_,λm z hz j yy hyy=>?_⟩
   .obtain ⟨m,hm⟩:=VS.1 hz;rw[Kx]at hm;split at hm
    .cases hm;rw[dS (by rw[hrl];omega),hrl]
    .exact hrow z (Ys hm)
   .have hget:c'[ad.off+m*sz+j]?=(aJ c.toList (ad.off+k*sz+off) us)[ad.off+m*sz+j]?:=by rw[<-h3];simp
    rw[eF (by simp;omega)]at hget;rw[Kx]at hz;split at hz
    .rename_i hkm;subst hkm;cases hz;rw[eF (by rw[hrl];omega)]at hyy;split at hyy
     .rename_i hin;have hj':j-off<us.length:=by omega
      rw[Qt (by omega)]at hget;have e1:ad.off+k*sz+j-(ad.off+k*sz+off)=j-off:=by omega
      rw[e1,Q3 hj']at hget;refine⟨_,hget,(hlets.kD (hreads _ _ _ hyy (Q3 hj'))).mono λb hb=>⟨Env.oH (by simp;exact λh=>.inr h) (by simp;exact λh=>.inr h) hb,rfl⟩⟩
     .rename_i hin;have hjs:j<sz:=by have:=(Q4.1 hyy).1;omega
      rw[QR (by omega)]at hget;obtain⟨v,hv,hvr⟩:=hcells k _ hlk j yy hyy;refine⟨v,by rw[hget];simpa using hv,(hlets.kD hvr).mono λb hb=>⟨Env.oH (by simp;exact λh=>.inl h) (by simp;exact λh=>.inl h) hb,rfl⟩⟩
    .rename_i hkm;have hjs:j<sz:=by have:=(Q4.1 hyy).1;have:=hrow z (Ys hz);omega
     have hout:¬ (ad.off+k*sz+off<=ad.off+m*sz+j/\ad.off+m*sz+j<ad.off+k*sz+off+us.length):=by
      rcases Nat.lt_or_gt_of_ne hkm with hlt'|hgt
      .have:(k+1)*sz<=m*sz:=Zs _ hlt';rw[Wl,Kk]at this;omega
      .have:(m+1)*sz<=k*sz:=Zs _ hgt;rw[Wl,Kk]at this;omega
     rw[QR hout]at hget;obtain⟨v,hv,hvr⟩:=hcells m z hz j yy hyy;refine⟨v,by rw[hget];simpa using hv,(hlets.kD hvr).mono λb hb=>⟨Env.oH (by simp;exact λh=>.inl h) (by simp;exact λh=>.inl h) hb,rfl⟩⟩) (λg' hg'=>by simp[O.names]at hg')
  rw[H9 (o:=st.o) hg]at hm;refine⟨undef,w',gh,.inr ⟨?_,rfl⟩,by rw[agT,en];exact hm.1,by rw[agT,en];exact Lets.trans f2 hm.2 (λg hg=>by simpa[St.aB]using hg),.no _,λg hg=>by simp[S.names]at hg⟩;unfold execOp;rw[ho];refine aal ?_;rw[hv];simpa[Instr.storeAt,Instr.sureAddr]using h1
 .cases hk
end
end Go.Fw

namespace Go.Fw
variable [dV]
section
variable {E:Env} {st st':St} {gh bG:Nat->Gh} {w w':World} {val:Nat->Value} {Pg:Program} {tt:TT}
def oZ(w:World)(ok:Nat->Prop)(sz:Nat)(l:List (List P))(v:Value):Prop:=∃ao cap,v=.slice ao l.length cap/\(l≠[]->∃b o,ao=some ⟨b,o,none⟩ /\∀(n:Nat) x,l[n]?=some x->x.length=sz/\∀(j:Nat) y,x[j]?=some y->∃u,w.cell? ⟨b,o+n*sz+j,none⟩=some u/\bU w ok y u)
theorem bU.ahP{ok:Nat->Prop}{sz:Nat}{l:List (List P)}{v:Value}(h:bU w ok (.sl sz l) v):oZ w ok sz l v:=by obtain⟨ao,cap,he,hc,hr⟩:=h.zG;refine⟨ao,cap,he,λhne=>?_⟩;obtain⟨ad,rfl,hs,hok,hrow,f,h1,h2⟩:=hr hne;obtain⟨b,o,sp⟩:=ad;simp only at hs;subst hs;exact⟨b,o,rfl,λn x hx=>⟨hrow x (Ys hx),λj y hy=>⟨_,h1 n x hx j y hy,h2 n x hx j y hy⟩⟩⟩
theorem P_{fz a i:Bool}{sz:Nat}{l:List (List P)}{G:Gh}(h:lF E st gh w (.arr fz a i sz l) G)(hne:l≠[]):∃b o,G.ad=some ⟨b,o,none⟩:=by
 cases fz with
 |false=>rcases h with⟨h1,h2,h3⟩|⟨ad,c,e,q1,q2,_⟩;exact absurd h3 hne;exact⟨ad.block,ad.off,by rw[q1,<-q2]⟩
 |true=>have h:bU w (E.ok st gh w a i) (.sl sz l) (.slice G.ad l.length G.cap):=h;obtain⟨ao,cap,he,hc,hr⟩:=h.zG;cases he;obtain⟨ad,h1,hs,_⟩:=hr hne;exact⟨ad.block,ad.off,by rw[h1,<-hs]⟩
theorem H_{fz a i:Bool}{sz:Nat}{l:List (List P)}{G:Gh}(h:lF E st gh w (.arr fz a i sz l) G)(m:Nat)(hm:m<=l.length):oZ w (E.ok st gh w a i) sz (l.take m) (.slice G.ad m G.cap):=by
 refine⟨_,_,by rw[WF,vr hm],λhne=>?_⟩;have hne':l≠[]:=λe=>hne (by rw[e];simp);obtain⟨b,o,had⟩:=P_ h hne';refine⟨b,o,had,λn x hx=>?_⟩;have hx':l[n]?=some x:=by rw[ZZ]at hx;split at hx;exact hx;cases hx
 exact C_ h hx' had
theorem AZ(h:Rel E st gh val w){x:W}{v:Value}(r:eH E st gh w x v){sz:Nat}{ask:Prop}{l:List (List P)}{a i:Bool}(hr:x.rows st.o sz=some (ask,l,a,i))(ha:ask):oZ w (E.ok st gh w a i) sz l v:=by
 cases r with
 |p a' i' x v hx=>
  simp only[W.rows,Q0,QP]at hr;obtain⟨rfl,rfl,rfl,rfl⟩:=hr;cases x with
  |sl sz' l'=>
   by_cases e:l'=[]
   .subst e;obtain⟨ao,cap,he,hc,_⟩:=hx.zG;exact⟨ao,cap,he,λhne=>absurd rfl hne⟩
   .have:sz'=sz:=by rcases ha with h|h;exact h;exact absurd h e
    subst this;exact hx.ahP
  |_=>exact ha.elim
 |b_=>simp only[W.rows,Q0,QP]at hr;obtain⟨rfl,rfl,rfl,rfl⟩:=hr;exact⟨none,0,rfl,λhne=>absurd rfl hne⟩
 |own g v hv hx=>
  simp only[W.rows]at hr;split at hr
  rotate_left
  cases hr;rename_i fz a' i' sz' l' ho;split at hr
  rotate_left
  cases hr;rename_i hsz;subst hsz;simp only[Q0,QP]at hr;obtain⟨rfl,rfl,rfl,rfl⟩:=hr;have hO:=h.aW g;rw[ho]at hO;have:=H_ hO l'.length (ZD _);rw[W8]at this;rw[hx _ _ (O.jM ho)];exact this
 |vw g lo hi v hv hx=>
  simp only[W.rows]at hr;split at hr
  rotate_left
  cases hr;rename_i fz a' i' sz' l' ho;split at hr
  rotate_left
  cases hr;rename_i hsz;subst hsz;cases hr;obtain⟨n,m,vc,rfl,rfl,h1,h2,hvc,he⟩:=hx _ _ (O.jM ho);have hO:=h.aW g;rw[ho]at hO;have e1:(P.int .i64 (n:Int)).nat=n:=by simp[P.nat,P.num]
  have e2:(P.int .i64 (m:Int)).nat=m:=by simp[P.nat,P.num]
  rw[e1,e2,he];have hlen:((l'.take m).drop n).length=m-n:=by simp;omega
  refine⟨_,_,by rw[hlen],λhne=>?_⟩;have hne':l'≠[]:=λe=>hne (by rw[e];simp);have hcap:=Ny hO;have hmn:0<m-n:=by rw[<-hlen];exact vq.2 hne
  obtain⟨b,o,had⟩:=P_ hO hne';refine⟨b,o+n*sz',by rw[QR (by omega),had,W2,Addr.gX],λq x hx=>?_⟩;rw[Wb,ZZ]at hx;split at hx
  rotate_left
  cases hx;obtain⟨k1,k2⟩:=C_ hO hx had;refine⟨k1,λj y hy=>?_⟩;obtain⟨u,hu,Qa⟩:=k2 j y hy;refine⟨u,?_,Qa⟩;rw[<-hu];have:o+n*sz'+q*sz'+j=o+(n+q)*sz'+j:=by rw[Wl];omega
  rw[this]
 |_=>simp[W.rows]at hr
theorem oZ.cells{ok:Nat->Prop}{sz:Nat}{l:List (List P)}{v:Value}(h:oZ w ok sz l v):∃cs:List Value,(Builtin.firstCells sz l.length v).run Pg w=.ok cs.toArray w/\cs.length=l.length*sz/\
  (∀c∈cs,c.oneCell'=true)/\(∀x∈l,x.length=sz)/\∀(n:Nat) x,l[n]?=some x->∀(j:Nat) y,x[j]?=some y->∃u,cs[n*sz+j]?=some u/\bU w ok y u:=by
 obtain⟨ao,cap,rfl,hr⟩:=h;by_cases hne:l=[]
 .subst hne;refine⟨[],?_,by simp,by simp,by simp,by simp⟩;cases ao with
  |none=>simp[Builtin.firstCells]
  |some a=>simp[Builtin.firstCells,loadCells,loadCellsFrom]
 .obtain ⟨b,o,rfl,hrow⟩:=hr hne;have key :∀k,k<l.length*sz->∃u,w.cell? ⟨b,o+k,none⟩=some u/\u.oneCell'=true:=by
   intro k hk;have hsz:0<sz:=by rcases vB sz with e|e;(subst e;simp at hk);exact e
   have hq:k/sz<l.length:=(Nat.div_lt_iff_lt_mul hsz).2 hk;obtain⟨k1,k2⟩:=hrow (k/sz) _ (Q3 hq);have hm:k % sz<(l[k/sz]).length:=by rw[k1];exact Nat.mod_lt _ hsz
   obtain⟨u,hu,Qa⟩:=k2 (k % sz) _ (Q3 hm);refine⟨u,?_,Qa.oneCell⟩;rw[<-hu];have:o+k/sz*sz+k % sz=o+k:=by have:=Nat.div_add_mod k sz;rw[vd]at this;omega
   rw[this]
  have hcs :∀j,j<l.length*sz->w.cell? ⟨b,o+j,none⟩=((List.range (l.length*sz)).map λk=>(w.cell? ⟨b,o+k,none⟩).getD undef)[j]?:=by intro j hj;obtain⟨u,hu,_⟩:=key j hj;simp[Z3,qz hj,hu]
  refine⟨(List.range (l.length*sz)).map λk=>(w.cell? ⟨b,o+k,none⟩).getD undef,?_,by simp,λc hc=>?_,λx hx=>?_,λn x hx j y hy=>?_⟩
  .have:=lV (Pg:=Pg) (w:=w) ⟨b,o,none⟩ ((List.range (l.length*sz)).map λk=>(w.cell? ⟨b,o+k,none⟩).getD undef) (l.length*sz) 0 #[] (λj hj=>by rw[Addr.gX,V1];exact hcs j hj) (by simp)
   simp only[Builtin.firstCells,loadCells];rw[this];congr 1;rw[List.take_of_length_le (by simp)];simp
  .simp only[XN,V0]at hc;obtain⟨k,hk,rfl⟩:=hc;obtain⟨u,hu,ho⟩:=key k hk;rw[hu];exact ho
  .obtain ⟨n,hn⟩:=VS.1 hx;exact(hrow n x hn).1
  .obtain ⟨k1,k2⟩:=hrow n x hx;obtain⟨u,hu,Qa⟩:=k2 j y hy;have hlt:n*sz+j<l.length*sz:=by
    have hn:n<l.length:=(Q4.1 hx).1;have hj:j<sz:=by have:=(Q4.1 hy).1;omega
    have:(n+1)*sz<=l.length*sz:=Zs _ hn;rw[Wl,Kk]at this;omega
   exact⟨u,by rw[<-hcs _ hlt,<-JP];exact hu,Qa⟩
theorem foldl_push(ns:List Int):∀(s:ByteArray),ns.foldl (λr n=>r.push (UInt8.ofNat n.toNat)) s=⟨(s.data.toList++ns.map λn=>UInt8.ofNat n.toNat).toArray⟩:=by
 induction ns with
 |nil=>intro s;simp
 |cons n ns ih=>intro s;rw[Ka,ih];congr 1;simp[ByteArray.push]
theorem oZ.bytes{ok:Nat->Prop}{l:List (List P)}{v:Value}(h:oZ w ok 1 l v)(hb:isBytes l):
  ∃ao len cap,v=.slice ao len cap/\(Conv.bytesToString (.slice ao len cap)).run Pg w=.ok (.string ⟨(l.map λr=>UInt8.ofNat ((r.getD 0 default).num.toNat)).toArray⟩) w:=by
 obtain⟨cs,h1,h2,h3,h4,h5⟩:=h.cells (Pg:=Pg);obtain⟨ao,cap,rfl,hr⟩:=h;refine⟨ao,_,cap,rfl,?_⟩;cases ao with
 |none=>
  have:l=[]:=by rcases l with _|⟨x,l⟩;rfl;obtain⟨b,o,hc,_⟩:=hr (by simp);cases hc
  subst this;rfl
 |some a=>
  have hcs:cs=(l.map λr=>(r.getD 0 default).num).map (Value.int .u8):=by
   apply qn;intro n;rw[Uv,Z3];cases hx:l[n]? with
   |none=>have:l.length<=n:=List.getElem?_eq_none_iff.1 hx;rw[Kl,List.getElem?_eq_none_iff];omega
   |some x=>
    obtain⟨k,rfl⟩:=hb x (Ys hx);obtain⟨u,hu,Qa⟩:=h5 n _ hx 0 (.int .u8 k) rfl;have e:n*1+0=n:=by omega
    rw[e]at hu;rw[hu,Qa.dR];rfl
  have hl:(loadCells a l.length).run Pg w=.ok ((l.map λr=>(r.getD 0 default).num).map (Value.int .u8)).toArray w:=by rw[<-hcs];simpa[Builtin.firstCells]using h1
  rw[run_bytesToString w a l.length cap _ hl,foldl_push];simp
theorem Qb{ok1 ok2 ok:Nat->Prop}{sz:Nat}{l1 l2:List (List P)}{c1 c2:List Value}(hl1:c1.length=l1.length*sz)
  (h1 :∀(n:Nat) x,l1[n]?=some x->∀(j:Nat) y,x[j]?=some y->∃u,c1[n*sz+j]?=some u/\bU w ok1 y u) (h2 :∀(n:Nat) x,l2[n]?=some x->∀(j:Nat) y,x[j]?=some y->∃u,c2[n*sz+j]?=some u/\bU w ok2 y u)
  (k1 :∀b,ok1 b->ok b) (k2 :∀b,ok2 b->ok b) (hlen :∀x∈l1,x.length=sz) :
  ∀(n:Nat) x,(l1++l2)[n]?=some x->∀(j:Nat) y,x[j]?=some y->∃u,(c1++c2)[n*sz+j]?=some u/\bU w ok y u:=by
 intro n x hx j y hy;rw[K9]at hx;split at hx
 .rename_i hn;obtain⟨u,hu,hr⟩:=h1 n x hx j y hy;have hlt:=(Q4.1 hu).1;exact⟨u,by rw[Wt hlt];exact hu,hr.mono λb hb=>⟨k1 b hb,rfl⟩⟩
 .rename_i hn;obtain⟨u,hu,hr⟩:=h2 _ x hx j y hy;refine⟨u,?_,hr.mono λb hb=>⟨k2 b hb,rfl⟩⟩;have e:n*sz+j=c1.length+((n-l1.length)*sz+j):=by
   rw[hl1];have:n*sz=l1.length*sz+(n-l1.length)*sz:=by rw[<-Wl];congr 1;omega
   omega
  rw[e,Wg (by omega),qD];exact hu
theorem jT{ts:Array TypeId}{ty sT xT e e':TypeId}{ie:TI}(h0:ts[0]?=some sT)(h1:ts[1]?=some xT)(hs:Pg.underlying sT=some (.slice e))(hx:Pg.underlying xT=some (.slice e'))(he:oW Pg e ie)
  {base:Option Addr} {sLen sCap:Nat} {ao:Option Addr} {n cap:Nat} {c2:Array Value} (hc:(Builtin.firstCells ie.size n (.slice ao n cap)).run Pg w=.ok c2 w) (qL:sLen+n<=sCap)
  (hst :∀a,base=some a->(storeCells (a.add (sLen*ie.size)) c2.toList).run Pg w=.ok () w') (hn:base=none->w'=w) :
  (Builtin.append_ ts ty #[.slice base sLen sCap,.slice ao n cap]).run Pg w=.ok (.slice base (sLen+n) sCap) w':=by
 unfold Builtin.append_;simp only[h0,h1,Sem.run_bind,dN hs,dN hx,dL he,Result.andThen_ok,Builtin.lenOf,K4,J2,VV,Sem.run_pure,Wa,if_false,Qt qL,vR,if_true,hc];cases base with
 |none=>rw[hn rfl];simp
 |some a=>simp[hst a rfl]
theorem qg{ts:Array TypeId}{ty sT xT e e':TypeId}{ie:TI}(h0:ts[0]?=some sT)(h1:ts[1]?=some xT)(hs:Pg.underlying sT=some (.slice e))(hx:Pg.underlying xT=some (.slice e'))(he:oW Pg e ie)
  {base:Option Addr} {sLen sCap:Nat} {ao:Option Addr} {n cap:Nat} {c1 c2:Array Value} (hc2:(Builtin.firstCells ie.size n (.slice ao n cap)).run Pg { w with drawn:=w.drawn+1 }=.ok c2 { w with drawn:=w.drawn+1 })
  (hc1:(Builtin.firstCells ie.size sLen (.slice base sLen sCap)).run Pg { w with drawn:=w.drawn+1 }=.ok c1 { w with drawn:=w.drawn+1 }) (qL:¬ sLen+n<=sCap) (hb:(sLen+n)*ie.bytes<=140737488355328) (hb0:ie.bytes≠0) :
  ∃(rest:Array Value) (newCap:Nat),(sLen+n<=newCap/\newCap<=9223372036854775807)/\rest.size=(newCap-(sLen+n))*ie.size/\
  (Builtin.append_ ts ty #[.slice base sLen sCap,.slice ao n cap]).run Pg w=.ok (.slice (some ⟨w.heap.size,0,none⟩) (sLen+n) newCap) { w with drawn:=w.drawn+1,heap:=w.heap.push (.cells (c1++c2++rest) e) }:=by
 have aek:sLen+n<=140737488355328:=J0 (Nat.le_mul_of_pos_right _ (Nat.pos_of_ne_zero hb0)) hb;obtain⟨xi,z,g1,g2,g3,g4,g5,g6⟩:=he.info;have hcap:sLen+n<=grownCap w (sLen+n) sCap e:=by unfold grownCap Question.cut;exact Nat.le_add_right _ _
 have hzs:z.cells.size=ie.size:=by rw[<-he.len,<-g5];simp
 refine⟨Builtin.zeroCells z.cells (grownCap w (sLen+n) sCap e-(sLen+n)),grownCap w (sLen+n) sCap e,⟨hcap,grownCap_le_maxLen w _ _ e (J0 aek (by decide))⟩,by simp[Builtin.zeroCells,hzs],?_⟩;have hfit:=growslice_fits (bytes:=ie.bytes) (Nat.lt_of_not_le qL) hb;have n1:¬ (((sLen+n:Nat):Int)>IntKind.i64.max/\(False\/ie.bytes=0)):=by rintro ⟨_,h|h⟩;exact h;exact hb0 h
 have n2:¬ (Builtin.nextslicecap (sLen+n) sCap*ie.bytes>2 ^ 48):=by have:(2:Nat) ^ 48=281474976710656:=rfl;omega
 have hti :∀u:World,(typeInfo e).run Pg u=.ok xi u:=λu=>rH g1;unfold Builtin.append_;simp only[h0,h1,Sem.run_bind,dN hs,dN hx,dL he,Result.andThen_ok,Builtin.lenOf,K4,J2,VV,Sem.run_pure,Wa,if_false,QR qL,vR,if_true];simp only[hti,Result.andThen_ok,g3];rw[QR n1];simp only[hti,Result.andThen_ok,g3,Sem.run_bind];rw[QR n2];simp only[Sem.run_bind,run_choose,Question.forced,Wa,if_false,Result.andThen_ok,run_askRoom,hc1,hc2,zeroValue,Sem.run_bind,hti,g4,Sem.run_pure,newRow,run_newObj];rfl
theorem Rel.Di{st:St}{gh:Nat->Gh}{w:World}(n:Nat):Lets E st st gh gh w { w with drawn:=n }:=⟨λa i b hb=>⟨hb,rfl⟩,λg _=>.inr ⟨⟨rfl,rfl⟩,O.eU _⟩⟩
theorem yZ(st:St)(g d:Nat)(x:O)(hgd:g≠d):(st.aB [(g,.none)] []).aB [(d,x)] [d]=st.aB [(g,.none),(d,x)] [d]:=by
 unfold St.aB;congr 1
 .funext g';by_cases e1:g'=g
  .subst e1;have:(g'==d)=false:=by simpa using hgd
   simp[List.lookup,this]
  .have h1:(g'==g)=false:=by simpa using e1
   by_cases e2:g'=d
   .subst e2;simp[List.lookup,h1]
   .have h2:(g'==d)=false:=by simpa using e2
    simp[List.lookup,h1,h2]
theorem wY(sz n:Nat)(a:Option Addr)(l c c':Nat):Builtin.firstCells sz n (.slice a l c)=Builtin.firstCells sz n (.slice a l c'):=by cases a<;>rfl
theorem EF(h:Rel E st gh val w){d g:Nat}(hd:st.used d=false){a i a' i':Bool}{sz:Nat}{l new:List (List P)}(hog:st.o g=.arr false a i sz l)(m:Nat)(hm:m<=l.length){vx:Value}(hx:oZ w (E.ok st gh w a' i') sz new vx)
  {ts:Array TypeId} {ty sT xT e e':TypeId} {ie:TI} (h0:ts[0]?=some sT) (h1:ts[1]?=some xT) (hs:Pg.underlying sT=some (.slice e)) (hxt:Pg.underlying xT=some (.slice e')) (he:oW Pg e ie) (hsz:sz=ie.size)
  (hb:(m+new.length)*ie.bytes<=140737488355328) (hb0:ie.bytes≠0) {bc:Nat} (hbc:m<=bc/\bc<=(gh g).cap) :
  ∃v w' bG,(Builtin.append_ ts ty #[.slice (gh g).ad m bc,vx]).run Pg w=.ok v w'/\Rel E (st.aB [(g,.none),(d,.arr false (a||a') (i||i') sz (l.take m++new))] [d]) bG val w'/\
   Lets E st (st.aB [(g,.none),(d,.arr false (a||a') (i||i') sz (l.take m++new))] [d]) gh bG w w'/\v=.slice (bG d).ad (l.take m++new).length (bG d).cap:=by
 subst hsz;have hO:iw E st gh w a i ie.size l (gh g):=by have:=h.aW g;rw[hog]at this;exact this
 have hgd:g≠d:=by intro e;subst e;rw[h.ul g (by rw[hog];simp)]at hd;cases hd
 have hlen:(l.take m++new).length=m+new.length:=by simp;omega
 obtain⟨ao,cap,rfl,hnew⟩:=hx;have hx:oZ w (E.ok st gh w a' i') ie.size new (.slice ao new.length cap):=⟨ao,cap,rfl,hnew⟩;by_cases qL:m+new.length<=bc
 .obtain ⟨c2,hc2,hl2,ho2,hr2,hcell2⟩:=hx.cells (Pg:=Pg);rcases hO with⟨z1,z2,z3⟩|⟨ad,c,e0,z1,z2,z3,z4,z5,z6,z7⟩
  .subst z3;have hm0:m=0:=by simpa using hm
   subst hm0;have hn0:new=[]:=Vv (by omega);subst hn0;have ahQ:bc=0:=by omega
   subst ahQ;have Ia:=h.kill g;have hmk:=Rel.PK Ia.1 d (by simpa[St.aB]using hd) (a||a') (i||i') ie.size;rw[yZ st g d _ hgd]at hmk;refine⟨_,w,_,jT h0 h1 hs hxt he (by simpa using hc2) (by simp) (λa ha=>by rw[z1]at ha;cases ha) (λ_=>rfl),by simpa using hmk.1,
    by simpa using Lets.trans Ia.2 hmk.2 (λg hg=>by simpa[St.aB]using hg),by simp[eG,Gh.nil,z1]⟩
  .have aoh:m*ie.size+new.length*ie.size<=(gh g).cap*ie.size:=by rw[<-Wl];exact Zs _ (J0 qL hbc.2)
   have hbz:bc*ie.size<=(gh g).cap*ie.size:=Zs _ hbc.2;obtain⟨b0,o0,sp0⟩:=ad;simp only at z2 z3 z4 z7;subst z2;obtain⟨w',c',s1,s2,s3,s4,s5,s6,s7,s8⟩:=lT (Pg:=Pg) b0 (o0+m*ie.size) e0 c2 0 w c z3 ho2 (by omega);have AY:c'.size=c.size:=by have:=ZS List.length s3;rw[dS (by simp;omega)]at this;simpa using this
   have hsh:=Rel.shift h g d hd ⟨b0,o0,none⟩ (by rw[hog];rfl) z1 (.arr false (a||a') (i||i') ie.size (l.take m++new)) ⟨some ⟨b0,o0,none⟩,bc,λ_=>none⟩ rfl (λb hb=>by cases hb) (λ_ _ _=>rfl) w' s4 s5 s6 s7 s8
    (λi1 b e1 hb hwr=>by
     cases e1;rcases hb with⟨ad',q1,q2⟩|q1
     .cases q1;subst q2;simp[h.wi g i b0 (by rw[hog];rfl) (Gh.jC z1) hwr]
     .cases q1) (λhlets=>by
     refine .inr ⟨⟨b0,o0,none⟩,c',e0,rfl,rfl,s2,by rw[AY];simp only;omega,⟨by rw[hlen];exact qL,by simp only;have:=z5.2;omega⟩,λx hx=>?_,λn x hx j y hy=>?_⟩
     .rcases QQ.1 hx with hx|hx
      .exact z6 x (W6 hx)
      .exact hr2 x hx
     .have hget:c'[o0+n*ie.size+j]?=(aJ c.toList (o0+m*ie.size) c2)[o0+n*ie.size+j]?:=by rw[<-J1,s3,Uq]
      rw[eF (by simp;omega)]at hget;rw[K9]at hx;split at hx
      .rename_i hn;have hnm:n<m:=by simp at hn;omega
       rw[ZZ,Qt hnm]at hx;obtain⟨v,hv,hvr⟩:=z7 n x hx j y hy;have hj:j<ie.size:=by have:=(Q4.1 hy).1;have:=z6 x (Ys hx);omega
       have:(n+1)*ie.size<=m*ie.size:=Zs _ hnm;rw[Wl,Kk]at this;rw[QR (by omega)]at hget;exact⟨v,by rw[hget];simpa using hv,(hlets.kD hvr).mono λb hb=>⟨Env.oH (by simp;exact λh=>.inl h) (by simp;exact λh=>.inl h) hb,rfl⟩⟩
      .rename_i hn;have hlm:(l.take m).length=m:=by simp;omega
       rw[hlm]at hx hn;obtain⟨u,hu,hur⟩:=hcell2 _ x hx j y hy;have Ue:=(Q4.1 hu).1;have hnm:n*ie.size=m*ie.size+(n-m)*ie.size:=by rw[<-Wl];congr 1;omega
       rw[Qt (by omega)]at hget;have e1:o0+n*ie.size+j-(o0+m*ie.size)=(n-m)*ie.size+j:=by omega
       rw[e1]at hget;exact⟨u,by rw[hget];exact hu,(hlets.kD hur).mono λb hb=>⟨Env.oH (by simp;exact λh=>.inr h) (by simp;exact λh=>.inr h) hb,rfl⟩⟩) (λg' hg'=>by simp[O.names]at hg')
   refine⟨_,w',_,jT h0 h1 hs hxt he hc2 qL (λa ha=>?_) (λhn=>by rw[z1]at hn;cases hn),hsh.1,hsh.2,by rw[hlen];simp[eG,z1]⟩;rw[z1]at ha;cases ha;rw[Addr.gX];simpa using s1
 .have hd1:=h.drew (w.drawn+1);have hl1:Lets E st st gh gh w { w with drawn:=w.drawn+1 }:=Rel.Di _;have hO1:lF E st gh { w with drawn:=w.drawn+1 } (.arr false a i ie.size l) (gh g):=by have:=hd1.aW g;rw[hog]at this;exact this
  obtain⟨c1,hc1,aar,ho1,hr1,hcell1⟩:=(H_ hO1 m hm).cells (Pg:=Pg);rw[wY _ _ _ _ _ bc]at hc1;have hx1:oZ { w with drawn:=w.drawn+1 } (E.ok st gh { w with drawn:=w.drawn+1 } a' i') ie.size new (.slice ao new.length cap):=⟨ao,cap,rfl,λhne=>let ⟨b,o,e1,e2⟩:=hnew hne;⟨b,o,e1,λn x hx=>⟨(e2 n x hx).1,λj y hy=>let ⟨u,hu,Qa⟩:=(e2 n x hx).2 j y hy;⟨u,hu,hl1.kD Qa⟩⟩⟩⟩
  obtain⟨c2,hc2,hl2,ho2,hr2,hcell2⟩:=hx1.cells (Pg:=Pg);have hlm:(l.take m).length=m:=by simp;omega
  rw[hlm]at hc1 aar;obtain⟨rest,newCap,k1,k2,k3⟩:=qg (ty:=ty) h0 h1 hs hxt he hc2 hc1 qL hb hb0;have Ia:=hd1.kill g;have hrows:=Qb (w:={ w with drawn:=w.drawn+1 }) (ok1:=E.ok (st.aB [(g,.none)] []) gh { w with drawn:=w.drawn+1 } a i) (ok2:=E.ok (st.aB [(g,.none)] []) gh { w with drawn:=w.drawn+1 } a' i')
   (ok:=E.ok (st.aB [(g,.none)] []) gh { w with drawn:=w.drawn+1 } (a||a') (i||i')) (sz:=ie.size) (l1:=l.take m) (l2:=new) (c1:=c1) (c2:=c2) (by rw[hlm];exact aar)
   (λn x hx j y hy=>let ⟨u,hu,hr⟩:=hcell1 n x hx j y hy;⟨u,hu,Ia.2.kD hr⟩) (λn x hx j y hy=>let ⟨u,hu,hr⟩:=hcell2 n x hx j y hy;⟨u,hu,Ia.2.kD hr⟩)
   (λb hb=>Env.oH (by simp;exact λh=>.inl h) (by simp;exact λh=>.inl h) hb) (λb hb=>Env.oH (by simp;exact λh=>.inr h) (by simp;exact λh=>.inr h) hb) hr1
  obtain⟨bG,m1,m2,m3,m4⟩:=AX Ia.1 d (by simpa[St.aB]using hd) (a||a') (i||i') ie.size (l.take m++new) (c1.toArray++c2.toArray++rest) e newCap (by rw[hlen];exact k1) (by
    simp only[za,qq,aar,hl2,k2];rw[<-Wl,<-Wl];exact Zs _ (by omega)) (λx hx=>by
    rcases QQ.1 hx with hx|hx
    .exact hr1 x hx
    .exact hr2 x hx) (λn x hx j y hy=>by
    obtain⟨u,hu,hr⟩:=hrows n x hx j y hy;refine⟨u,?_,hr⟩;have hlt:=(Q4.1 hu).1;rw[K1 (by simpa using hlt)];rw[List.append_toArray,K4];exact hu)
  rw[yZ st g d _ hgd]at m1 m2 m4;refine⟨_,_,bG,k3,m1,Lets.trans (Lets.trans hl1 Ia.2 (λg hg=>hg)) m2 (λg hg=>by simpa[St.aB]using hg),by rw[m3,hlen]⟩
theorem NI(htt:iC Pg tt)(args:Array Operand)(ts:Array TypeId):fB Pg tt (.call { callee:=.builtin .append,args:=args,argTypes:=ts }):=by
 intro E st gh val w ρ F o d r ho h hF hFn hk hp hd;simp only[kernel]at hk;split at hk
 rotate_left
 cases hk;rename_i s x sT xT tl ha hts;obtain rfl:=uJ ha;have h0:ts[0]?=some sT:=by rw[<-J1,hts];rfl
 have h1:ts[1]?=some xT:=by rw[<-J1,hts];rfl
 split at hk
 rotate_left
 cases hk;rename_i e' _ _ _ s' x' hxt hs hx;have rs:=hF s;rw[hs]at rs;have rx:=hF x;rw[hx]at rx;have huX:=(htt _ _ hxt).kind;simp only[oG]at huX;unfold uH at hk;split at hk
 rotate_left
 cases hk;rename_i e _ _ _ hsT;have huS:=(htt _ _ hsT).kind;simp only[oG]at huS;split at hk
 rotate_left
 cases hk;rename_i ie he;split at hk;cases hk;rename_i hb0;split at hk;cases hk;rename_i ask new a' i' hrows;have hfin :∀(v:Value) (w':World) (bG:Nat->Gh) (a i:Bool) (old:List (List P)) (kill:List (Nat×O)),(Builtin.append_ ts o.type #[ρ s,ρ x]).run Pg w=.ok v w'->
   Rel E (st.aB (kill++[(d,.arr false (a||a') (i||i') ie.size (old++new))]) [d]) bG val w'->Lets E st (st.aB (kill++[(d,.arr false (a||a') (i||i') ie.size (old++new))]) [d]) gh bG w w'->
   ((st.aB (kill++[(d,.arr false (a||a') (i||i') ie.size (old++new))]) [d]).o d=.arr false (a||a') (i||i') ie.size (old++new))->v=.slice (bG d).ad (old++new).length (bG d).cap->
   ∃v w' bG,Does Pg (execOp ρ o) w v w'/\Rel E (st.aB (kill++[(d,.arr false (a||a') (i||i') ie.size (old++new))]) [d]) bG val w'/\Lets E st (st.aB (kill++[(d,.arr false (a||a') (i||i') ie.size (old++new))]) [d]) gh bG w w'/\
    dn E (st.aB (kill++[(d,.arr false (a||a') (i||i') ie.size (old++new))]) [d]) bG w' (.v (.one (.own d))) v/\
    ∀g∈(S.v (.one (.own d))).names,(st.aB (kill++[(d,.arr false (a||a') (i||i') ie.size (old++new))]) [d]).used g=true:=by
  intro v w' bG a i old kill hr h2 h3 hod hv;refine⟨v,w',bG,.inl (jK ho ?_),h2,h3,dn.Gu (.own d v (by rw[hv];rfl) λsz1 len1 ho1=>?_),λg hg=>?_⟩
  .simp [builtin,hr]
  .rw [hod]at ho1;obtain⟨_,rfl⟩:=O.jJ ho1;exact hv
  .rw [dG]at hg;simp only[W.names,Q6]at hg;subst hg;simp[St.aB]
 simp only at hk;split at hk
 .cases hk;obtain⟨hask,_,hb⟩:=hp;have hX:=AZ h rx.dB hrows hask;have Gw:st.used d=false:=hd d (by simp);have hv:ρ s=.slice none 0 0:=by generalize hz:ρ s=z at rs;cases rs.dB;rfl
  by_cases hn:new=[]
  .subst hn;obtain⟨ao,cap,hvx,_⟩:=hX;have hX:oZ w (E.ok st gh w a' i') ie.size [] (ρ x):=⟨ao,cap,hvx,λhne=>absurd rfl hne⟩;obtain⟨c2,hc2,hl2,ho2,hr2,hcell2⟩:=hX.cells (Pg:=Pg);have aoi:c2=[]:=Vv (by simpa using hl2);subst aoi;have hmk:=Rel.PK h d Gw (false||a') (false||i') ie.size;refine hfin (.slice none (0+0) 0) w _ false false [] [] ?_ (by simpa using hmk.1) (by simpa using hmk.2) (by simp[St.aB,List.lookup]) (by simp[eG,Gh.nil]);rw[hv,hvx];rw[hvx]at hc2;exact jT h0 h1 huS huX (htt _ _ he) (by simpa using hc2) (by simp) (λa ha=>by cases ha) (λ_=>rfl)
  .obtain ⟨ao,cap,hvx,hnew⟩:=hX;have hl1:Lets E st st gh gh w { w with drawn:=w.drawn+1 }:=Rel.Di _;have hd1:=h.drew (w.drawn+1);have hx1:oZ { w with drawn:=w.drawn+1 } (E.ok st gh { w with drawn:=w.drawn+1 } a' i') ie.size new (.slice ao new.length cap):=⟨ao,cap,rfl,λhne=>let ⟨b,o,e1,e2⟩:=hnew hne;⟨b,o,e1,λn x hx=>⟨(e2 n x hx).1,λj y hy=>let ⟨u,hu,Qa⟩:=(e2 n x hx).2 j y hy;⟨u,hu,hl1.kD Qa⟩⟩⟩⟩
   obtain⟨c2,hc2,hl2,ho2,hr2,hcell2⟩:=hx1.cells (Pg:=Pg);have hpos:0<new.length:=vq.2 hn;obtain⟨rest,newCap,k1,k2,k3⟩:=qg (w:=w) (ts:=ts) (ty:=o.type) h0 h1 huS huX (htt _ _ he) (base:=none) (sLen:=0) (sCap:=0) (c1:=#[]) hc2 (by simp[Builtin.firstCells]) (by omega) (by simpa using hb) hb0;obtain⟨bG,m1,m2,m3,m4⟩:=AX hd1 d Gw (false||a') (false||i') ie.size ([]++new) (#[]++c2.toArray++rest) e newCap (by simpa using k1) (by
     simp only[za,qq,hl2,k2,qq,Km,V1];rw[<-Wl];exact Zs _ (by omega)) (λx hx=>hr2 x (by simpa using hx)) (λn x hx j y hy=>by
     obtain⟨u,hu,hr⟩:=hcell2 n x (by simpa using hx) j y hy;have hlt:=(Q4.1 hu).1;refine⟨u,?_,by simpa using hr⟩;rw[K1 (by simpa using hlt)];simpa using hu)
   refine hfin _ _ bG false false [] [] (by rw[hv,hvx];exact k3) (by simpa using m1) (Lets.trans hl1 (by simpa using m2) (λg hg=>hg)) (by simpa using m4) (by rw[m3];simp)
 .rename_i g;split at hk
  rotate_left
  cases hk;rename_i a i sz l hog;split at hk
  rotate_left
  cases hk;rename_i hc;cases hk;obtain⟨hask,_,hb⟩:=hp;have hX:=AZ h rx.dB hrows hask;have Gw:st.used d=false:=hd d (by simp);have hv:=(by cases rs.dB with|own _ _ _ hb=>exact hb _ _ (O.jM hog):ρ s=.slice (gh g).ad l.length (gh g).cap);obtain⟨v,w',bG,q1,q2,q3,q4⟩:=EF (ty:=o.type) h Gw hog l.length (ZD _) (by rw[hc.1];exact hX) h0 h1 huS huX (htt _ _ he) hc.1 hb hb0 (bc:=(gh g).cap) ⟨(uK (h.aW g) (O.jM hog)).1,ZD _⟩;rw[W8,hc.1]at q2 q3;rw[W8]at q4;have hgd:(d==g)=false:=by simpa using (λe:d=g=>hc.2 e.symm)
  exact hfin v w' bG a i l [(g,.none)] (by rw[hv];exact q1) q2 q3 (by simp[St.aB,List.lookup,hgd]) q4
 .rename_i g lo hi;split at hk
  rotate_left
  cases hk;rename_i a i sz l hog;split at hk
  rotate_left
  cases hk;rename_i hc;cases hk;obtain⟨hask,hlo,hb⟩:=hp;have hX:=AZ h rx.dB hrows hask;have Gw:st.used d=false:=hd d (by simp);obtain⟨n,m,vc,h4,rfl,h5,h6,hvc,hv⟩:=(by cases rs.dB with|vw _ _ _ _ _ hb=>exact hb _ _ (O.jM hog) :∃n m c:Nat,lo=.int .i64 n/\hi=.int .i64 m/\n<=m/\m<=l.length/\(m-n<=c/\n+c<=(gh g).cap)/\
   ρ s=.slice (if(gh g).cap=n then(gh g).ad else(gh g).ad.map (·.add (n*sz))) (m-n) c)
  have hn0:n=0:=by rw[hlo]at h4;simp[kE]at h4;omega
  subst hn0;have hadd:(gh g).ad.map (·.add (0*sz))=(gh g).ad:=by
   cases (gh g).ad with
   |none=>rfl
   |some a=>simp[Addr.add]
  rw[hadd]at hv;simp only[ite_self,Nat.sub_zero]at hv;have e2:(P.int .i64 (m:Int)).nat=m:=by simp[P.nat,P.num]
  rw[e2]at hb ⊢;have hb':(m+new.length)*ie.bytes<=140737488355328:=by rw[WF,vr h6]at hb;exact hb
  obtain⟨v,w',bG,q1,q2,q3,q4⟩:=EF (ty:=o.type) h Gw hog m h6 (by rw[hc.1];exact hX) h0 h1 huS huX (htt _ _ he) hc.1 hb' hb0 (bc:=vc) (by omega);rw[hc.1]at q2 q3;have hgd:(d==g)=false:=by simpa using (λe:d=g=>hc.2 e.symm)
  exact hfin v w' bG a i (l.take m) [(g,.none)] (by rw[hv];exact q1) q2 q3 (by simp[St.aB,List.lookup,hgd]) q4
 .cases hk
theorem wZ{α:Type}{x:α}{ws:List α}:∀{n:Nat},x∈fZ ws n->x∈ws
 |0,h=>by simp[fZ]at h
 |n+1,h=>by
  simp only[fZ,QQ]at h;rcases h with h|h
  .exact h
  .exact wZ h
theorem ael{z:Array Value}{zs:List Value}(hz:z.toList=zs)(n:Nat)(h0:0<zs.length):Builtin.zeroCells z n=(fZ zs n).toArray:=by
 have:=mW hz n h0;have hsz:z.size=zs.length:=by rw[<-hz];simp
 unfold Builtin.zeroCells;rw[hsz];rw[hsz]at this;exact this
theorem Kw{Pg:Program}{tt:TT}(htt:iC Pg tt)(s t:TypeId)(x:Operand):fB Pg tt (.convert s t x):=by
 intro E st gh val w ρ F o d r ho h hF hFn hk hp hd;simp only[kernel]at hk;split at hk
 .rename_i k1 _ _ _ k2 _ _ _ a i x' hs ht hx;cases hk;have rx:=hF x;rw[hx]at rx;have rx:=rx.eX;have us:=(htt _ _ hs).kind;have ut:=(htt _ _ ht).kind;simp only[oG]at us ut;cases x' with
  |int k n=>
   have e:=rx.dR;have hr:(convert s t (ρ x)).run Pg w=.ok (.int k2 (k2.wrap n)) w:=by rw[e];simp[convert,dN us,dN ut,Conv.intToInt]
   exact fM (tt:=tt) h (by unfold execOp;rw[ho];exact fQ hr) λok=>.int _ _
  |_=>exact hp.elim
 .rename_i e _ _ _ _ _ _ x' hs ht hx;split at hk
  rotate_left
  cases hk;rename_i _ _ _ he;split at hk
  rotate_left
  cases hk;rename_i ask l a1 i1 hr;cases hk;obtain⟨hask,hby⟩:=hp;have rx:=hF x;rw[hx]at rx;have hX:=AZ h rx.dB hr hask;have us:=(htt _ _ hs).kind;have ut:=(htt _ _ ht).kind;have ue:=(htt _ _ he).kind;simp only[oG]at us ut ue;obtain⟨ao,len,cap,hv,hcells⟩:=hX.bytes (Pg:=Pg) hby;have hr:(convert s t (ρ x)).run Pg w=.ok (.string ⟨(l.map λr=>UInt8.ofNat ((r.getD 0 default).num.toNat)).toArray⟩) w:=by rw[hv,run_convert_bytes_string w s t e ao len cap us ue ut];exact hcells
  exact fM (tt:=tt) h (by unfold execOp;rw[ho];exact fQ hr) λok=>.str _
 .rename_i e _ _ _ _ _ x' hs ht hx;split at hk
  rotate_left
  cases hk;rename_i _ _ _ he;cases hk;have rx:=hF x;rw[hx]at rx;have us:=(htt _ _ hs).kind;have ut:=(htt _ _ ht).kind;have ue:=(htt _ _ he).kind;simp only[oG]at us ut ue;cases x' with
  |str bs=>
   have hv:ρ x=.string bs:=by have:=rx.eX;generalize ρ x=z at this;cases this;rfl
   have hr:(convert s t (ρ x)).run Pg w=.ok (.slice (some ⟨w.heap.size,0,none⟩) bs.size (grownCap w bs.size 0 e)) (Lib.bytesWorld w e bs):=by rw[hv];exact Lib.run_convert_string_bytes w s t e bs us ut ue
   have hrel:=h.fresh (Lib.bytesWorld w e bs) (Lib.bytesWorld_at_old w e bs) (by rw[Lib.bytesWorld_size];omega) rfl rfl rfl;have hl:bs.data.toList.length=bs.size:=rfl;refine⟨_,_,gh,.inl (by unfold execOp;rw[ho];exact fQ hr),hrel.1,hrel.2,dn.ofP ?_,λg hg=>by simp[Et.calc,scalar,S.names,V.names,W.names]at hg⟩;show bU _ _ (P.fG 1 (bs.data.toList.map λb=>[P.int .u8 b.toNat])) _;have hsz:bs.size=(bs.data.toList.map λb=>[P.int .u8 (b.toNat:Int)]).length:=by rw[W5];rfl
   have key:=bU.sl (w:=Lib.bytesWorld w e bs) (ok:=E.ok st gh (Lib.bytesWorld w e bs) false false) 1 (bs.data.toList.map λb=>[P.int .u8 (b.toNat:Int)]) ⟨w.heap.size,0,none⟩ (grownCap w bs.size 0 e)
    (λi _=>.int .u8 (bs.data.toList.getD i 0).toNat) rfl (λ_=>⟨.inr (.inr (.inl h.size)),by rw[Lib.bytesWorld_size];exact Nat.lt_succ_self _,λg ho hb=>KB _ (h.wr g _ ho hb).2⟩) (by rw[<-hsz];exact grownCap_ge _ _ _ _) (λx hx=>by
     obtain⟨b,_,rfl⟩:=XN.1 hx;rfl) (λi x hx j y hy=>by
     have hi:i<bs.size:=by have:=(Q4.1 hx).1;simpa using this
     have hj:j=0:=by
      simp only[Z3,W7]at hx;obtain⟨b,_,rfl⟩:=hx;cases j with
      |zero=>rfl
      |succ j=>simp at hy
     subst hj;have:=Lib.bytesWorld_cell w e bs i hi;simpa using this) (λi x hx j y hy=>by
     simp only[Z3,W7]at hx;obtain⟨b,hb,rfl⟩:=hx;cases j with
     |zero=>
      simp only[J2,Q0]at hy;subst hy;have:bs.data.toList.getD i 0=b:=by rw[Q2,hb];rfl
      rw[this];exact .int _ _
     |succ j=>simp at hy)
   rw[<-hsz]at key;exact bU.fG key
  |_=>exact hp.elim
 .cases hk
theorem NJ(htt:iC Pg tt)(op:Op):fB Pg tt op:=by
 cases op with
 |move x=>exact Ub x
 |assign x=>exact Nv x
 |pick c a b=>exact Uc c a b
 |alloc t=>exact P6 htt t
 |box t x=>exact Yr htt t x
 |build t ps=>exact P8 htt t ps
 |buildSlice t n ps=>exact Dh htt t n ps
 |load t x=>exact Ud htt t x
 |store t x y=>exact P9 htt t x y
 |nilCheck x=>exact Hy x
 |binOp op t x y u=>exact Yl htt op t x y u
 |unOp op t x=>exact aan op t x
 |convert s t x=>exact Kw htt s t x
 |makeSlice t n c=>exact Gl htt t n c
 |slice t x lo hi mx=>
  cases mx with
  |none=>exact PZ htt t x lo hi
  |some m=>cases lo with
   |some l=>intro E st gh val w ρ F o d r ho h hF hFn hk;simp[kernel]at hk
   |none=>cases hi with
    |none=>intro E st gh val w ρ F o d r ho h hF hFn hk;simp[kernel]at hk
    |some hi=>exact Nz htt t x hi m
 |fieldAddr t x n=>exact Gi htt t x n
 |field t x n=>exact PY htt t x n
 |indexAddr t x ix=>exact Gj htt t x ix
 |index t x ix=>exact PO htt t x ix
 |range t x=>exact P7 htt t x
 |extract t n=>exact Kv t n
 |makeFunc fn first caps=>
  cases fn with
  |func g=>exact H6 g first caps
  |_=>intro E st gh val w ρ F o d r ho h hF hFn hk;simp[kernel]at hk
 |call c=>
  obtain⟨callee,args,ts⟩:=c;cases callee with
  |builtin b=>
   cases b with
   |append=>exact NI htt args ts
   |len=>exact Yn htt args ts
   |min=>exact Yo args ts
   |max=>exact Yp args ts
   |_=>intro E st gh val w ρ F o d r ho h hF hFn hk;simp[kernel]at hk
  |_=>intro E st gh val w ρ F o d r ho h hF hFn hk;simp[kernel]at hk
 |_=>intro E st gh val w ρ F o d r ho h hF hFn hk;simp[kernel]at hk
end
end Go.Fw

namespace Go.Fw
variable [dV]
def jS(o:Nat->O)(g:Nat):List (Nat×O):=match o g with
 |.aF a i sz ah l (some (n,c,d))=>match o d with
  |.arr false a' i' sz' l'=>if ah.lookup c=some sz'/\c<sz then[(g,.aF (a||a') (i||i') sz ah (iR l n c (P.fG sz' l')) none),(d,.none)]else[]
  |_=>[]
 |_=>[]
section
variable {E:Env} {st st':St} {gh bG:Nat->Gh} {w w':World} {val:Nat->Value}
theorem bU.cls{a i a' i':Bool}(ha:a=true->a'=true)(hi:i=true->i'=true){x:P}{v:Value}(h:bU w (E.ok st gh w a i) x v):bU w (E.ok st gh w a' i') x v:=h.mono λb hb=>⟨Env.oH ha hi hb,rfl⟩
theorem iw.cls{a i a' i':Bool}(ha:a=true->a'=true)(hi:i=true->i'=true){sz:Nat}{l:List (List P)}{G:Gh}(h:iw E st gh w a i sz l G):iw E st gh w a' i' sz l G:=by rcases h with h|⟨ad,c,e,h1,h2,h3,h4,h5,h6,h7⟩;exact .inl h;exact .inr ⟨ad,c,e,h1,h2,h3,h4,h5,h6,λn x hx j y hy=>let ⟨v,hv,hr⟩:=h7 n x hx j y hy;⟨v,hv,hr.cls ha hi⟩⟩
theorem iw.sub{a i:Bool}{sz:Nat}{l:List (List P)}{G G':Gh}(e1:G'.ad=G.ad)(e2:G'.cap=G.cap)(h:iw E st gh w a i sz l G):iw E st gh w a i sz l G':=by unfold iw at *;rw[e1,e2];exact h
theorem yT.cls{a i a' i':Bool}(ha:a=true->a'=true)(hi:i=true->i'=true){G:Gh}{sz' n j:Nat}{y:P}{v:Value}(h:yT E st gh w a i G sz' n j y v):yT E st gh w a' i' G sz' n j y v:=by obtain⟨l',ao,k,h1,h2,h3,h4⟩:=h;exact⟨l',ao,k,h1,h2,h3.cls ha hi,h4⟩
theorem Rel.shut(h:Rel E st gh val w){g d:Nat}{a i a' i':Bool}{sz sz':Nat}{ah:List (Nat×Nat)}{l l':List (List P)}{n c:Nat}(ho:st.o g=.aF a i sz ah l (some (n,c,d)))(hd:st.o d=.arr false a' i' sz' l')
  (hc:ah.lookup c=some sz') (hcs:c<sz) :
  ∃bG,Rel E (st.aB [(g,.aF (a||a') (i||i') sz ah (iR l n c (P.fG sz' l')) none),(d,.none)] []) bG val w/\
   Lets E st (st.aB [(g,.aF (a||a') (i||i') sz ah (iR l n c (P.fG sz' l')) none),(d,.none)] []) gh bG w w/\∀x,(bG x).ad=(gh x).ad/\(bG x).cap=(gh x).cap:=by
 have hgd:g≠d:=by intro e;subst e;rw[ho]at hd;cases hd
 have hgo:(st.o g).bJ=true:=by rw[ho];rfl
 have hdo:(st.o d).bJ=true:=by rw[hd];rfl
 have hgu:st.used g=true:=h.ul g (O.oD hgo);have hD:kC E st gh w a i sz ah l (some (n,c,d)) (gh g):=by have:=h.aW g;rw[ho]at this;exact this
 have hA:iw E st gh w a' i' sz' l' (gh d):=by have:=h.aW d;rw[hd]at this;exact this
 generalize hst:st.aB [(g,.aF (a||a') (i||i') sz ah (iR l n c (P.fG sz' l')) none),(d,.none)] []=st';have e1:(d==g)=false:=by simpa using hgd.symm
 have hog:st'.o g=.aF (a||a') (i||i') sz ah (iR l n c (P.fG sz' l')) none:=by subst hst;simp[St.aB,List.lookup]
 have hod:st'.o d=.none:=by subst hst;simp[St.aB,List.lookup,e1]
 have zD :∀g',g'≠d->g'≠g->st'.o g'=st.o g':=by
  intro g' e2 e1;subst hst;have e1:(g'==g)=false:=by simpa using e1
  have e2:(g'==d)=false:=by simpa using e2
  simp[St.aB,List.lookup,e1,e2]
 have hdis :∀b,(gh g).has b->(gh d).has b->False:=λb h1 h2=>hgd (h.inj g d b hgo hdo h1 h2)
 let G:Gh:=⟨(gh g).ad,(gh g).cap,λb=>if(gh d).ad.map (·.block)=some b then(if n<l.length then some (n,c)else none)else(gh g).sub b⟩
 have hGs :∀b,(G.sub b).isSome=true->((gh d).ad.map (·.block)=some b)\/((gh g).sub b).isSome=true:=by intro b hb;by_cases e:(gh d).ad.map (·.block)=some b;exact .inl e;simp only[G,QR e]at hb;exact .inr hb
 have had :∀b,(gh d).ad.map (·.block)=some b->(gh d).has b:=by
  intro b e;cases hx:(gh d).ad with
  |none=>rw[hx]at e;cases e
  |some ad=>rw[hx]at e;simp at e;exact .inl ⟨ad,hx,e⟩
 have hGb :∀b,G.has b->(gh g).has b\/(gh d).has b:=by
  rintro b (⟨ad,k1,k2⟩|k1);exact .inl (.inl ⟨ad,k1,k2⟩);rcases hGs b k1 with q|q
  .exact .inr (had b q)
  .exact .inl (.inr q)
 obtain⟨m1,m2⟩:=h.merge (λg'=>g'=d) g (.aF (a||a') (i||i') sz ah (iR l n c (P.fG sz' l')) none) G st' w (by subst hst;rfl) hog (λg' e _=>by subst e;exact hod) (λg' e1 e2=>zD g' e1 e2)
  (λg' hg'=>by subst hst;simp[St.aB,hg']) (by subst hst;simp[St.aB,hgu]) (λ_=>⟨⟨rfl,rfl⟩,by rw[ho];exact⟨rfl,iK.symm⟩⟩)
  (λb hb=>.inl (by
   rcases hGb b hb with q|q
   .exact ⟨g,.inr rfl,hgo,q⟩
   .exact ⟨d,.inl rfl,hdo,q⟩))
  (λ_ _ _=>rfl) (ZD _) rfl rfl rfl (λi1 b e1 hb hw=>by
   cases e1;rcases hGb b hb with q|q
   .have:=h.wi g i b (by rw[ho];rfl) q hw;simp[this]
   .have:=h.wi d i' b (by rw[hd];rfl) q hw;simp[this])
  (λ_ e=>by cases e) (λhl=>by
   rcases hD with⟨k1,k2,k3,k4⟩|⟨ad,cs,e,k1,k2,k3,k4,k5,k6,⟨k7,k7'⟩,k8⟩
   .subst k3;refine .inl ⟨k1,k2,by simp[iR],λb=>?_⟩;by_cases e:(gh d).ad.map (·.block)=some b
    .show (if(gh d).ad.map (·.block)=some b then(if n<([]:List (List P)).length then some (n,c)else none)else(gh g).sub b)=none;rw[Qt e];rfl
    .simp only[G,QR e];exact k4 b
   .refine .inr ⟨ad,cs,e,k1,k2,k3,k4,by rw[iK];exact k5,AU k6 hcs,⟨?_,λb hb=>?_⟩,λm x hx j y hy=>?_⟩
    .have:¬ (gh d).ad.map (·.block)=some ad.block:=λe=>hdis _ (Gh.jC k1) (had _ e);simp only[G,QR this];exact k7
    .rcases hGs b hb with q|q
     .rcases hA with⟨q1,_⟩|⟨ad',c',e',q1,_,q3,_⟩
      .rw [q1]at q;cases q
      .rw [q1]at q;simp at q;subst q;exact⟨_,_,_,q3⟩
     .exact k7' b q
    .have ca:a=true->(a||a')=true:=by simp;exact λh=>.inl h
     have ci:i=true->(i||i')=true:=by simp;exact λh=>.inl h
     have ca':a'=true->(a||a')=true:=by simp;exact λh=>.inr h
     have ci':i'=true->(i||i')=true:=by simp;exact λh=>.inr h
     have old :∀x0,l[m]?=some x0->x0[j]?=some y->¬ (n=m/\c=j)->∃v,cs[ad.off+m*sz+j]?=some v/\iy E st' (eG gh g G) w (a||a') (i||i') G ah none m j y v:=by
      intro x0 hx0 hy0 hne;obtain⟨v,hv,hr⟩:=k8 m x0 hx0 j y hy0;refine⟨v,hv,?_⟩;unfold iy at hr ⊢;cases hcj:ah.lookup j with
      |none=>rw[hcj]at hr;exact(hl.kD hr).cls ca ci
      |some sz2=>rw[hcj]at hr;simp only[gB,QR hne]at hr ⊢;obtain⟨l2,ao2,k2,q1,q2,q3,q4⟩:=hr;refine⟨l2,ao2,k2,q1,q2,(hl.Aw (λ_ _=>rfl) q3).cls ca ci,λAL rG=>?_⟩;have hs:=q4 AL rG;have:¬ (gh d).ad.map (·.block)=some AL.block:=λe=>hdis _ (.inr (by rw[hs];rfl)) (had _ e);simp only[G,QR this];exact hs
     rcases wX hx with⟨e1,hx0⟩|⟨e1,x0,hx0,rfl⟩
     .exact old x hx0 hy λe=>e1 e.1.symm
     .subst e1;have hlen:=k6 x0 (Ys hx0);rw[eF (by simp;omega)]at hy;split at hy
      .rename_i hcj;have:j=c:=by simp at hcj;omega
       subst this;simp at hy;subst hy;have hyc:x0[j]?=some x0[j]:=Q3 (by omega);obtain⟨v,hv,hr⟩:=k8 m x0 hx0 j _ hyc;simp only[iy,hc,gB,and_self,if_true]at hr;obtain⟨hone,hr⟩:=hr;have hv':v=.slice (gh d).ad l'.length (gh d).cap:=by cases hr with|own _ _ _ hb=>exact hb _ _ (O.jM hd)
       refine⟨v,hv,?_⟩;simp only[iy,hc,gB];refine⟨l',(gh d).ad,(gh d).cap,rfl,hv',((hl.Aw (λ_ _=>rfl) hA).cls ca' ci').sub rfl rfl,λAL rG=>?_⟩;have hml:m<l.length:=(Q4.1 hx0).1;simp[G,rG,hml]
      .rename_i hcj;exact old x0 hx0 hy λe=>hcj (by simp;omega))
  (λg' hg'=>by simp[O.names,bZ]at hg')
 refine⟨_,m1,m2,λx=>?_⟩;unfold eG;split
 .rename_i e;subst e;exact⟨rfl,rfl⟩
 .exact ⟨rfl,rfl⟩
theorem Rel.jS(h:Rel E st gh val w)(g:Nat):∃bG,Rel E (st.aB (Fw.jS st.o g) []) bG val w/\Lets E st (st.aB (Fw.jS st.o g) []) gh bG w w/\∀x,(bG x).ad=(gh x).ad/\(bG x).cap=(gh x).cap:=by
 have triv :∃bG,Rel E (st.aB [] []) bG val w/\Lets E st (st.aB [] []) gh bG w w/\∀x,(bG x).ad=(gh x).ad/\(bG x).cap=(gh x).cap:=by rw[Gv];exact⟨gh,h,⟨λa i b hb=>⟨hb,rfl⟩,λg _=>.inr ⟨⟨rfl,rfl⟩,O.eU _⟩⟩,λ_=>⟨rfl,rfl⟩⟩
 unfold Fw.jS;split
 rotate_left
 exact triv;rename_i a i sz ah l n c d ho;split
 .rename_i a' i' sz' l' hd;split
  .rename_i hc;exact h.shut ho hd hc.1 hc.2
  .exact triv
 .exact triv
def shuts:List Nat->St->St
 | [],st=>st
 |g::gs,st=>shuts gs (st.aB (jS st.o g) [])
theorem Gx:∀(gs:List Nat) (st:St),(Fw.shuts gs st).s=st.s
 | [],_=>rfl
 |g::gs,st=>Gx gs _
theorem uP:∀(gs:List Nat) (st:St),(Fw.shuts gs st).used=st.used
 | [],_=>rfl
 |g::gs,st=>(uP gs _).trans (by funext x;simp[St.aB])
theorem Rel.shuts:∀(gs:List Nat) {st:St} {gh:Nat->Gh},Rel E st gh val w->∃bG,Rel E (Fw.shuts gs st) bG val w/\Lets E st (Fw.shuts gs st) gh bG w w/\∀x,(bG x).ad=(gh x).ad/\(bG x).cap=(gh x).cap
 | [],st,gh,h=>⟨gh,h,⟨λa i b hb=>⟨hb,rfl⟩,λg _=>.inr ⟨⟨rfl,rfl⟩,O.eU _⟩⟩,λ_=>⟨rfl,rfl⟩⟩
 |g::gs,st,gh,h=>by obtain⟨lZ,h1,l1,e1⟩:=h.jS g;obtain⟨yY,h2,l2,e2⟩:=Rel.shuts gs h1;refine⟨yY,h2,Lets.trans l1 l2 (λg' hg'=>by simp[St.aB,hg']),λx=>⟨(e2 x).1.trans (e1 x).1,(e2 x).2.trans (e1 x).2⟩⟩
theorem Uj{st:St}{g g':Nat}(h:st.o g'=.none):(st.aB (Fw.jS st.o g) []).o g'=.none:=by
 unfold Fw.jS;split
 .rename_i a i sz ah l n c d ho;split
  .rename_i hd;split
   .have e1:(g'==g)=false:=by simp;intro e;subst e;rw[h]at ho;cases ho
    have e2:(g'==d)=false:=by simp;intro e;subst e;rw[h]at hd;cases hd
    simp[St.aB,List.lookup,e1,e2,h]
   .simpa [St.aB]using h
  .simpa [St.aB]using h
 .simpa [St.aB]using h
theorem Ib:∀(gs:List Nat) {st:St} {g':Nat},st.o g'=.none->(Fw.shuts gs st).o g'=.none
 | [],_,_,h=>h
 |g::gs,st,g',h=>Ib gs (Uj h)
def PartOf(st:St)(gh:Nat->Gh)(a i:Bool)(es:List (Nat×Nat))(s j:Nat)(y:P)(u:Value):Prop:=∃l',y=P.fG s l'/\((u=.slice none 0 0/\l'=[])\/∃e a1 i1,(j,e)∈es/\st.o e=.arr false a1 i1 s l'/\(a1=true->a=true)/\(i1=true->i=true)/\u=.slice (gh e).ad l'.length (gh e).cap)
def whose(gh:Nat->Gh)(es:List (Nat×Nat))(b:Nat):Option (Nat×Nat):=es.find? λp=>(gh p.2).ad.map (·.block)==some b
theorem uQ{es:List (Nat×Nat)}{b:Nat}{p:Nat×Nat}(h:whose gh es b=some p):p∈es/\∃ad,(gh p.2).ad=some ad/\ad.block=b:=by
 unfold whose at h;have h1:=vu h;simp only[beq_iff_eq]at h1;refine⟨Ki h,?_⟩;cases hx:(gh p.2).ad with
 |none=>rw[hx]at h1;cases h1
 |some ad=>rw[hx]at h1;simp at h1;exact⟨ad,rfl,h1⟩
theorem Yt{es:List (Nat×Nat)}(hnd:(es.map (·.2)).Nodup){p q:Nat×Nat}(hp:p∈es)(hq:q∈es)(e:p.2=q.2):p=q:=by
 induction es with
 |nil=>cases hp
 |cons x es ih=>
  simp only[X2,UI]at hnd;rcases Xs.1 hp with h1|h1<;>rcases Xs.1 hq with h2|h2
  .rw [h1,h2]
  .exact absurd (XN.2 ⟨q,h2,by rw[<-e,h1]⟩) hnd.1
  .exact absurd (XN.2 ⟨p,h1,by rw[e,h2]⟩) hnd.1
  .exact ih hnd.2 h1 h2
theorem K_(h:Rel E st gh val w){es:List (Nat×Nat)}(hnd:(es.map (·.2)).Nodup)(hes :∀p∈es,(st.o p.2).bJ=true){p:Nat×Nat}(hp:p∈es){ad:Addr}(had:(gh p.2).ad=some ad):whose gh es ad.block=some p:=by
 cases hw:whose gh es ad.block with
 |none=>have:=List.find?_eq_none.1 hw p hp;simp[had]at this
 |some q=>obtain⟨h1,ad',h2,h3⟩:=uQ hw;have:=h.inj q.2 p.2 ad.block (hes q h1) (hes p hp) (.inl ⟨ad',h2,h3⟩) (Gh.jC had);rw[Yt hnd h1 hp this]
theorem NK{es:List (Nat×Nat)}{g:Nat}:((es.map λp=>(p.2,O.none)).lookup g)=if g∈es.map (·.2)then some O.none else none:=by
 induction es with
 |nil=>rfl
 |cons x es ih=>
  simp only[X2,List.lookup,Xs];by_cases e:g=x.2
  .subst e;simp
  .have:(g==x.2)=false:=by simpa using e
   rw[this];simp only[e,false_or];exact ih
theorem Rel.ahR(h:Rel E st gh val w){g:Nat}{a i:Bool}{sz:Nat}{ah:List (Nat×Nat)}{l:List (List P)}{hole:Option (Nat×Nat×Nat)}(hog:st.o g=.aF a i sz ah l hole){ad:Addr}(had:(gh g).ad=some ad)
  {n:Nat} (hn:n<l.length) {off:Nat} {ps:List P} {us:List Value} (hlen:ps.length=us.length) (hoff:off+ps.length<=sz) (a' i':Bool) (es:List (Nat×Nat)) (fV:Option (Nat×Nat×Nat))
  (hnd:(es.map (·.2)).Nodup) (hes :∀p∈es,∃a1 i1 s l',st.o p.2=.arr false a1 i1 s l'/\(i1=true->i'=true))
  (hcell :∀(j:Nat) y u,ps[j]?=some y->us[j]?=some u->match ah.lookup (off+j)with
   |none=>bU w (E.ok st gh w a' i') y u
   |some s=>PartOf st gh a' i' es s (off+j) y u)
  (hh1 :∀m j,¬ (m=n/\off<=j/\j<off+ps.length)->∀s,ah.lookup j=some s->gB fV m j=gB hole m j) (hh2 :∀j s,off<=j->j<off+ps.length->ah.lookup j=some s->gB fV n j=none) (hh3 :∀d∈bZ fV,d∈bZ hole)
  (w':World) (hw :∀b,b≠ad.block->w'.heap[b]?=w.heap[b]?) (hsz:w'.heap.size=w.heap.size) (hos:w'.os=w.os) (htape:w'.tape=w.tape) (hout:w'.output=w.output)
  (hst :∀c e,w.heap[ad.block]?=some (.cells c e (0,0))->∃c',w'.heap[ad.block]?=some (.cells c' e (0,0))/\c'.toList=aJ c.toList (ad.off+n*sz+off) us) :
  ∃bG,Rel E (st.aB ((g,.aF (a||a') (i||i') sz ah (l.set n (aJ (l.getD n []) off ps)) fV)::es.map λp=>(p.2,.none)) []) bG val w'/\
   Lets E st (st.aB ((g,.aF (a||a') (i||i') sz ah (l.set n (aJ (l.getD n []) off ps)) fV)::es.map λp=>(p.2,.none)) []) gh bG w w':=by
 have hgo:(st.o g).bJ=true:=by rw[hog];rfl
 have hgu:st.used g=true:=h.ul g (O.oD hgo);have heo :∀p∈es,(st.o p.2).bJ=true:=λp hp=>by obtain⟨_,_,_,_,e,_⟩:=hes p hp;rw[e];rfl
 have heg :∀p∈es,p.2≠g:=λp hp e=>by obtain⟨_,_,_,_,e',_⟩:=hes p hp;rw[e,hog]at e';cases e'
 have hD:kC E st gh w a i sz ah l hole (gh g):=by have:=h.aW g;rw[hog]at this;exact this
 rcases hD with⟨k1,_⟩|⟨ad0,cs,ty,k1,k2,k3,k4,k5,k6,⟨k7,k7'⟩,k8⟩
 .rw [had]at k1;cases k1
 rw[had]at k1;cases k1;obtain⟨c',s1,s2⟩:=hst cs ty k3;generalize hX:O.aF (a||a') (i||i') sz ah (l.set n (aJ (l.getD n []) off ps)) fV=X;generalize Yu:st.aB ((g,X)::es.map λp=>(p.2,.none)) []=st';have aok:st'.o g=X:=by subst Yu;simp[St.aB,List.lookup]
 have zD :∀g',g'≠g->st'.o g'=if g'∈es.map (·.2)then .none else st.o g':=by
  intro g' e;subst Yu;have e1:(g'==g)=false:=by simpa using e
  simp only[St.aB,List.lookup,e1,NK];by_cases hm:g'∈es.map (·.2)
  .rw [Qt hm,Qt hm]
  .rw [QR hm,QR hm]
 let G:Gh:=⟨(gh g).ad,(gh g).cap,λb=>match whose gh es b with
  |some p=>some (n,p.1)
  |none=>(gh g).sub b⟩
 have hGs :∀b,(G.sub b).isSome=true->(∃p∈es,∃ad,(gh p.2).ad=some ad/\ad.block=b)\/((gh g).sub b).isSome=true:=by
  intro b hb;cases hx:whose gh es b with
  |some p=>exact .inl ⟨p,uQ hx⟩
  |none=>simp only[G,hx]at hb;exact .inr hb
 have hGb :∀b,G.has b->(gh g).has b\/∃p∈es,(gh p.2).has b:=by
  rintro b (⟨ad,q1,q2⟩|q1);exact .inl (.inl ⟨ad,q1,q2⟩);rcases hGs b q1 with⟨p,hp,q⟩|q
  .exact .inr ⟨p,hp,.inl q⟩
  .exact .inl (.inr q)
 have hdis :∀b,∀p∈es,(gh g).has b->(gh p.2).has b->False:=λb p hp h1 h2=>heg p hp (h.inj g p.2 b hgo (heo p hp) h1 h2).symm;have hnw :∀b,(gh g).has b->whose gh es b=none:=λb hb=>by
  cases hx:whose gh es b with
  |none=>rfl
  |some p=>obtain⟨q1,q2⟩:=uQ hx;exact(hdis b p q1 hb (.inl q2)).elim
 obtain⟨m1,m2⟩:=h.merge (λg'=>g'∈es.map (·.2)) g X G st' w' (by subst Yu;rfl) aok (λg' hm e=>by rw[zD g' e,Qt hm]) (λg' hm e=>by rw[zD g' e,QR hm])
  (λg' hg'=>by subst Yu;simp[St.aB,hg']) (by subst Yu;simp[St.aB,hgu]) (λ_=>⟨⟨rfl,rfl⟩,by rw[hog,<-hX];exact⟨rfl,by simp⟩⟩)
  (λb hb=>.inl (by
   rcases hGb b hb with q|⟨p,hp,q⟩
   .exact ⟨g,.inr rfl,hgo,q⟩
   .exact ⟨p.2,.inl (XN.2 ⟨p,hp,rfl⟩),heo p hp,q⟩))
  (λb _ hb=>hw b λe=>hb g (.inr rfl) hgo (e▸Gh.jC had)) (by omega) hos htape hout (λi1 b e1 hb hwr=>by
   subst hX;cases e1;rcases hGb b hb with q|⟨p,hp,q⟩
   .have:=h.wi g i b (by rw[hog];rfl) q hwr;simp[this]
   .obtain ⟨_,i1,_,_,e,hi⟩:=hes p hp;have:=h.wi p.2 i1 b (by rw[e];rfl) q hwr;simp[hi this])
  (λ_ e=>by subst hX;cases e) (λhl=>by
   subst hX;have ca:a=true->(a||a')=true:=by simp;exact λh=>.inl h
   have ci:i=true->(i||i')=true:=by simp;exact λh=>.inl h
   have ca':a'=true->(a||a')=true:=by simp;exact λh=>.inr h
   have ci':i'=true->(i||i')=true:=by simp;exact λh=>.inr h
   have hle:(n+1)*sz<=(gh g).cap*sz:=Zs _ (by have:=k5.1;omega);rw[Wl,Kk]at hle;have AY:c'.size=cs.size:=by have:=ZS List.length s2;rw[dS (by simp;omega)]at this;simpa using this
   have hln:l[n]?=some l[n]:=Q3 hn;have hrl:l[n].length=sz:=k6 _ (Z2 hn);have hgD:l.getD n []=l[n]:=by rw[Q2,hln];rfl
   rw[hgD];have hget :∀q:Nat,c'[q]?=(aJ cs.toList (ad.off+n*sz+off) us)[q]?:=λq=>by rw[<-s2,J1]
   have aat :∀b,((gh g).sub b).isSome=true->b≠ad.block:=λb hb e=>by rw[e,k7]at hb;cases hb
   refine .inr ⟨ad,c',ty,had,k2,s1,by rw[AY];exact k4,by simpa using k5,λz hz=>?_,⟨?_,λb hb=>?_⟩,λm z hz j y hy=>?_⟩
   .obtain ⟨m,hm⟩:=VS.1 hz;rw[Kx]at hm;split at hm
    .cases hm;rw[dS (by rw[hrl];omega),hrl]
    .exact k6 z (Ys hm)
   .simp only[G,hnw _ (Gh.jC had)];exact k7
   .rcases hGs b hb with⟨p,hp,ad1,q1,q2⟩|q
    .have hne:b≠ad.block:=λe=>hdis ad.block p hp (Gh.jC had) (.inl ⟨ad1,q1,by rw[q2,e]⟩);rw[hw b hne];obtain⟨_,_,_,_,e,_⟩:=hes p hp;have hA:=h.aW p.2;rw[e]at hA;rcases hA with⟨q3,_⟩|⟨AL,c2,e2,q3,_,q4,_⟩
     .rw [q1]at q3;cases q3
     .rw [q1]at q3;cases q3;rw[<-q2];exact⟨_,_,_,q4⟩
    .rw [hw b (aat b q)];exact k7' b q
   .-- an old cell
    have old :∀x0,l[m]?=some x0->x0[j]?=some y->¬ (m=n/\off<=j/\j<off+ps.length)->∃v,c'[ad.off+m*sz+j]?=some v/\iy E st' (eG gh g G) w' (a||a') (i||i') G ah fV m j y v:=by
     intro x0 hx0 hy0 hne;have hjs:j<sz:=by have:=(Q4.1 hy0).1;have:=k6 x0 (Ys hx0);omega
     have hout:¬ (ad.off+n*sz+off<=ad.off+m*sz+j/\ad.off+m*sz+j<ad.off+n*sz+off+us.length):=by
      rintro ⟨q1,q2⟩;rcases Nat.lt_trichotomy m n with hlt|heq|hgt
      .have:(m+1)*sz<=n*sz:=Zs _ hlt;rw[Wl,Kk]at this;omega
      .subst heq;exact hne ⟨rfl,by omega,by omega⟩
      .have:(n+1)*sz<=m*sz:=Zs _ hgt;rw[Wl,Kk]at this;omega
     obtain⟨v,hv,hr⟩:=k8 m x0 hx0 j y hy0;refine⟨v,by rw[hget,eF (by simp;omega),QR hout];simpa using hv,?_⟩;unfold iy at hr ⊢;cases hcj:ah.lookup j with
     |none=>rw[hcj]at hr;exact(hl.kD hr).cls ca ci
     |some s=>
      rw[hcj]at hr;simp only at hr ⊢;rw[hh1 m j hne s hcj];cases hho:gB hole m j with
      |some d=>
       rw[hho]at hr;refine⟨hr.1,hl.zC (λg0 hg0=>?_) hr.2⟩;have:g0=d:=by simpa[W.names]using hg0
       subst this;refine h.uo g g0 ?_;rw[hog];unfold gB at hho;rcases hole with _|⟨n',j',d'⟩;cases hho;simp only at hho;split at hho
       .cases hho;simp[O.names,bZ]
       .cases hho
      |none=>rw[hho]at hr;obtain⟨l2,ao2,q,q1,q2,q3,q4⟩:=hr;refine⟨l2,ao2,q,q1,q2,(hl.Aw (λAL rG=>hw _ (aat _ (by rw[q4 AL rG];rfl))) q3).cls ca ci,λAL rG=>?_⟩;have hs:=q4 AL rG;show (match whose gh es AL.block with|some p=>some (n,p.1)|none=>(gh g).sub AL.block)=some (m,j);rw[hnw AL.block (.inr (by rw[hs];rfl))];exact hs
    rw[Kx]at hz;split at hz
    .rename_i hkm;subst hkm;cases hz;rw[eF (by rw[hrl];omega)]at hy;split at hy
     .rename_i hin;have hj':j-off<us.length:=by omega
      have hu:us[j-off]?=some us[j-off]:=Q3 hj';have hcv:=hcell (j-off) y _ hy hu;have e1:off+(j-off)=j:=by omega
      rw[e1]at hcv;refine⟨us[j-off],?_,?_⟩
      .rw [hget,eF (by simp;omega),Qt (by omega)];have e2:ad.off+n*sz+j-(ad.off+n*sz+off)=j-off:=by omega
       rw[e2];exact hu
      .unfold iy;cases hcj:ah.lookup j with
       |none=>rw[hcj]at hcv;exact(hl.kD hcv).cls ca' ci'
       |some s=>
        rw[hcj]at hcv;simp only at hcv ⊢;rw[hh2 j s hin.1 hin.2 hcj];obtain⟨l',rfl,hcv⟩:=hcv;rcases hcv with⟨q1,rfl⟩|⟨e,a1,i1,q1,q2,q3,q4,q5⟩
        .exact ⟨[],none,0,rfl,q1,.inl ⟨rfl,rfl,rfl⟩,λAL rG=>by cases rG⟩
        .have hA:iw E st gh w a1 i1 s l' (gh e):=by have:=h.aW e;rw[q2]at this;exact this
         refine⟨l',(gh e).ad,(gh e).cap,rfl,q5,(((hl.Aw (λAL rG=>hw _ λe3=>?_) hA).cls q3 q4).cls ca' ci').sub rfl rfl,λAL rG=>?_⟩;exact hdis ad.block (j,e) q1 (Gh.jC had) (.inl ⟨AL,rG,e3⟩);have:=K_ h hnd heo q1 rG;simp only[G,this]
     .rename_i hin;exact old l[n] hln hy λe=>hin ⟨e.2.1,e.2.2⟩
    .rename_i hkm;exact old z hz hy λe=>hkm e.1.symm)
  (λd hd=>by subst hX Yu;simp only[O.names]at hd;simp only[St.aB,List.contains_nil,K2];exact h.uo g d (by rw[hog];exact hh3 d hd))
 exact⟨_,m1,m2⟩
theorem Rel.gather(h:Rel E st gh val w)(S:Nat->Prop){d:Nat}(hd:st.used d=false)(a i:Bool)(sz:Nat)(ah:List (Nat×Nat))(l:List (List P))(G:Gh)(st':St)(w':World)
  (hs:st'.s=st.s) (hod:st'.o d=.aF a i sz ah l none) (hoS :∀g,S g->g≠d->st'.o g=.none) (zD :∀g,¬ S g->g≠d->st'.o g=st.o g) (hus :∀g,st.used g=true->st'.used g=true) (hud:st'.used d=true)
  {ad:Addr} {c:Array Value} {ty:TypeId} (had:G.ad=some ad) (hsp:ad.spot=none) (hc:w'.heap[ad.block]?=some (.cells c ty (0,0))) (hcs:ad.off+G.cap*sz<=c.size) (hcap:l.length<=G.cap/\G.cap<=9223372036854775807) (hrow :∀x∈l,x.length=sz)
  (hself:G.sub ad.block=none) (hsub :∀b,(G.sub b).isSome=true->(∃g,S g/\(st.o g).bJ=true/\(gh g).has b)/\∃c e f,w.heap[b]?=some (.cells c e f))
  (akr:(∃g,S g/\(st.o g).bJ=true/\(gh g).has ad.block)\/(w.heap.size<=ad.block/\ad.block<w'.heap.size))
  (hw :∀b,b<w.heap.size->b≠ad.block->w'.heap[b]?=w.heap[b]?) (hsz:w.heap.size<=w'.heap.size) (hos:w'.os=w.os) (htape:w'.tape=w.tape) (hout:w'.output=w.output)
  (hwi :∀g i1,S g->(st.o g).inner=some i1->i1=true->i=true) (hSi :∀g,S g->(st.o g).bJ=true->∃i1,(st.o g).inner=some i1)
  (hcell :∀(n:Nat) x,l[n]?=some x->∀(j:Nat) y,x[j]?=some y->∃v,c[ad.off+n*sz+j]?=some v/\match ah.lookup j with
   |none=>bU w (E.ok st gh w a i) y v
   |some s=>yT E st gh w a i G s n j y v) :
  Rel E st' (eG gh d G) val w'/\Lets E st st' gh (eG gh d G) w w':=by
 have hblt :∀b,(∃g,S g/\(st.o g).bJ=true/\(gh g).has b)->b<w.heap.size:=λb ⟨g,_,h1,h2⟩=>(h.wr g b h1 h2).2;have hhas :∀b,G.has b->(∃g,S g/\(st.o g).bJ=true/\(gh g).has b)\/(w.heap.size<=b/\b<w'.heap.size):=by
  rintro b (⟨ad',q1,q2⟩|q1)
  .rw [had]at q1;cases q1;rw[<-q2];exact akr
  .exact .inl (hsub b q1).1
 refine h.merge S d (.aF a i sz ah l none) G st' w' hs hod hoS zD hus hud (λhu=>by rw[hd]at hu;cases hu)
  (λb hb=>(hhas b hb).imp (λ⟨g,q1,q2⟩=>⟨g,.inl q1,q2⟩) id)
  (λb hb hno=>hw b hb λe=>by rcases akr with⟨g,q1,q2,q3⟩|q;exact hno g (.inl q1) q2 (e▸q3);omega)
  hsz hos htape hout (λi1 b e1 hb hwr=>by
   cases e1;rcases hhas b hb with⟨g,q1,q2,q3⟩|q
   .obtain ⟨i1,e1⟩:=hSi g q1 q2;exact hwi g i1 q1 e1 (h.wi g i1 b e1 q3 hwr)
   .have:=h.wb _ hwr;have:=h.size;omega)
  (λ_ e=>by cases e) (λhl=>?_) (λg hg=>by simp[O.names,bZ]at hg)
 have hne :∀b,(G.sub b).isSome=true->w'.heap[b]?=w.heap[b]?:=λb hb=>hw b (hblt b (hsub b hb).1) λe=>by rw[e,hself]at hb;cases hb
 refine .inr ⟨ad,c,ty,had,hsp,hc,hcs,hcap,hrow,⟨hself,λb hb=>by rw[hne b hb];exact(hsub b hb).2⟩,λn x hx j y hy=>?_⟩;obtain⟨v,hv,hr⟩:=hcell n x hx j y hy;refine⟨v,hv,?_⟩;unfold iy;cases hcj:ah.lookup j with
 |none=>rw[hcj]at hr;exact hl.kD hr
 |some s=>rw[hcj]at hr;obtain⟨l',ao,k,q1,q2,q3,q4⟩:=hr;exact⟨l',ao,k,q1,q2,hl.Aw (λAL rG=>hne _ (by rw[q4 AL rG];rfl)) q3,q4⟩
theorem PartOf.aks(h:Rel E st gh val w){a i:Bool}{es:List (Nat×Nat)}{s q n j:Nat}{y:P}{u:Value}{G:Gh}(hp:PartOf st gh a i es s q y u)(hG :∀p∈es,p.1=q->∀ad,(gh p.2).ad=some ad->G.sub ad.block=some (n,j)):yT E st gh w a i G s n j y u:=by
 obtain⟨l',rfl,hp⟩:=hp;rcases hp with⟨q1,rfl⟩|⟨e,a1,i1,q1,q2,q3,q4,q5⟩
 .exact ⟨[],none,0,rfl,q1,.inl ⟨rfl,rfl,rfl⟩,λAL rG=>by cases rG⟩
 .have hA:iw E st gh w a1 i1 s l' (gh e):=by have:=h.aW e;rw[q2]at this;exact this
  exact⟨l',(gh e).ad,(gh e).cap,rfl,q5,(hA.cls q3 q4).sub rfl rfl,λAL rG=>hG (q,e) q1 rfl AL rG⟩
theorem iy.oneCell{a i:Bool}{G:Gh}{ah:List (Nat×Nat)}{hole:Option (Nat×Nat×Nat)}{n j:Nat}{y:P}{v:Value}(h:iy E st gh w a i G ah hole n j y v):v.oneCell'=true:=by unfold iy at h;split at h;exact h.oneCell;split at h;exact h.1;obtain⟨l',ao,k,_,rfl,_⟩:=h;rfl
theorem zH{Pg:Program}{a i:Bool}{sz:Nat}{ah:List (Nat×Nat)}{l:List (List P)}{hole:Option (Nat×Nat×Nat)}{G:Gh}(h:kC E st gh w a i sz ah l hole G)(m:Nat)(hm:m<=l.length):
  ∃cs:List Value,(Builtin.firstCells sz m (.slice G.ad m G.cap)).run Pg w=.ok cs.toArray w/\cs.length=m*sz/\(∀c∈cs,c.oneCell'=true)/\(∀x∈l,x.length=sz)/\
   ∀(n:Nat) x,n<m->l[n]?=some x->∀(j:Nat) y,x[j]?=some y->∃u,cs[n*sz+j]?=some u/\iy E st gh w a i G ah hole n j y u:=by
 rcases h with⟨h1,_,h3,_⟩|⟨ad,c,e,h1,h2,h3,h4,h5,h6,h7,h8⟩
 .subst h3;have:m=0:=by simpa using hm
  subst this;exact⟨[],by rw[h1];simp[Builtin.firstCells],by simp,by simp,by simp,by simp⟩
 .obtain ⟨b,o,sp⟩:=ad;simp only at h2 h3 h4 h8;subst h2;have hle:m*sz<=G.cap*sz:=Zs _ (by omega);have key :∀k,k<m*sz->∃u,c[o+k]?=some u/\u.oneCell'=true:=by
   intro k hk;have hsz:0<sz:=by rcases vB sz with e|e;(subst e;simp at hk);exact e
   have hq:k/sz<m:=(Nat.div_lt_iff_lt_mul hsz).2 hk;have hr:=Q3 (show k/sz<l.length by omega);have hmm:k % sz<(l[k/sz]).length:=by rw[h6 _ (Z2 _)];exact Nat.mod_lt _ hsz
   obtain⟨u,hu,Qa⟩:=h8 (k/sz) _ hr (k % sz) _ (Q3 hmm);refine⟨u,?_,Qa.oneCell⟩;rw[<-hu];have:o+k/sz*sz+k % sz=o+k:=by have:=Nat.div_add_mod k sz;rw[vd]at this;omega
   rw[this]
  have hcell :∀k,w.cell? ⟨b,o+k,none⟩=c[o+k]?:=λk=>by simp[World.cell?,h3]
  have hcs :∀j,j<m*sz->w.cell? ⟨b,o+j,none⟩=((List.range (m*sz)).map λk=>(w.cell? ⟨b,o+k,none⟩).getD undef)[j]?:=by intro j hj;obtain⟨u,hu,_⟩:=key j hj;simp[Z3,qz hj,hcell,hu]
  refine⟨(List.range (m*sz)).map λk=>(w.cell? ⟨b,o+k,none⟩).getD undef,?_,by simp,λu hu=>?_,h6,λn x hnm hx j y hy=>?_⟩
  .have:=lV (Pg:=Pg) (w:=w) ⟨b,o,none⟩ ((List.range (m*sz)).map λk=>(w.cell? ⟨b,o+k,none⟩).getD undef) (m*sz) 0 #[] (λj hj=>by rw[Addr.gX,V1];exact hcs j hj) (by simp)
   rw[h1];simp only[Builtin.firstCells,loadCells];rw[this];congr 1;rw[List.take_of_length_le (by simp)];simp
  .simp only[XN,V0]at hu;obtain⟨k,hk,rfl⟩:=hu;obtain⟨u,hu,ho⟩:=key k hk;rw[hcell,hu];exact ho
  .obtain ⟨u,hu,Qa⟩:=h8 n x hx j y hy;have hlt:n*sz+j<m*sz:=by
    have hj:j<sz:=by have:=(Q4.1 hy).1;have:=h6 x (Ys hx);omega
    have:(n+1)*sz<=m*sz:=Zs _ hnm;rw[Wl,Kk]at this;omega
   exact⟨u,by rw[<-hcs _ hlt,hcell,<-JP];exact hu,Qa⟩
end
end Go.Fw

