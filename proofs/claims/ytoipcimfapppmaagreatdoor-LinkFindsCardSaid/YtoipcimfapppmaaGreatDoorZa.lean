/-
  The framework (a machine on plain data that answers as the program does), part 1.
-/
import Derived.WalkKit
import Derived.Laws.StructEq
import Derived.ChangeKeysEq
import Derived.Lib.ConvBytes
import Derived.Laws.AppendOwn
import Derived.Laws.BytesString
set_option linter.unusedSimpArgs false
set_option linter.unusedVariables false
set_option linter.unusedSectionVars false
open Option renaming some->zw,none->zz
open Bool renaming true->zj,false->zv
variable{u:Array Go.Value}{J a c i:Bool}{q:List (Nat×Nat)}{z:List Go.Value}{b g j n:Nat}{M:Nat->Prop}{p:Nat×Nat}{s:Option (Nat×Nat×Nat)}{L:Option Go.Addr}{h:Go.Program}{e t:Go.TypeId}{v:Go.Value}{B X:Go.World}
namespace Go
abbrev Q0:=@Option.some.injEq
abbrev Q1:=@List.getD_eq_getElem?_getD
abbrev Q2:=@List.getElem?_eq_getElem
abbrev Q3:=@List.getElem?_eq_some_iff
abbrev Q4:=@Int.toNat_natCast
abbrev Q6:=@Nat.eq_of_beq_eq_true
abbrev Qf:=@List.map_cons
abbrev Qt:=@if_neg
abbrev QP:=@Prod.mk.injEq
abbrev QQ:=@if_pos
abbrev QR:=@Bool.and_eq_true
abbrev X1:=@List.mem_singleton
abbrev X2:=@List.getElem_mem
abbrev Xs:=@List.mem_cons
abbrev XN:=@List.mem_map
abbrev XS:=@List.length_append
abbrev XX:=@List.map_append
abbrev Ys:=@List.mem_append
abbrev YY:=@Nat.le_refl
abbrev Z0:=@List.getElem?_map
abbrev Z1:=@List.mem_of_getElem?
abbrev Z2:=@List.mem_flatMap
abbrev Z3:=@List.all_eq_true
abbrev Z6:=@List.flatMap_cons
abbrev Zs:=@of_decide_eq_true
abbrev ZD:=@of_decide_eq_false
abbrev ZS:=@decide_eq_false
abbrev ZZ:=@List.getElem?_take
abbrev W0:=@Nat.mul_le_mul_right
abbrev W2:=@congrArg
abbrev W3:=@List.append_assoc
abbrev W4:=@List.length_singleton
abbrev W5:=@decide_eq_true
abbrev W6:=@List.mem_append_left
abbrev W7:=@Option.map_some
abbrev W8:=@List.map_congr_left
abbrev Wa:=@decide_eq_true_eq
abbrev Wb:=@Bool.false_eq_true
abbrev Wc:=@List.getElem?_append_right
abbrev We:=@List.length_map
abbrev Wf:=@List.getElem?_append_left
abbrev Wg:=@Option.map_eq_some_iff
abbrev Wl:=@List.mem_of_mem_take
abbrev Wm:=@List.length_cons
abbrev Wo:=@List.getElem?_drop
abbrev Wt:=@Option.some.inj
abbrev Wz:=@List.getElem_of_mem
abbrev WD:=@Nat.le_of_ble_eq_true
abbrev WF:=@List.length_eq_zero_iff
abbrev WK:=@Nat.add_mul
abbrev WN:=@List.take_of_length_le
abbrev WP:=@Array.getD_eq_getD_getElem?
abbrev V0:=@Bool.not_eq_true'
abbrev V1:=@List.mem_cons_of_mem
abbrev V2:=@List.contains_eq_mem
abbrev Vc:=@List.map_nil
abbrev Vi:=@Nat.zero_add
abbrev Vn:=@Int.le_refl
abbrev Vv:=@List.getElem?_eq_none
abbrev VM:=@List.map_drop
abbrev VV:=@List.length_take
abbrev Up:=@Nat.lt_of_lt_of_le
abbrev Uq:=@List.mem_range
abbrev Uv:=@List.eq_nil_of_length_eq_zero
abbrev UB:=@List.mem_of_mem_drop
abbrev UI:=@List.length_set
abbrev UP:=@List.map_map
abbrev US:=@Array.getElem?_eq_some_iff
abbrev UT:=@List.map_take
abbrev UV:=@List.mem_append_right
abbrev UX:=@List.mem_iff_getElem?
abbrev J0:=@List.getElem?_cons_succ
abbrev J1:=@Nat.add_assoc
abbrev J2:=@Bool.or_eq_false_iff
abbrev Jn:=@Nat.add_zero
abbrev Jx:=@List.drop_left
abbrev JN:=@List.range_succ
abbrev JP:=@Int.toNat_of_nonneg
abbrev JS:=@List.sum_cons
abbrev K0:=@Nat.le_trans
abbrev K1:=@List.flatMap_append
abbrev K2:=@Array.getElem?_toList
abbrev K3:=@List.take_append_drop
abbrev K4:=@List.getElem?_cons_zero
abbrev K5:=@List.nodup_cons
abbrev K6:=@List.append_nil
abbrev K7:=@List.take_length
abbrev K8:=@Classical.byContradiction
abbrev K9:=@List.drop_append_of_le_length
abbrev Ka:=@Bool.false_or
abbrev Kb:=@Bool.or_eq_true
abbrev Kc:=@List.mem_cons_self
abbrev Kd:=@Array.getElem?_append_left
abbrev Ke:=@List.length_nil
abbrev Kf:=@Nat.not_lt_zero
abbrev Kg:=@List.getElem?_toArray
abbrev Kh:=@List.length_replicate
abbrev Ki:=@List.take_append_of_le_length
abbrev Kj:=@List.getElem?_append
abbrev Kk:=@List.cons_append
abbrev Kl:=@Nat.mod_eq_of_lt
abbrev Km:=@List.ext_getElem
abbrev Kn:=@List.getElem_map
abbrev Ks:=@List.take_left
abbrev Kx:=@List.mem_of_find?_eq_some
abbrev KB:=@List.drop_eq_getElem_cons
abbrev KK:=@Nat.one_mul
abbrev KM:=@Option.map_none
abbrev KS:=@List.getElem?_set
abbrev KV:=@Nat.lt_irrefl
abbrev qa:=@List.any_eq_true
abbrev qb:=@Array.getElem?_setIfInBounds
abbrev qd:=@Nat.eq_zero_or_pos
abbrev qf:=@Nat.mul_comm
abbrev qi:=@List.mem_filterMap
abbrev qn:=@List.ext_getElem?
abbrev qq:=@List.size_toArray
abbrev qr:=@List.length_range
abbrev qt:=@Array.getElem?_eq_getElem
abbrev qu:=@List.mem_or_eq_of_mem_set
abbrev qv:=@List.range'_succ
abbrev qz:=@List.eq_of_mem_replicate
abbrev qD:=@List.getElem?_range
abbrev qS:=@Nat.add_sub_cancel_left
abbrev qT:=@List.nil_append
abbrev v8:=@List.mem_filter
abbrev va:=@Bool.not_eq_false'
abbrev vb:=@List.sum_append
abbrev vd:=@List.getElem_range
abbrev ve:=@Nat.zero_le
abbrev vh:=@Array.getElem?_modify
abbrev vi:=@List.range_eq_range'
abbrev vj:=@Nat.le_of_not_lt
abbrev vl:=@List.contains_append
abbrev vm:=@List.length_pos_iff
abbrev vn:=@List.foldl_cons
abbrev vo:=@Nat.min_eq_left
abbrev vp:=@List.find?_some
abbrev vq:=@Option.isSome_iff_exists
abbrev vr:=@List.find?_eq_none
abbrev vu:=@Array.getElem?_replicate
abbrev vv:=@List.mapM_cons
abbrev vz:=@Bool.not_false
abbrev vA:=@Int.toNat_zero
abbrev vB:=@List.getElem?_replicate
abbrev vE:=@Array.size_append
abbrev vL:=@List.pairwise_map
abbrev vQ:=@List.getElem?_set_self
abbrev vR:=@List.drop_eq_nil_of_le
abbrev za:=@Bool.or_false
abbrev zb:=@List.filter_cons
abbrev zc:=@List.flatMap_map
abbrev zd:=@Classical.choose_spec
abbrev ze:=@Nat.lt_or_ge
abbrev zg:=@Nat.mul_add_mod
end Go
namespace Go.Fw
inductive P where
 |int (k:IntKind) (n:Int)
 |bool (b:Bool)
 |str (s:ByteArray)
 |sl (sz:Nat) (l:List (List P))
 |opq (v:Value)
 |seq (l:List (List P))
instance:Inhabited P:=⟨.bool zv⟩
class fO where
 gt:Nat->Option (Nat×List (List P))
 sq:World->List Nat->List (List P)->Value->Prop
 Y3 :∀{w w':World} {S:List Nat} {l:List (List P)} {v:Value},(∀b∈S,w'.heap[b]?=w.heap[b]?)->sq w S l v->sq w' S l v
variable [fO]
def fO.has(g:Nat):Prop:=(fO.gt g).isSome=zj
inductive dH(w:World)(ok:Nat->Prop):P->Value->Prop where
 |int (k:IntKind) (n:Int):dH w ok (.int k n) (.int k n)
 |bool (b:Bool):dH w ok (.bool b) (.bool b)
 |str (s:ByteArray):dH w ok (.str s) (.string s)
 |opq (v:Value) (h:v.oneCell'=zj):dH w ok (.opq v) v
 |nil (sz:Nat) (ao:Option Addr) (cap:Nat):dH w ok (.sl sz []) (.slice ao 0 cap)
 |sl (sz:Nat) (l:List (List P)) (a:Addr) (cap:Nat) (f:Nat->Nat->Value) (hs:a.spot=zz) (hok:0<sz->ok a.block) (hcap:l.length<=cap)
   (hlen :∀x∈l,x.length=sz)
   (hc :∀(i:Nat) x,l[i]?=zw x->∀(j:Nat) y,x[j]?=zw y->w.cell? ⟨a.block,a.off+i*sz+j,zz⟩=zw (f i j))
   (hr :∀(i:Nat) x,l[i]?=zw x->∀(j:Nat) y,x[j]?=zw y->dH w ok y (f i j)):dH w ok (.sl sz l) (.slice (zw a) l.length cap)
 |seq (l:List (List P)) (v:Value) (S:List Nat) (hv:v.oneCell'=zj) (hS :∀b∈S,ok b/\∃c e f,w.heap[b]?=zw (.cells c e f)) (h:fO.sq w S l v):dH w ok (.seq l) v
variable{w:World}{x:P}
theorem dH.mono{ok:Nat->Prop}(h :∀b,ok b->M b/\X.heap[b]?=w.heap[b]?)(r:dH w ok x v):dH X M x v:=by
 induction r with
 |int k n=>exact .int k n
 |bool b=>exact .bool b
 |str s=>exact .str s
 |opq v h=>exact .opq v h
 |nil z L cap=>exact .nil z L cap
 |sl z l a cap f w' g m c N Y T=>
  refine .sl z l a cap f w' (λK=>(h _ (g K)).1) m c (λi x B j y H=>?_) (λi x B j y H=>T i x B j y H);rw[<-N i x B j y H];have K:0<z:=by have:=c x (Z1 B);have:=(Q3.1 H).1;omega
  exact World.cell?_of_block (w:=w) (h _ (g K)).2
 |seq l v S U J d=>exact .seq l v S U (λb q=>⟨(h b (J b q).1).1,by rw[(h b (J b q).1).2];exact(J b q).2⟩) (fO.Y3 (λb q=>(h b (J b q).1).2) d)
theorem dH.oneCell{ok:Nat->Prop}(r:dH w ok x v):v.oneCell'=zj:=by cases r<;>first|rfl|assumption
def P.gV(sz:Nat)(l:List (List P)):P:=match l with
 | []=>.sl 0 []
 |x::l=>.sl sz (x::l)
variable{l:List (List P)}
theorem dH.gV{ok:Nat->Prop}(h:dH w ok (.sl g l) v):dH w ok (P.gV g l) v:=by
 cases l with
 |cons x l=>exact h
 |nil=>cases h with
  |nil _ b cap=>exact .nil 0 b cap
  |sl _ _ a cap f=>exact .nil 0 _ cap
inductive W where
 |p (a i:Bool) (x:P)
 |dD
 |own (g:Nat)
 |vw (g:Nat) (lo hi:P)
 |box (g off:Nat)
 |ep (g:Nat) (n:P) (off:Nat)
 |sp (a i:Bool) (row:List P) (off:Nat)
 |gl (g:Nat)
 |oI (g:Nat)
 |gd (b:Bool) (x:W)
 |clo (f:FuncId) (caps:List W)
 |no
instance:Inhabited W:=⟨.no⟩
inductive O where
 |none
 |box (ws:List W)
 |arr (fz a i:Bool) (sz:Nat) (l:List (List P))
 |it (s n:P)
 |aO (a i:Bool) (sz:Nat) (au:List (Nat×Nat)) (l:List (List P)) (hole:Option (Nat×Nat×Nat))
def O.cO:O->Bool
 |.none=>zv
 |.box _=>zj
 |.arr b _ _ _ _=>!b
 |.it _ _=>zj
 |.aO _ _ _ _ _ _=>zj
def O.pz:O->Bool
 |.aO _ _ _ _ _ _=>zj
 |_=>zv
def O.dim:O->Option (Nat×Nat)
 |.arr _ _ _ b l=>zw (b,l.length)
 |.aO _ _ b _ l _=>zw (b,l.length)
 |_=>Option.none
def O.inner:O->Option Bool
 |.arr zv _ i _ _=>zw i
 |.aO _ i _ _ _ _=>zw i
 |_=>Option.none
inductive V where
 |one (x:W)
 |agg (xs:List W)
inductive S where
 |v (x:V)
 |jy (xs:List V)
 |no
structure St where
 s:Nat->S
 o:Nat->O
 used:Nat->Bool
structure Gh where
 ad:Option Addr
 cap:Nat
 sub:Nat->Option (Nat×Nat)
def Gh.nil:Gh:=⟨zz,0,λ_=>zz⟩
def Gh.has(G:Gh)(b:Nat):Prop:=(∃ad,G.ad=zw ad/\ad.block=b)\/(G.sub b).isSome=zj
variable{G:Gh}
theorem Gh.kN{ad:Addr}(h:G.ad=zw ad):G.has ad.block:=.inl ⟨ad,h,rfl⟩
theorem Gh.not_nil(h:Gh.nil.has g):False:=by
 rcases h with⟨ad,h,_⟩|h
 .cases h
 .cases h
structure Env where
 FA:Nat->Prop
 FI:Nat->Prop
 B0:Nat
 w0:World
 Wr:Nat->Prop
 hg :∀g sz rows,fO.gt g=zw (sz,rows)->g<B0/\¬ Wr g/\∀(n:Nat) x,rows[n]?=zw x->x.length=sz/\∀(j:Nat) y,x[j]?=zw y->∃u,w0.cell? ⟨g,n*sz+j,zz⟩=zw u/\dH w0 (λ_=>False) y u
theorem Env.aea(E:Env)(h:fO.has g):g<E.B0/\¬ E.Wr g:=by
 unfold fO.has at h;cases hg:fO.gt g with
 |none=>rw[hg]at h;cases h
 |some x=>obtain⟨c,rows⟩:=x;exact⟨(E.hg g c rows hg).1,(E.hg g c rows hg).2.1⟩
def Env.ok(E:Env)(st:St)(gh:Nat->Gh)(w:World)(a i:Bool)(b:Nat):Prop:=((a=zj/\E.FA b)\/(i=zj/\(E.FI b\/E.Wr b))\/E.B0<=b\/fO.has b)/\b<w.heap.size/\∀g,(st.o g).cO=zj->¬ (gh g).has b
inductive f_(E:Env)(st:St)(gh:Nat->Gh)(w:World):W->Value->Prop where
 |p (a i:Bool) (x:P) (v:Value) (h:dH w (E.ok st gh w a i) x v):f_ E st gh w (.p a i x) v
 |dD:f_ E st gh w .dD (.slice zz 0 0)
 |own (g:Nat) (v:Value) (hv:v.oneCell'=zj) (h :∀sz len,(st.o g).dim=zw (sz,len)->v=.slice (gh g).ad len (gh g).cap):f_ E st gh w (.own g) v
 |vw (g:Nat) (lo hi:P) (v:Value) (hv:v.oneCell'=zj) (h :∀sz len,(st.o g).dim=zw (sz,len)->∃n m c:Nat,lo=.int .i64 n/\hi=.int .i64 m/\n<=m/\m<=len/\(m-n<=c/\n+c<=(gh g).cap)/\
   v=.slice (if(gh g).cap=n then(gh g).ad else(gh g).ad.map (·.add (n*sz))) (m-n) c):f_ E st gh w (.vw g lo hi) v
 |box (g off:Nat) (v:Value) (hv:v.oneCell'=zj) (h :∀ws,st.o g=.box ws->∃ad,(gh g).ad=zw ad/\v=.pointer (zw ⟨ad.block,ad.off+off,zz⟩)):f_ E st gh w (.box g off) v
 |ep (g:Nat) (n:P) (off:Nat) (v:Value) (hv:v.oneCell'=zj) (h :∀sz len,(st.o g).dim=zw (sz,len)->∃(ad:Addr) (k:Nat),(gh g).ad=zw ad/\n=.int .i64 k/\k<len/\v=.pointer (zw ⟨ad.block,ad.off+k*sz+off,zz⟩)):f_ E st gh w (.ep g n off) v
 |sp (a i:Bool) (row:List P) (off:Nat) (b o:Nat) (hb:row≠[]->E.ok st gh w a i b) (h :∀(j:Nat) y,row[j]?=zw y->∃u,w.cell? ⟨b,o+j,zz⟩=zw u/\dH w (E.ok st gh w a i) y u) :
   f_ E st gh w (.sp a i row off) (.pointer (zw ⟨b,o+off,zz⟩))
 |gl (g:Nat):f_ E st gh w (.gl g) (.pointer (zw ⟨g,0,zz⟩))
 |oI (g:Nat) (v:Value) (hv:v.oneCell'=zj) (h :∀s n,st.o g=.it s n->∃ad,(gh g).ad=zw ad/\v=.pointer (zw ⟨ad.block,0,zz⟩)):f_ E st gh w (.oI g) v
 |gd (b:Bool) (x:W) (v:Value) (h:b=zj->f_ E st gh w x v):f_ E st gh w (.gd b x) v
 |clo (f:FuncId) (caps:List W) (vs:List Value) (hl:caps.length=vs.length) (h :∀(j:Nat) x v,caps[j]?=zw x->vs[j]?=zw v->f_ E st gh w x v) :
   f_ E st gh w (.clo f caps) (.func (.func f) #[] vs.toArray)
 |no (v:Value):f_ E st gh w .no v
def W.names:W->List Nat
 |.own g|.vw g _ _|.box g _|.ep g _ _|.oI g=>[g]
 |.gd _ x=>x.names
 |.clo _ b=>b.attach.flatMap λ⟨x,_⟩=>x.names
 |_=>[]
def V.names:V->List Nat
 |.one x=>x.names
 |.agg xs=>xs.flatMap W.names
def S.names:S->List Nat
 |.v x=>x.names
 |.jy xs=>xs.flatMap V.names
 |.no=>[]
def dN:Option (Nat×Nat×Nat)->List Nat
 |some (_,_,d)=>[d]
 |none=>[]
def O.names:O->List Nat
 |.box c=>c.flatMap W.names
 |.aO _ _ _ _ _ b=>dN b
 |_=>[]
inductive sV(E:Env)(st:St)(gh:Nat->Gh)(w:World):V->Value->Prop where
 |one (x:W) (v:Value) (h:f_ E st gh w x v):sV E st gh w (.one x) v
 |agg (xs:List W) (cs:List Value) (hl:xs.length=cs.length) (hv :∀c∈cs,c.oneCell'=zj) (h :∀(j:Nat) x v,xs[j]?=zw x->cs[j]?=zw v->f_ E st gh w x v):sV E st gh w (.agg xs) (.agg cs.toArray)
inductive dU(E:Env)(st:St)(gh:Nat->Gh)(w:World):S->Value->Prop where
 |v (x:V) (v:Value) (h:sV E st gh w x v):dU E st gh w (.v x) v
 |jy (xs:List V) (vs:List Value) (hl:xs.length=vs.length) (h :∀(j:Nat) x v,xs[j]?=zw x->vs[j]?=zw v->sV E st gh w x v):dU E st gh w (.jy xs) (.tuple vs.toArray)
 |no (v:Value):dU E st gh w .no v
def jq(E:Env)(st:St)(gh:Nat->Gh)(w:World)(a i:Bool)(sz:Nat)(l:List (List P))(G:Gh):Prop:=
 (G.ad=zz/\G.cap=0/\l=[])\/
 ∃ad c e,G.ad=zw ad/\ad.spot=zz/\w.heap[ad.block]?=zw (.cells c e (0,0))/\ad.off+G.cap*sz<=c.size/\(l.length<=G.cap/\G.cap<=9223372036854775807)/\(∀x∈l,x.length=sz)/\
  ∀(n:Nat) x,l[n]?=zw x->∀(j:Nat) y,x[j]?=zw y->∃v,c[ad.off+n*sz+j]?=zw v/\dH w (E.ok st gh w a i) y v
def Ba(E:Env)(st:St)(gh:Nat->Gh)(w:World)(ws:List W)(G:Gh):Prop:=
 ∃ad c e,G.ad=zw ad/\ad.spot=zz/\w.heap[ad.block]?=zw (.cells c e (0,0))/\ad.off+ws.length<=c.size/\
  ∀(j:Nat) x,ws[j]?=zw x->∃v,c[ad.off+j]?=zw v/\v.oneCell'=zj/\f_ E st gh w x v
def Bc(E:Env)(st:St)(gh:Nat->Gh)(w:World)(a i:Bool)(G:Gh)(sz' n j:Nat)(y:P)(v:Value):Prop:=∃(b:List (List P)) (c:Option Addr) (k:Nat),y=P.gV sz' b/\v=.slice c b.length k/\jq E st gh w a i sz' b ⟨c,k,λ_=>zz⟩ /\∀ad,c=zw ad->G.sub ad.block=zw (n,j)
def iT(hole:Option (Nat×Nat×Nat))(n j:Nat):Option Nat:=match hole with
 |some (b,c,d)=>if b=n/\c=j then zw d else zz
 |none=>zz
def jr(E:Env)(st:St)(gh:Nat->Gh)(w:World)(a i:Bool)(G:Gh)(au:List (Nat×Nat))(hole:Option (Nat×Nat×Nat))(n j:Nat)(y:P)(v:Value):Prop:=
 match au.lookup j with
 |none=>dH w (E.ok st gh w a i) y v
 |some b=>match iT hole n j with
  |some d=>v.oneCell'=zj/\f_ E st gh w (.own d) v
  |none=>Bc E st gh w a i G b n j y v
def lT(E:Env)(st:St)(gh:Nat->Gh)(w:World)(a i:Bool)(sz:Nat)(au:List (Nat×Nat))(l:List (List P))(hole:Option (Nat×Nat×Nat))(G:Gh):Prop:=
 (G.ad=zz/\G.cap=0/\l=[]/\∀b,G.sub b=zz)\/
 ∃ad c e,G.ad=zw ad/\ad.spot=zz/\w.heap[ad.block]?=zw (.cells c e (0,0))/\ad.off+G.cap*sz<=c.size/\(l.length<=G.cap/\G.cap<=9223372036854775807)/\(∀x∈l,x.length=sz)/\
  (G.sub ad.block=zz/\∀b,(G.sub b).isSome=zj->∃c e f,w.heap[b]?=zw (.cells c e f))/\
  ∀(n:Nat) x,l[n]?=zw x->∀(j:Nat) y,x[j]?=zw y->∃v,c[ad.off+n*sz+j]?=zw v/\jr E st gh w a i G au hole n j y v
def nG(E:Env)(st:St)(gh:Nat->Gh)(w:World)(o:O)(G:Gh):Prop:=
 match o with
 |.none=>True
 |.box g=>Ba E st gh w g G
 |.arr zv a i b l=>jq E st gh w a i b l G
 |.arr zj a i b l=>dH w (E.ok st gh w a i) (.sl b l) (.slice G.ad l.length G.cap)
 |.aO a i b h l c=>lT E st gh w a i b h l c G
 |.it s n=>∃(ad:Addr) (d:ByteArray) (k:Nat),G.ad=zw ad/\s=.str d/\n=.int .i64 k/\w.heap[ad.block]?=zw (.stringIter d k)
structure Rel(E:Env)(st:St)(gh:Nat->Gh)(val:Nat->Value)(w:World):Prop where
 slots :∀t,dU E st gh w (st.s t) (val t)
 bI :∀g,nG E st gh w (st.o g) (gh g)
 inj :∀g g' b,(st.o g).cO=zj->(st.o g').cO=zj->(gh g).has b->(gh g').has b->g=g'
 wr :∀g b,(st.o g).cO=zj->(gh g).has b->(E.B0<=b\/E.Wr b)/\b<w.heap.size
 wi :∀g i b,(st.o g).inner=zw i->(gh g).has b->E.Wr b->i=zj
 ns :∀g,(st.o g).cO=zj->(st.o g).pz=zv->∀b,(gh g).sub b=zz
 wb :∀b,E.Wr b->b<E.B0
 frame :∀b,b<E.B0->¬ E.Wr b->w.heap[b]?=E.w0.heap[b]?
 size:E.B0<=w.heap.size
 os:w.os=E.w0.os
 tape:w.tape=E.w0.tape
 output:w.output=E.w0.output
 us :∀t,∀g∈(st.s t).names,st.used g=zj
 uo :∀g,∀g'∈(st.o g).names,st.used g'=zj
 ul :∀g,st.o g≠.none->st.used g=zj
def O.like(o o':O):Prop:=
 match o,o' with
 |_,.none=>True
 |.box _,.box _=>True
 |.arr _ _ _ c l,.arr _ _ _ b d=>c=b/\l.length=d.length
 |.aO _ _ c _ l _,.aO _ _ b _ d _=>c=b/\l.length=d.length
 |.aO _ _ c _ l _,.arr _ _ _ b d=>c=b/\l.length=d.length
 |.it _ _,.it _ _=>True
 |_,_=>False
theorem O.gy(o:O):o.like o:=by cases o<;>simp[O.like]
variable{o:O}
theorem O.kZ{fz:Bool}(h:o=.arr fz a c g l):o.dim=zw (g,l.length):=by rw[h];rfl
theorem O.kW{fz:Bool}{len:Nat}(h:(O.arr fz a c g l).dim=zw (n,len)):g=n/\l.length=len:=by simpa[O.dim]using h
variable{o':O}
theorem O.Dx(h:o.like o')(hd:o'.dim=zw p):o.dim=zw p:=by cases o'<;>cases o<;>simp only[O.like,O.dim]at * <;> first|(exact h.elim)|(rw[<-hd,h.1,h.2])|(cases hd)
theorem O.aeb(h:o.like o'){c:List W}(hd:o'=.box c):∃b,o=.box b:=by subst hd;cases o<;>first|exact h.elim|exact⟨_,rfl⟩
theorem O.aif(h:o.like o'){s n:P}(hd:o'=.it s n):∃b c,o=.it b c:=by subst hd;cases o<;>first|exact h.elim|exact⟨_,_,rfl⟩
structure Lets(E:Env)(st st':St)(gh bU:Nat->Gh)(w w':World):Prop where
 ok :∀a i b,E.ok st gh w a i b->E.ok st' bU w' a i b/\w'.heap[b]?=w.heap[b]?
 names :∀g,st.used g=zj->st'.o g=.none\/(((bU g).ad=(gh g).ad/\(bU g).cap=(gh g).cap)/\(st.o g).like (st'.o g))
section
variable {E:Env} {st st':St} {gh bU:Nat->Gh} {w w':World}
theorem Lets.lU(h:Lets E st st' gh bU w w')(r:dH w (E.ok st gh w i a) x v):dH w' (E.ok st' bU w' i a) x v:=r.mono (h.ok i a)
theorem Bd{f:FuncId}{caps:List W}{x:W}(b:caps[g]?=zw x)(hg:n∈x.names):n∈(W.clo f caps).names:=by unfold W.names;rw[Z2];exact⟨⟨x,Z1 b⟩,List.mem_attach _ _,hg⟩
theorem Lets.BM(h:Lets E st st' gh bU w w'){x:W}(hu :∀g∈x.names,st.used g=zj)(r:f_ E st gh w x v):f_ E st' bU w' x v:=by
 induction r with
 |p a i x v d=>exact .p a i x v (h.lU d)
 |dD=>exact .dD
 |own g v m d=>
  refine .own g v m λL len c=>?_;rcases h.names g (hu g (by simp[W.names]))with hn|⟨hg,q⟩
  .rw [hn]at c;cases c
  .rw [hg.1,hg.2];exact d _ _ (O.Dx q c)
 |vw g lo M v m d=>
  refine .vw g lo M v m λL len c=>?_;rcases h.names g (hu g (by simp[W.names]))with hn|⟨hg,q⟩
  .rw [hn]at c;cases c
  .rw [hg.1,hg.2];exact d _ _ (O.Dx q c)
 |box g off v m d=>
  refine .box g off v m λX c=>?_;rcases h.names g (hu g (by simp[W.names]))with hn|⟨hg,q⟩
  .rw [hn]at c;cases c
  .obtain ⟨N,J⟩:=O.aeb q c;rw[hg.1];exact d _ J
 |ep g n off v m d=>
  refine .ep g n off v m λL len c=>?_;rcases h.names g (hu g (by simp[W.names]))with hn|⟨hg,q⟩
  .rw [hn]at c;cases c
  .rw [hg.1];exact d _ _ (O.Dx q c)
 |sp a i row off b o H d=>exact .sp a i row off b o (λT=>(h.ok a i b (H T)).1) λj y z=>let ⟨u,hu,U⟩:=d j y z;⟨u,(World.cell?_of_block (w:=w) (h.ok a i b (H λe=>by rw[e]at z;simp at z)).2).trans hu,h.lU U⟩
 |gl g=>exact .gl g
 |oI g v m d=>
  refine .oI g v m λs n c=>?_;rcases h.names g (hu g (by simp[W.names]))with hn|⟨hg,q⟩
  .rw [hn]at c;cases c
  .obtain ⟨Y,Z,J⟩:=O.aif q c;rw[hg.1];exact d _ _ J
 |gd b x v d K=>exact .gd b x v λH=>K H (λg hg=>hu g (by simpa[W.names]using hg))
 |clo f B vs c d K=>exact .clo f B vs c λj x v z m=>K j x v z m λg hg=>hu g (Bd z hg)
 |no v=>exact .no v
theorem Lets.abD(h:Lets E st st' gh bU w w'){x:V}(hu :∀g∈x.names,st.used g=zj)(r:sV E st gh w x v):sV E st' bU w' x v:=by
 cases r with
 |one x v b=>exact .one x v (h.BM hu b)
 |agg xs m q c b=>exact .agg xs m q c λj x v d c=>h.BM (λg hg=>hu g (by simp only[V.names,Z2];exact⟨x,Z1 d,hg⟩)) (b j x v d c)
theorem Lets.aii(h:Lets E st st' gh bU w w'){x:S}(hu :∀g∈x.names,st.used g=zj)(r:dU E st gh w x v):dU E st' bU w' x v:=by
 cases r with
 |v x v b=>exact .v x v (h.abD hu b)
 |jy xs vs d b=>exact .jy xs vs d λj x v c m=>h.abD (λg hg=>hu g (by simp only[S.names,Z2];exact⟨x,Z1 c,hg⟩)) (b j x v c m)
 |no v=>exact .no v
theorem Lets.Dy(h:Lets E st st' gh bU w w')(d :∀ad,G.ad=zw ad->w'.heap[ad.block]?=w.heap[ad.block]?)
  (r:jq E st gh w i a g l G):jq E st' bU w' i a g l G:=by
 rcases r with r|⟨ad,c,e,b,sz,m,q,z,B,H⟩;exact .inl r;refine .inr ⟨ad,c,e,b,sz,by rw[d ad b];exact m,q,z,B,λn x J j y K=>?_⟩;obtain⟨v,L,M⟩:=H n x J j y K;exact⟨v,L,h.lU M⟩
theorem Lets.Y4(h:Lets E st st' gh bU w w'){y:P}
  (B :∀b,(G.sub b).isSome=zj->w'.heap[b]?=w.heap[b]?) (hu :∀j∈dN s,st.used j=zj) (r:jr E st gh w i a G q s g n y v):jr E st' bU w' i a G q s g n y v:=by
 unfold jr at *;cases hole:q.lookup n with
 |none=>rw[hole]at r;exact h.lU r
 |some H=>
  rw[hole]at r;simp only at *;cases c:iT s g n with
  |some d=>
   rw[c]at r;refine⟨r.1,h.BM (λj hg=>?_) r.2⟩;have:j=d:=by simpa[W.names]using hg
   subst this;refine hu j ?_;unfold iT at c;rcases s with _|⟨T,U,d⟩;cases c;simp only at c;split at c
   .cases c;simp[dN]
   .cases c
  |none=>rw[c]at r;obtain⟨J,K,k,L,M,N,z⟩:=r;exact⟨J,K,k,L,M,h.Dy (λad m=>B _ (by rw[z ad m];rfl)) N,z⟩
theorem Lets.amu(h:Lets E st st' gh bU w w')
  (m :∀b,G.has b->w'.heap[b]?=w.heap[b]?) (hu :∀sz∈dN s,st.used sz=zj) (r:lT E st gh w i a g q l s G):lT E st' bU w' i a g q l s G:=by
 rcases r with r|⟨ad,c,e,z,B,H,J,K,L,⟨M,hole⟩,N⟩;exact .inl r;refine .inr ⟨ad,c,e,z,B,by rw[m _ (Gh.kN z)];exact H,J,K,L,⟨M,λb d=>by rw[m b (.inr d)];exact hole b d⟩,λn x T j y U=>?_⟩;obtain⟨v,X,Y⟩:=N n x T j y U;exact⟨v,X,h.Y4 (λb d=>m b (.inr d)) hu Y⟩
theorem Lets.apv(h:Lets E st st' gh bU w w'){b:List W}(q :∀ad,G.ad=zw ad->w'.heap[ad.block]?=w.heap[ad.block]?)
  (hu :∀x∈b,∀g∈x.names,st.used g=zj) (r:Ba E st gh w b G):Ba E st' bU w' b G:=by
 obtain⟨ad,c,e,d,y,z,B,H⟩:=r;refine⟨ad,c,e,d,y,by rw[q ad d];exact z,B,λj x m=>?_⟩;obtain⟨v,J,K,L⟩:=H j x m;exact⟨v,J,K,h.BM (hu x (Z1 m)) L⟩
theorem Lets.Dz(h:Lets E st st' gh bU w w')(d:o.cO=zj->∀b,G.has b->w'.heap[b]?=w.heap[b]?)
  (hu :∀g∈o.names,st.used g=zj) (r:nG E st gh w o G):nG E st' bU w' o G:=by
 cases o with
 |none=>trivial
 |box L=>exact Lets.apv h (λad c=>d rfl _ (Gh.kN c)) (λx q g hg=>hu g (by simp only[O.names,Z2];exact⟨x,q,hg⟩)) r
 |arr y a i z l=>
  cases y with
  |false=>exact Lets.Dy h (λad c=>d rfl _ (Gh.kN c)) r
  |true=>exact h.lU r
 |aO a i z M l j=>exact Lets.amu h (d rfl) hu r
 |it s n=>obtain⟨ad,B,k,m,H,J,K⟩:=r;exact⟨ad,B,k,m,H,J,by rw[d rfl _ (Gh.kN m)];exact K⟩
end
end Go.Fw

namespace Go.Fw
variable [fO]
def P.list:P->List (List P)
 |.sl _ l=>l
 |_=>[]
def P.num:P->Int
 |.int _ n=>n
 |_=>0
theorem P.pF(sz:Nat)(l:List (List P)):(P.gV sz l).list=l:=by cases l<;>rfl
def P.nat(x:P):Nat:=x.num.toNat
def P.bytes:P->ByteArray
 |.str s=>s
 |_=>.empty
def P.isSlice:P->Prop
 |.sl _ _=>True
 |_=>False
def P.isStr:P->Prop
 |.str _=>True
 |_=>False
def P.Xg(sz:Nat):P->Prop
 |.sl b l=>b=sz\/l=[]
 |_=>False
def P.bin(op:BinOp)(x y:P):P:=
 match x,y with
 |.int k a,.int _ b=>
  match op with
  |.add=>.int k (k.wrap (a+b))
  |.sub=>.int k (k.wrap (a-b))
  |.mul=>.int k (k.wrap (a*b))
  |.quo=>.int k (k.wrap (a.tdiv b))
  |.rem=>.int k (a.tmod b)
  |.and=>.int k (bits .and k a b)
  |.or=>.int k (bits .or k a b)
  |.xor=>.int k (bits .xor k a b)
  |.andNot=>.int k (bits .andNot k a b)
  |.shl=>.int k (k.wrap (a*2 ^ min b.toNat k.bits))
  |.shr=>.int k (a.fdiv (2 ^ min b.toNat k.bits))
  |.eql=>.bool (a==b)
  |.neq=>.bool (a != b)
  |.lss=>.bool (decide (a<b))
  |.leq=>.bool (decide (a<=b))
  |.gtr=>.bool (decide (a>b))
  |.geq=>.bool (decide (a≥b))
 |.bool a,.bool b=>
  match op with
  |.eql=>.bool (a==b)
  |.neq=>.bool (a != b)
  |_=>default
 |.str a,.str b=>
  match op with
  |.add=>.str (a++b)
  |.eql=>.bool (a.toList==b.toList)
  |.neq=>.bool (!(a.toList==b.toList))
  |.lss=>.bool (Op.bytesLess a.toList b.toList)
  |.leq=>.bool (Op.bytesLess a.toList b.toList||a.toList==b.toList)
  |.gtr=>.bool (!(Op.bytesLess a.toList b.toList||a.toList==b.toList))
  |.geq=>.bool (!Op.bytesLess a.toList b.toList)
  |_=>default
 |_,_=>default
def P.Ua(op:BinOp)(x y:P):Prop:=
 match x,y with
 |.int k a,.int c b=>
  match op with
  |.shl|.shr=>0<=b
  |.quo|.rem=>k=c/\b≠0
  |_=>k=c
 |.str a,.str b=>
  match op with
  |.add=>a.size+b.size<=9223372036854775807
  |.eql|.neq|.lss|.leq|.gtr|.geq=>True
  |_=>False
 |_,_=>False
def P.Qr(op:BinOp)(x y:P):Prop:=
 match x,y with
 |.bool _,.bool _=>op=.eql\/op=.neq
 |_,_=>False
def P.un(op:UnOp)(x:P):P:=
 match op,x with
 |.neg,.int k n=>.int k (k.wrap (0-n))
 |.not,.bool b=>.bool (!b)
 |_,_=>default
def P.amv(op:UnOp)(x:P):Prop:=
 match op,x with
 |.neg,.int _ _=>True
 |.not,.bool _=>True
 |_,_=>False
def P.len:P->P
 |.sl _ l=>.int .i64 l.length
 |.str s=>.int .i64 s.size
 |_=>default
def P.min(x y:P):P:=
 match x,y with
 |.int k a,.int _ b=>.int k (if b<a then b else a)
 |_,_=>default
def P.max(x y:P):P:=
 match x,y with
 |.int k a,.int _ b=>.int k (if b>a then b else a)
 |_,_=>default
def P.ak7(x i:P):P:=
 match x,i with
 |.str s,.int _ n=>.int .u8 (s.data.getD n.toNat 0).toNat
 |_,_=>default
def P.sub(sz lo hi:Nat)(x:P):P:=P.gV sz ((x.list.take hi).drop lo)
inductive TK where
 |int (k:IntKind)
 |bool
 |str
 |slice (e:TypeId)
 |ptr
 |struct (fs:List (Nat×TypeId))
 |arr (n:Nat) (e:TypeId)
 |other
structure TI where
 k:TK
 size:Nat
 bytes:Nat
 zero:List Value
abbrev TT:=TypeId->Option TI
def TI.agg(i:TI):Bool:=
 match i.k with
 |.struct _=>zj
 |.arr _ _=>zj
 |_=>zv
def TI.eq(i:TI):Bool:=
 match i.k with
 |.struct _|.arr _ _=>Nat.ble i.size 8&&i.zero.all λv=>match v with|.int _ _|.bool _|.string _=>zj|_=>zv
 |_=>zv
def P.eqB:P->P->Bool
 |.int _ a,.int _ b=>a==b
 |.bool a,.bool b=>a==b
 |.str a,.str b=>a==b
 |_,_=>zv
def Y5(k:TK)(x y:P):Prop:=
 match k,x,y with
 |.int _,.int a _,.int b _=>a=b
 |.bool,.bool _,.bool _=>True
 |.str,.str _,.str _=>True
 |_,_,_=>False
def TK.flat:TK->Bool
 |.int _|.bool|.str=>zj
 |_=>zv
def TK.parts:TK->List (Nat×TypeId)
 |.struct b=>b
 |.arr n e=>if n=0 then[(1,e)]else(List.range' 0 n).map λi=>(i,e)
 |_=>[(1,0)]
def oK(tt:TT):Nat->List (Nat×TypeId)->List W->List W->Option (Prop×Bool)
 |_,[],[],[]=>zw (True,zj)
 |n,(off,t)::b,.p _ _ x::xs,.p _ _ y::d=>match tt t with
  |some i=>if off=n/\i.k.flat=zj/\i.size=1 then match oK tt (n+1) b xs d with
   |some c=>zw (Y5 i.k x y/\c.1,P.eqB x y&&c.2)
   |none=>zz
   else zz
  |none=>zz
 |_,_,_,_=>zz
def aij:BinOp->Option Bool
 |.eql=>zw zj
 |.neq=>zw zv
 |_=>zz
def cv:Value->W
 |.int k n=>.p zv zv (.int k n)
 |.bool b=>.p zv zv (.bool b)
 |.string s=>.p zv zv (.str s)
 |.slice zz 0 0=>.dD
 |v=>.p zv zv (.opq v)
def wQ:Value->S
 |.agg b=>if b.toList.all Value.oneCell'=zj then .v (.agg (b.toList.map cv))else .no
 |.tuple _=>.no
 |.func (.func f) ⟨[]⟩ ⟨[]⟩=>.v (.one (.clo f []))
 |v=>if v.oneCell'=zj then .v (.one (cv v))else .no
def St.dK(st:St):Operand->S
 |.tmp t=>st.s t
 |.const v=>wQ v
 |.func f=>.v (.one (.clo f []))
 |.global g=>match fO.gt g with
  |some _=>.v (.one (.gl g))
  |none=>.no
structure Fj where
 pre:Prop
 val:P
 dst:P->S
 aJ:P->List (Nat×O)
 new:List Nat
def lV(n:Nat):P:=.int .i64 n
def rV:P->List (Nat×O):=λ_=>[]
def scalar(x:P):S:=.v (.one (.p zv zv x))
def Fj.pure(x:S):Fj:=(.mk (True) (default) (λ_=>x) (rV) [])
def Fj.calc(pre:Prop)(x:P):Fj:={ pre,val:=x,dst:=scalar,aJ:=rV,new:=[] }
def bf{α:Type}(l:List α)(off:Nat)(new:List α):List α:=l.take off++new++l.drop (off+new.length)
def jM(l:List (List P))(n c:Nat)(y:P):List (List P):=l.set n (bf (l.getD n []) c [y])
def plainO(o:Nat->O)(g:Nat):Option (Bool×Bool×Nat×List (List P)):=
 match o g with
 |.arr _ a i b l=>zw (a,i,b,l)
 |.aO a i b _ l zz=>zw (a,i,b,l)
 |.aO a i b j l (zw (n,c,d))=>match o d with
  |.arr _ a' i' h m=>if j.lookup c=zw h/\c<b then zw (a||a',i||i',b,jM l n c (P.gV h m))else zz
  |_=>zz
 |_=>zz
def W.toP(o:Nat->O):W->Option (P×Bool×Bool×List Nat)
 |.p a i x=>zw (x,a,i,[])
 |.dD=>zw (.sl 0 [],zv,zv,[])
 |.own g=>match plainO o g with
  |some (a,i,b,l)=>zw (P.gV b l,a,i,(o g).names++[g])
  |none=>zz
 |.vw g lo c=>match plainO o g with
  |some (a,i,b,l)=>zw (P.gV b ((l.take c.nat).drop lo.nat),a,i,(o g).names++[g])
  |none=>zz
 |_=>zz
def yI(o:Nat->O):List W->Option (List P×Bool×Bool×List Nat)
 | []=>zw ([],zv,zv,[])
 |x::xs=>match x.toP o,yI o xs with
  |some (y,a,i,gs),zw (c,a',i',b)=>zw (y::c,a||a',i||i',gs++b)
  |_,_=>zz
def V.words:V->List W
 |.one x=>[x]
 |.agg xs=>xs
def bC(o:Nat->O)(g:Nat):Nat×O:=
 (g,match plainO o g with
  |some (a,i,b,l)=>.arr zj a i b l
  |none=>o g)
def yR(o:Nat->O)(gs:List Nat):Prop :=∀g∈gs,(plainO o g).isSome=zj/\∀d∈(o g).names,d∈gs
variable{o:Nat->O}
theorem yR.nil:yR o []:=λ_ h=>by cases h
theorem yR.append{G b:List Nat}(h:yR o G)(c:yR o b):yR o (G++b):=λg hg=>by
 rcases Ys.1 hg with x|x
 .exact ⟨(h g x).1,λd hd=>W6 _ ((h g x).2 d hd)⟩
 .exact ⟨(c g x).1,λd hd=>UV _ ((c g x).2 d hd)⟩
def O.hn:O->List Nat
 |.aO _ _ _ _ _ b=>dN b
 |_=>[]
def Agree(o o':Nat->O)(g:Nat):Prop:=o g=o' g/\∀d∈(o g).hn,o d=o' d
theorem DC{o':Nat->O}(h:Agree o o' g):plainO o g=plainO o' g:=by
 obtain⟨j,m⟩:=h;unfold plainO;rw[<-j];cases q:o g with
 |aO a i w y l b=>
  cases b with
  |none=>rfl
  |some x=>obtain⟨n,c,d⟩:=x;simp only;rw[m d (by rw[q];simp[O.hn,dN])]
 |_=>rfl
def V.gI(agg:Bool)(ws:List W):S:=
 if agg then .v (.agg ws)else match ws with
  | [x]=>.v (.one x)
  |_=>.no
def W.solid:W->Bool
 |.gd _ _=>zv
 |.no=>zv
 |_=>zj
def V.solid:V->Bool
 |.one x=>x.solid
 |.agg _=>zj
def TI.known(tt:TT)(i:TI):Bool:=
 match i.k with
 |.struct b=>b.all λf=>(tt f.2).isSome
 |.arr _ e=>(tt e).isSome
 |_=>zv
def nH(place:Nat->Option (Nat×Nat))(ws:List W):List (Nat×S)->Option (List W)
 | []=>zw ws
 |(n,.v x)::rest=>match place n with
  |some (off,size)=>if x.words.length=size/\off+size<=ws.length/\x.solid=zj then nH place (bf ws off x.words) rest else zz
  |none=>zz
 |_=>zz
def iI{α:Type}(ws:List α):Nat->List α
 |0=>[]
 |n+1=>ws++iI ws n
def chunks{α:Type}(sz:Nat):Nat->List α->List (List α)
 |0,_=>[]
 |n+1,l=>l.take sz::chunks sz n (l.drop sz)
def placeOf(tt:TT)(t:TypeId)(n:Nat):Option (Nat×Nat):=
 match tt t with
 |some { k:=.struct b,.. }=>match b[n]? with
  |some (off,u)=>(tt u).map λi=>(off,i.size)
  |none=>zz
 |some { k:=.arr m e,.. }=>if n<m then(tt e).map λi=>(n*i.size,i.size)else zz
 |_=>zz
def W.rows(o:Nat->O)(sz:Nat):W->Option (Prop×List (List P)×Bool×Bool)
 |.p a i x=>zw (x.Xg sz,x.list,a,i)
 |.dD=>zw (True,[],zv,zv)
 |.own g=>match o g with
  |.arr _ a i b l=>if b=sz then zw (True,l,a,i)else zz
  |_=>zz
 |.vw g lo c=>match o g with
  |.arr _ a i b l=>if b=sz then zw (True,(l.take c.nat).drop lo.nat,a,i)else zz
  |_=>zz
 |_=>zz
def lenOf(o:Nat->O):W->Option (Prop×P)
 |.p _ _ x=>zw (x.isSlice,x.len)
 |.dD=>zw (True,.int .i64 0)
 |.own g=>match (o g).dim with
  |some (_,len)=>zw (True,.int .i64 len)
  |none=>zz
 |.vw g lo b=>match (o g).dim with
  |some _=>zw (True,.int .i64 (b.nat-lo.nat:Nat))
  |none=>zz
 |_=>zz
def W.live(o:Nat->O):W->Bool
 |.box g _=>match o g with
  |.box _=>zj
  |_=>zv
 |.ep g _ _=>(o g).dim.isSome
 |.sp _ _ _ _=>zj
 |_=>zv
def W.shift(n:Nat):W->W
 |.box g off=>.box g (off+n)
 |.ep g k off=>.ep g k (off+n)
 |.sp a i row off=>.sp a i row (off+n)
 |x=>x
def inRange(ix:P)(n:Nat):Prop:=
 match ix with
 |.int _ k=>0<=k/\k<n
 |_=>False
def wR(tt:TT)(d:Nat)(o:Nat->O)(sT:TypeId)(s x:W):Option Fj:=
 match tt sT with
 |some { k:=.slice e,.. }=>match tt e with
  |some b=>if b.bytes=0 then zz else match x.rows o b.size with
   |none=>zz
   |some (ask,new,a',i')=>
    let c (j:Prop) (h:List (List P)) (a i:Bool) (kill:List (Nat×O)):Fj:=
     .mk (ask/\j/\(h.length+new.length)*b.bytes<=140737488355328) (.sl b.size (h++new)) (λ_=>.v (.one (.own d)))
      (λy=>kill++[(d,.arr zv (a||a') (i||i') b.size y.list)]) [d]
    match s with
    |.dD=>zw (c True [] zv zv [])
    |.own g=>match o g with
     |.arr zv a i m l=>if m=b.size/\g≠d then zw (c True l a i [(g,.none)])else zz
     |_=>zz
    |.vw g lo q=>match o g with
     |.arr zv a i m l=>if m=b.size/\g≠d then zw (c (lo=lV 0) (l.take q.nat) a i [(g,.none)])else zz
     |_=>zz
    |_=>zz
  |none=>zz
 |_=>zz
def nI(dflt:P):Option S->Option P
 |none=>zw dflt
 |some (.v (.one (.p _ _ x)))=>zw x
 |_=>zz
def jY:P->Prop
 |.int _ _=>True
 |_=>False
def Ub(z:List Value)(j:Nat):P:=match z[j]? with
 |some (.int k n)=>.int k n
 |some (.bool b)=>.bool b
 |some (.string s)=>.str s
 |some (.slice zz 0 0)=>.sl 0 []
 |some v=>.opq v
 |none=>default
def P.amx(x lo hi:P):P:=match x with
 |.str s=>.str (s.extract lo.nat hi.nat)
 |_=>default
def J7(l:List (List P)):P:=.str ⟨(l.map λr=>UInt8.ofNat ((r.getD 0 default).num.toNat)).toArray⟩
def isBytes(l:List (List P)):Prop :=∀r∈l,∃n,r=[.int .u8 n]
def Qs(x:P):P:=match x with
 |.str s=>.gV 1 (s.data.toList.map λb=>[.int .u8 b.toNat])
 |_=>default
def DF(tt:TT)(o:Nat->O)(t:TypeId)(x h m:S):Option Fj:=
 match tt t,x,h,m with
 |some { k:=.slice e,.. },.v (.one (.own g)),.v (.one (.p _ _ h)),.v (.one (.p _ _ m))=>match tt e,o g with
  |some b,.arr zv _ _ c l=>if c=b.size then
    zw (.mk (∃k j:Nat,h=.int .i64 k/\m=.int .i64 j/\k<=j/\j<=l.length) (default) (λ_=>.v (.one (.vw g (lV 0) h))) (rV) [])else zz
  |_,_=>zz
 |some { k:=.slice e,.. },.v (.one .dD),.v (.one (.p _ _ h)),.v (.one (.p _ _ m))=>match tt e with
  |some _=>zw (.mk (h=lV 0/\m=lV 0) (default) (λ_=>.v (.one .dD)) (rV) [])
  |none=>zz
 |_,_,_,_=>zz
def kernel(tt:TT)(d:Nat)(o:Nat->O)(f:Operand->S)(op:Op)(ty:TypeId):Option Fj:=
 match op with
 |.move x|.assign x=>match f x with
  |.no=>zz
  |s=>zw (.pure s)
 |.pick c x y=>match f c with
  |.v (.one (.p _ _ (.bool b)))=>match f x,f y with
   |.v (.one (.p a i x)),.v (.one (.p a' i' y))=>zw (.mk True (bif b then x else y) (λz=>.v (.one (.p (a||a') (i||i') z))) rV [])
   |x,y=>match (bif b then x else y)with
    |.no=>zz
    |s=>zw (.pure s)
  |_=>zz
 |.alloc t=>match tt t with
  |some i=>zw (.mk (True) (default) (λ_=>.v (.one (.box d 0))) (λ_=>[(d,.box (i.zero.map cv))]) [d])
  |none=>zz
 |.box t x=>match tt t,f x with
  |some i,.v x=>if x.words.length=i.size/\x.solid=zj then zw (.mk (True) (default) (λ_=>.v (.one (.box d 0))) (λ_=>[(d,.box x.words)]) [d])else zz
  |_,_=>zz
 |.build t parts=>match tt t with
  |some i=>if i.known tt=zj then match nH (placeOf tt t) (i.zero.map cv) (parts.toList.map λp=>(p.1,f p.2))with
   |some B=>zw (.pure (.v (.agg B)))
   |none=>zz
   else zz
  |none=>zz
 |.buildSlice t n parts=>match tt t with
  |some { k:=.slice e,.. }=>match tt e with
   |some h=>match nH (λm=>if m<n then zw (m*h.size,h.size)else zz) (iI (h.zero.map cv) n) (parts.toList.map λp=>(p.1,f p.2))with
    |some B=>match yI o B with
     |some (J,a,i,gs)=>if n+n*h.size<=16777216 then
       zw (.mk True (.sl h.size (chunks h.size n J)) (λ_=>.v (.one (.own d)))
        (λy=>gs.map (bC o)++[(d,.arr zv a i h.size y.list)]) [d])else zz
     |none=>zz
    |none=>zz
   |none=>zz
  |_=>zz
 |.load t x=>match tt t,f x with
  |some i,.v (.one (.box g off))=>match o g with
   |.box B=>if off+i.size<=B.length/\0<i.size then zw (.pure (V.gI i.agg ((B.drop off).take i.size)))else zz
   |_=>zz
  |some i,.v (.one (.ep g n off))=>match o g with
   |.arr _ a i' H l=>if off+i.size<=H/\0<i.size then zw (.pure (V.gI i.agg ((List.range i.size).map λj=>.p a i' ((l.getD n.nat []).getD (off+j) (Ub i.zero j)))))else zz
   |_=>zz
  |some i,.v (.one (.sp a i' row off))=>if 0<i.size then zw (.mk (off+i.size<=row.length) (default) (λ_=>V.gI i.agg ((List.range i.size).map λj=>.p a i' (row.getD (off+j) default))) (rV) [])else zz
  |_,_=>zz
 |.store t x y=>match tt t,f x,f y with
  |some i,.v (.one (.box g off)),.v y=>match o g with
   |.box B=>if off+i.size<=B.length/\y.words.length=i.size/\y.solid=zj then
     zw (.mk (True) (default) (λ_=>.no) (λ_=>[(g,.box (bf B off y.words))]) [])else zz
   |_=>zz
  |some i,.v (.one (.ep g n off)),.v y=>match o g,yI o y.words with
   |.arr zv a i' H l,zw (J,a',i'',gs)=>if off+i.size<=H/\J.length=i.size/\y.words.length=i.size/\y.solid=zj/\gs.contains g=zv then
     zw (.mk True (.sl H (l.set n.nat (bf (l.getD n.nat []) off J))) (λ_=>.no)
      (λz=>gs.map (bC o)++[(g,.arr zv (a||a') (i'||i'') H z.list)]) [])else zz
   |_,_=>zz
  |_,_,_=>zz
 |.nilCheck x=>match f x with
  |.v (.one x)=>if x.live o then zw (.pure (.v (.one x)))else zz
  |_=>zz
 |.binOp op t x y _=>match f x,f y with
  |.v (.one (.p _ _ x)),.v (.one (.p _ _ y))=>match tt t with
   |some { k:=.int _,.. }|some { k:=.str,.. }=>zw (.calc (P.Ua op x y) (P.bin op x y))
   |some { k:=.bool,.. }=>zw (.calc (P.Qr op x y) (P.bin op x y))
   |_=>zz
  |.v (.agg xs),.v (.agg U)=>match tt t with
   |some i=>match oK tt 0 i.k.parts xs U,aij op with
    |some c,zw b=>if i.eq=zj then zw (.calc c.1 (.bool (c.2==b)))else zz
    |_,_=>zz
   |none=>zz
  |_,_=>zz
 |.unOp op _ x=>match f x with
  |.v (.one (.p _ _ x))=>zw (.calc (P.amv op x) (P.un op x))
  |_=>zz
 |.convert s t x=>match tt s,tt t,f x with
  |some { k:=.int _,.. },zw { k:=.int k,.. },.v (.one (.p _ _ x))=>zw (.calc (jY x) (.int k (k.wrap x.num)))
  |some { k:=.slice e,.. },zw { k:=.str,.. },.v (.one x)=>match tt e with
   |some { k:=.int .u8,.. }=>match x.rows o 1 with
    |some (ask,l,_,_)=>zw (.calc (ask/\isBytes l) (J7 l))
    |none=>zz
   |_=>zz
  |some { k:=.str,.. },zw { k:=.slice e,.. },.v (.one (.p _ _ x))=>match tt e with
   |some { k:=.int .u8,.. }=>zw (.calc x.isStr (Qs x))
   |_=>zz
  |_,_,_=>zz
 |.makeSlice t n c=>match tt t,f n,f c with
  |some { k:=.slice e,.. },.v (.one (.p _ _ n)),.v (.one (.p _ _ c))=>match tt e with
   |some h=>match yI o (h.zero.map cv)with
    |some (J,zv,zv,[])=>if 0<h.size then
     zw (.mk (∃m k:Nat,n=.int .i64 m/\c=.int .i64 k/\m<=k/\h.bytes*k<=281474976710656/\k<=9223372036854775807) (.sl h.size (List.replicate n.nat J))
      (λ_=>.v (.one (.own d))) (λy=>[(d,.arr zv zv zv h.size y.list)]) [d])else zz
    |_=>zz
   |none=>zz
  |_,_,_=>zz
 |.slice t x lo q zz=>match tt t,f x with
  |some { k:=.slice e,.. },.v (.one x)=>match tt e,lenOf o x with
   |some h,zw (ask,len)=>match nI (lV 0) (lo.map f),nI len (q.map f)with
    |some lo,zw q=>match x with
     |.own g=>match (o g).dim with
      |some (H,l)=>if H=h.size then
        zw (.mk (∃m k:Nat,lo=.int .i64 m/\q=.int .i64 k/\m<=k/\k<=l) (default) (λ_=>.v (.one (.vw g lo q))) (rV) [])else zz
      |none=>zz
     |.p a i y=>zw (.mk (ask/\y.Xg h.size/\∃m k:Nat,lo=.int .i64 m/\q=.int .i64 k/\m<=k/\k<=y.list.length) (P.sub h.size lo.nat q.nat y)
       (λz=>.v (.one (.p a i z))) rV [])
     |.dD=>zw (.mk (lo=lV 0/\q=lV 0) (default) (λ_=>.v (.one .dD)) (rV) [])
     |_=>zz
    |_,_=>zz
   |_,_=>zz
  |some { k:=.str,.. },.v (.one (.p _ _ y))=>match nI (lV 0) (lo.map f),nI y.len (q.map f)with
   |some lo,zw q=>zw (.calc (y.isStr/\∃m k:Nat,lo=.int .i64 m/\q=.int .i64 k/\m<=k/\k<=y.bytes.size) (P.amx y lo q))
   |_,_=>zz
  |_,_=>zz
 |.slice t x zz (zw q) (zw X)=>DF tt o t (f x) (f q) (f X)
 |.fieldAddr t x n=>match tt t,placeOf tt t n,f x with
  |some { k:=.struct _,.. },zw (K,N),.v (.one x)=>if 0<N/\x.live o=zj then zw (.pure (.v (.one (x.shift K))))else zz
  |_,_,_=>zz
 |.field t x n=>match tt t,f x with
  |some { k:=.struct Y,.. },.v (.agg B)=>match Y[n]? with
   |some (off,u)=>match tt u with
    |some M=>if off+M.size<=B.length/\0<M.size then zw (.pure (V.gI M.agg ((B.drop off).take M.size)))else zz
    |none=>zz
   |none=>zz
  |_,_=>zz
 |.indexAddr t x T=>match tt t,f x,f T with
  |some { k:=.slice e,.. },.v (.one x),.v (.one (.p _ _ n))=>match tt e,x with
   |some h,.own g=>match (o g).dim with
    |some (H,l)=>if H=h.size then zw (.mk (inRange n l) (default) (λ_=>.v (.one (.ep g (lV n.nat) 0))) (rV) [])else zz
    |none=>zz
   |some h,.vw g lo q=>match (o g).dim with
    |some (H,_)=>if H=h.size then zw (.mk (inRange n (q.nat-lo.nat)) (default) (λ_=>.v (.one (.ep g (lV (lo.nat+n.nat)) 0))) (rV) [])else zz
    |none=>zz
   |some h,.p a i y=>zw (.mk (y.Xg h.size/\inRange n y.list.length) (default) (λ_=>.v (.one (.sp a i (y.list.getD n.nat []) 0))) (rV) [])
   |_,_=>zz
  |some { k:=.arr m e,.. },.v (.one (.gl g)),.v (.one (.p _ _ n))=>match tt e,fO.gt g with
   |some h,zw (H,rows)=>if H=h.size/\rows.length=m then zw (.mk (inRange n m) (default) (λ_=>.v (.one (.sp zv zv (rows.getD n.nat []) 0))) (rV) [])else zz
   |_,_=>zz
  |some { k:=.arr m e,.. },.v (.one x),.v (.one (.p _ _ (.int _ n)))=>match tt e with
   |some h=>if 0<=n/\n<m/\x.live o=zj then zw (.pure (.v (.one (x.shift (n.toNat*h.size)))))else zz
   |none=>zz
  |_,_,_=>zz
 |.index t x T=>match tt t,f x,f T with
  |some { k:=.str,.. },.v (.one (.p _ _ x)),.v (.one (.p _ _ n))=>zw (.calc (x.isStr/\inRange n x.bytes.size) (P.ak7 x n))
  |_,_,_=>zz
 |.range t x=>match tt t,f x with
  |some { k:=.str,.. },.v (.one (.p _ _ x))=>zw (.mk x.isStr x (λ_=>.v (.one (.oI d))) (λy=>[(d,.it y (lV 0))]) [d])
  |_,_=>zz
 |.extract t n=>match f t with
  |.jy xs=>match xs[n]? with
   |some x=>zw (.pure (.v x))
   |none=>zz
  |_=>zz
 |.makeFunc (.func g) first L=>if first.size=0 then
   match L.toList.mapM (λx=>match f x with|.v (.one w)=>zw w|_=>zz)with
   |some B=>zw (.pure (.v (.one (.clo g B))))
   |none=>zz
   else zz
 |.call { callee:=.builtin .len,args,argTypes }=>match args.toList,argTypes.toList with
  | [x],[t]=>match tt t,f x with
   |some { k:=.slice _,.. },.v (.one x)=>match lenOf o x with
    |some (ask,n)=>zw (.calc ask n)
    |none=>zz
   |some { k:=.str,.. },.v (.one (.p _ _ x))=>zw (.calc x.isStr x.len)
   |_,_=>zz
  |_,_=>zz
 |.call { callee:=.builtin .append,args,argTypes }=>match args.toList,argTypes.toList with
  | [s,x],Z::xT::_=>match tt xT,f s,f x with
   |some { k:=.slice _,.. },.v (.one s),.v (.one x)=>wR tt d o Z s x
   |_,_,_=>zz
  |_,_=>zz
 |.call { callee:=.builtin .min,args,.. }=>match args.toList with
  | [x,y]=>match f x,f y with
   |.v (.one (.p _ _ x)),.v (.one (.p _ _ y))=>zw (.calc (jY x/\jY y) (P.min x y))
   |_,_=>zz
  | [x,y,z]=>match f x,f y,f z with
   |.v (.one (.p _ _ x)),.v (.one (.p _ _ y)),.v (.one (.p _ _ z))=>zw (.calc (jY x/\jY y/\jY z) (P.min (P.min x y) z))
   |_,_,_=>zz
  |_=>zz
 |.call { callee:=.builtin .max,args,.. }=>match args.toList with
  | [x,y]=>match f x,f y with
   |.v (.one (.p _ _ x)),.v (.one (.p _ _ y))=>zw (.calc (jY x/\jY y) (P.max x y))
   |_,_=>zz
  | [x,y,z]=>match f x,f y,f z with
   |.v (.one (.p _ _ x)),.v (.one (.p _ _ y)),.v (.one (.p _ _ z))=>zw (.calc (jY x/\jY y/\jY z) (P.max (P.max x y) z))
   |_,_,_=>zz
  |_=>zz
 |_=>zz
end Go.Fw

namespace Go.Fw
variable [fO]
def St.aJ(st:St)(u:List (Nat×O))(new:List Nat):St:=
 { s:=st.s,o:=λg=>match u.lookup g with|some x=>x|none=>st.o g,used:=λg=>new.contains g||st.used g }
def St.put(st:St)(dst:Option Tmp)(x:S):St:=
 match dst with
 |some d=>{ st with s:=λt=>bif Nat.beq t d then x else st.s t }
 |none=>st
def fZ(gh:Nat->Gh)(g:Nat)(G:Gh):Nat->Gh:=λg'=>if g'=g then G else gh g'
def J8(val:Nat->Value)(dst:Option Tmp)(v:Value):Nat->Value:=
 match dst with
 |some d=>λt=>if t=d then v else val t
 |none=>val
section
variable {E:Env} {st st':St} {gh bU:Nat->Gh} {w w':World} {val:Nat->Value}
theorem f_.congr(j:st'.o=st.o){x:W}(r:f_ E st gh w x v):f_ E st' gh w x v:=by
 have h:E.ok st' gh w=E.ok st gh w:=by funext a i b;simp only[Env.ok,j]
 induction r with
 |p a i x v c=>exact .p a i x v (by rw[h];exact c)
 |dD=>exact .dD
 |own g v d c=>exact .own g v d (by rw[j];exact c)
 |vw g lo y v d c=>exact .vw g lo y v d (by rw[j];exact c)
 |box g off v d c=>exact .box g off v d (by rw[j];exact c)
 |ep g n off v d c=>exact .ep g n off v d (by rw[j];exact c)
 |sp a i row off b o z c=>exact .sp a i row off b o (by rw[h];exact z) (by rw[h];exact c)
 |gl g=>exact .gl g
 |oI g v d c=>exact .oI g v d (by rw[j];exact c)
 |gd b x v c q=>exact .gd b x v q
 |clo f m vs B c q=>exact .clo f m vs B q
 |no v=>exact .no v
theorem sV.congr(c:st'.o=st.o){x:V}(r:sV E st gh w x v):sV E st' gh w x v:=by
 cases r with
 |one x v h=>exact .one x v (h.congr c)
 |agg xs d g m h=>exact .agg xs d g m λj x v a b=>(h j x v a b).congr c
theorem dU.congr(c:st'.o=st.o){x:S}(r:dU E st gh w x v):dU E st' gh w x v:=by
 cases r with
 |v x v h=>exact .v x v (h.congr c)
 |jy xs vs d h=>exact .jy xs vs d λj x v a b=>(h j x v a b).congr c
 |no v=>exact .no v
theorem nG.congr(q:st'.o=st.o){x:O}{G:Gh}(r:nG E st gh w x G):nG E st' gh w x G:=by
 have g:E.ok st' gh w=E.ok st gh w:=by funext a i b;simp only[Env.ok,q]
 cases x with
 |none=>trivial
 |box ws=>obtain⟨ad,c,e,z,B,H,J,K⟩:=r;exact⟨ad,c,e,z,B,H,J,λj x L=>let ⟨v,a,b,c⟩:=K j x L;⟨v,a,b,c.congr q⟩⟩
 |arr T a i U l=>
  cases T with
  |false=>simpa only[nG,jq,g]using r
  |true=>simpa only[nG,g]using r
 |aO a i U X l m=>
  rcases r with r|⟨ad,c,e,z,B,H,J,K,Y,Z,h8⟩;exact .inl r;refine .inr ⟨ad,c,e,z,B,H,J,K,Y,Z,λn x L j y hy=>?_⟩;obtain⟨v,hv,h⟩:=h8 n x L j y hy;refine⟨v,hv,?_⟩;unfold jr at *;cases M:X.lookup j with
  |none=>rw[M]at h;simp only[g]at *;exact h
  |some sz'=>
   rw[M]at h;simp only at *;cases N:iT m n j with
   |some d=>rw[N]at h;exact⟨h.1,h.2.congr q⟩
   |none=>rw[N]at h;simpa only[Bc,jq,g]using h
 |it s n=>exact r
theorem Rel.put(h:Rel E st gh val w)(dst:Option Tmp){x:S}(m:dU E st gh w x v)(hu :∀g∈x.names,st.used g=zj):
  Rel E (st.put dst x) gh (J8 val dst v) w:=by
 cases dst with
 |none=>exact h
 |some d=>
  have c:(st.put (zw d) x).o=st.o:=rfl;refine⟨λt=>?_,λg=>(h.bI g).congr c,h.inj,h.wr,h.wi,h.ns,h.wb,h.frame,h.size,h.os,h.tape,h.output,λt g hg=>?_,h.uo,h.ul⟩
  .by_cases b:t=d
   .subst b;simp only[St.put,J8,if_true];have:Nat.beq t t=zj:=by simp
    rw[this];exact m.congr c
   .have j:Nat.beq t d=zv:=by cases h:Nat.beq t d with|false=>rfl|true=>exact absurd (Q6 h) b
    simp only[St.put,J8,Qt b,j];exact(h.slots t).congr c
  .by_cases b:t=d
   .subst b;have:Nat.beq t t=zj:=by simp
    simp only[St.put,this]at hg;exact hu g hg
   .have j:Nat.beq t d=zv:=by cases h:Nat.beq t d with|false=>rfl|true=>exact absurd (Q6 h) b
    simp only[St.put,j]at hg;exact h.us t g hg
theorem Rel.step(h:Rel E st gh val w)(j:Lets E st st' gh bU w w')(hs:st'.s=st.s)(m :∀g,st.used g=zj->st'.used g=zj)
  (q :∀g,nG E st' bU w' (st'.o g) (bU g))
  (inj :∀g g' b,(st'.o g).cO=zj->(st'.o g').cO=zj->(bU g).has b->(bU g').has b->g=g')
  (wr :∀g b,(st'.o g).cO=zj->(bU g).has b->(E.B0<=b\/E.Wr b)/\b<w'.heap.size)
  (wi :∀g i b,(st'.o g).inner=zw i->(bU g).has b->E.Wr b->i=zj)
  (ns :∀g,(st'.o g).cO=zj->(st'.o g).pz=zv->∀b,(bU g).sub b=zz)
  (frame :∀b,b<E.B0->¬ E.Wr b->w'.heap[b]?=w.heap[b]?) (size:w.heap.size<=w'.heap.size) (os:w'.os=w.os) (tape:w'.tape=w.tape) (output:w'.output=w.output)
  (uo :∀g,∀g'∈(st'.o g).names,st'.used g'=zj) (ul :∀g,st'.o g≠.none->st'.used g=zj):Rel E st' bU val w':=
 ⟨λt=>by rw[hs];exact j.aii (h.us t) (h.slots t),q,inj,wr,wi,ns,h.wb,λb c d=>(frame b c d).trans (h.frame b c d),K0 h.size size,os.trans h.os,tape.trans h.tape,
  output.trans h.output,λt g hg=>m g (h.us t g (by rw[hs]at hg;exact hg)),uo,ul⟩
theorem Rel.drew(h:Rel E st gh val w)(n:Nat):Rel E st gh val { w with drawn:=n }:=by have c:Lets E st st gh gh w { w with drawn:=n }:=⟨λa i b d=>⟨d,rfl⟩,λg _=>.inr ⟨⟨rfl,rfl⟩,O.gy _⟩⟩;exact h.step c rfl (λ_ h=>h) (λg=>c.Dz (λ_ _ _=>rfl) (h.uo g) (h.bI g)) h.inj h.wr h.wi h.ns (λ_ _ _=>rfl) (YY _) rfl rfl rfl h.uo h.ul
theorem Rel.fresh(h:Rel E st gh val w)(w':World)(y :∀b,b<w.heap.size->w'.heap[b]?=w.heap[b]?)(d:w.heap.size<=w'.heap.size)(z:w'.os=w.os)(j:w'.tape=w.tape)(m:w'.output=w.output):
  Rel E st gh val w'/\Lets E st st gh gh w w':=by
 have B:Lets E st st gh gh w w':=⟨λa i b c=>⟨⟨c.1,Up c.2.1 d,c.2.2⟩,y b c.2.1⟩,λg _=>.inr ⟨⟨rfl,rfl⟩,O.gy _⟩⟩;exact⟨h.step B rfl (λ_ h=>h) (λg=>B.Dz (λq b c=>y b (h.wr g b q c).2) (h.uo g) (h.bI g)) h.inj (λg b q c=>⟨(h.wr g b q c).1,Up (h.wr g b q c).2 d⟩) h.wi h.ns
  (λb c _=>y b (Up c h.size)) d z j m h.uo h.ul,B⟩
theorem O.lW{o:O}(h:o.inner=zw i):o.cO=zj:=by
 cases o with
 |arr c a d g l=>cases c<;>simp[O.inner,O.cO]at h ⊢
 |aO a d g j l b=>rfl
 |none=>simp[O.inner]at h
 |box m=>simp[O.inner]at h
 |it s n=>simp[O.inner]at h
theorem O.qA{o:O}(h:o.cO=zj):o≠.none:=by intro e;rw[e]at h;cases h
theorem Rel.aik(h:Rel E st gh val w)(hi:(st.o g).inner=zw a)(d:(gh g).has n)(c :∀g',(st'.o g').cO=zj->(st.o g').cO=zj/\g'≠g):E.ok st' gh w i a n:=by
 have m:=h.wr g n (O.lW hi) d;refine⟨?_,m.2,λg2 q j=>?_⟩
 .rcases m.1 with h0|h0
  .exact .inr (.inr (.inl h0))
  .exact .inr (.inl ⟨h.wi g a n hi d h0,.inr h0⟩)
 .exact (c g2 q).2 (h.inj g2 g n (c g2 q).1 (O.lW hi) j d)
theorem jq.plain{a i:Bool}{sz:Nat}{l:List (List P)}{G:Gh}(r:jq E st gh w a i sz l G)(J:Lets E st st' gh bU w w)(m :∀ad,G.ad=zw ad->E.ok st' bU w a i ad.block):
  dH w (E.ok st' bU w a i) (.sl sz l) (.slice G.ad l.length G.cap):=by
 rcases r with⟨h,B,q⟩|⟨ad,c,e,h,B,q,N,K,L,H⟩
 .subst q;rw[h];exact .nil sz zz _
 .rw [h];have b :∀n x,l[n]?=zw x->∀j y,x[j]?=zw y->w.cell? ⟨ad.block,ad.off+n*sz+j,zz⟩=c[ad.off+n*sz+j]?:=by intro n x d j y g;simp[World.cell?,q]
  refine .sl sz l ad G.cap (λn j=>(c[ad.off+n*sz+j]?).getD undef) B (λ_=>m ad h) K.1 L (λn x d j y g=>?_) (λn x d j y g=>?_)
  .obtain ⟨v,z,_⟩:=H n x d j y g;rw[b n x d j y g,z];rfl
  .obtain ⟨v,z,M⟩:=H n x d j y g;simp only[z,Option.getD_some];exact J.lU M
theorem Rel.kill(h:Rel E st gh val w)(g:Nat):Rel E (st.aJ [(g,.none)] []) gh val w/\Lets E st (st.aJ [(g,.none)] []) gh gh w w:=by
 have d :∀g',g'≠g->(st.aJ [(g,.none)] []).o g'=st.o g':=by
  intro g' c;have:(g'==g)=zv:=by simpa using c
  simp[St.aJ,List.lookup,this]
 have m:(st.aJ [(g,.none)] []).o g=.none:=by simp[St.aJ,List.lookup]
 have j :∀g',((st.aJ [(g,.none)] []).o g').cO=zj->(st.o g').cO=zj/\g'≠g:=by
  intro g' c;by_cases e:g'=g
  .subst e;rw[m]at c;simp[O.cO]at c
  .rw [d g' e]at c;exact⟨c,e⟩
 have B:Lets E st (st.aJ [(g,.none)] []) gh gh w w:=by
  refine⟨λK L b H=>⟨⟨H.1,H.2.1,λg' c=>H.2.2 g' (j g' c).1⟩,rfl⟩,λg' _=>?_⟩;by_cases e:g'=g
  .subst e;exact .inl m
  .exact .inr ⟨⟨rfl,rfl⟩,by rw[d g' e];exact O.gy _⟩
 refine⟨h.step B rfl (λg hg=>by simp[St.aJ,hg]) (λg'=>?_) (λg1 g2 b q y=>h.inj g1 g2 b (j g1 q).1 (j g2 y).1) (λg1 b q=>h.wr g1 b (j g1 q).1)
  (λg1 i1 b q y J=>by have e:g1≠g:=(j g1 (O.lW q)).2;rw[d g1 e]at q;exact h.wi g1 i1 b q y J)
  (λg1 q y=>by have e:g1≠g:=(j g1 q).2;rw[d g1 e]at q y;exact h.ns g1 q y)
  (λ_ _ _=>rfl) (YY _) rfl rfl rfl (λg' x z=>?_) (λg' c=>?_),B⟩
 .by_cases e:g'=g
  .subst e;rw[m];trivial
  .rw [d g' e];exact B.Dz (λ_ _ _=>rfl) (h.uo g') (h.bI g')
 .by_cases e:g'=g
  .subst e;rw[m]at z;simp[O.names]at z
  .rw [d g' e]at z;simpa[St.aJ]using h.uo g' x z
 .by_cases e:g'=g
  .subst e;exact absurd m c
  .rw [d g' e]at c;simpa[St.aJ]using h.ul g' c
theorem Rel.merge(h:Rel E st gh val w)(S:Nat->Prop)(d:Nat)(x:O)(G:Gh)(st':St)(w':World)
  (hs:st'.s=st.s) (L:st'.o d=x) (M :∀g,S g->g≠d->st'.o g=.none) (BN :∀g,¬ S g->g≠d->st'.o g=st.o g)
  (hus :∀g,st.used g=zj->st'.used g=zj) (hud:st'.used d=zj)
  (Hw:st.used d=zj->(G.ad=(gh d).ad/\G.cap=(gh d).cap)/\(st.o d).like x)
  (hB :∀b,G.has b->(∃g,(S g\/g=d)/\(st.o g).cO=zj/\(gh g).has b)\/(w.heap.size<=b/\b<w'.heap.size))
  (hw :∀b,b<w.heap.size->(∀g,(S g\/g=d)->(st.o g).cO=zj->¬ (gh g).has b)->w'.heap[b]?=w.heap[b]?)
  (X:w.heap.size<=w'.heap.size) (hos:w'.os=w.os) (htape:w'.tape=w.tape) (hout:w'.output=w.output)
  (hwi :∀i b,x.inner=zw i->G.has b->E.Wr b->i=zj) (hns:x.cO=zj->x.pz=zv->∀b,G.sub b=zz)
  (hx:Lets E st st' gh (fZ gh d G) w w'->nG E st' (fZ gh d G) w' x G)
  (hn :∀g∈x.names,st'.used g=zj) :
  Rel E st' (fZ gh d G) val w'/\Lets E st st' gh (fZ gh d G) w w':=by
 have q :∀g',g'≠d->fZ gh d G g'=gh g':=λg' e=>by simp[fZ,e]
 have B:fZ gh d G d=G:=by simp[fZ]
 have qP :∀g',(st'.o g').cO=zj->g'=d\/(g'≠d/\¬ S g'/\(st.o g').cO=zj):=by
  intro g' j;by_cases e:g'=d;exact .inl e;by_cases c:S g'
  .rw [M g' c e]at j;simp[O.cO]at j
  .rw [BN g' c e]at j;exact .inr ⟨e,c,j⟩
 have hl:Lets E st st' gh (fZ gh d G) w w':=by
  refine⟨λa' i' b N=>⟨⟨N.1,Up N.2.1 X,λg' j Y=>?_⟩,hw b N.2.1 λg _ hg=>N.2.2 g hg⟩,λg' j=>?_⟩
  .rcases qP g' j with e|⟨m,c,e3⟩
   .subst e;rw[B]at Y;rcases hB b Y with⟨g,_,hg,z⟩|⟨hb1,_⟩;exact N.2.2 g hg z;have:=N.2.1;omega
   .rw [q g' m]at Y;exact N.2.2 g' e3 Y
  .by_cases e:g'=d
   .subst e;rw[B,L];exact .inr (Hw j)
   .by_cases c:S g';exact .inl (M g' c e);exact .inr ⟨by rw[q g' e];exact⟨rfl,rfl⟩,by rw[BN g' c e];exact O.gy _⟩
 have apw :∀g1 b,g1≠d->¬ S g1->(st.o g1).cO=zj->(gh g1).has b->G.has b->False:=by
  intro g1 b m c e3 H Z;rcases hB b Z with⟨g,hg,T,z⟩|⟨hb1,_⟩
  .have:=h.inj g1 g b e3 T H z;subst this;rcases hg with hg|hg
   .exact c hg
   .exact m hg
  .have:=(h.wr g1 b e3 H).2;omega
 refine⟨h.step hl hs hus (λg'=>?_) (λg1 g2 b J U H Z=>?_) (λg1 b J H=>?_) (λg1 i1 b J U h3=>?_) (λg1 J U=>?_)
  (λb N hwr=>hw b (by have:=h.size;omega) λg _ hg z=>?_) X hos htape hout (λg' y hy=>?_) (λg' j=>?_),hl⟩
 .by_cases e:g'=d
  .subst e;rw[L,B];exact hx hl
  .by_cases c:S g'
   .rw [M g' c e];trivial
   .rw [BN g' c e,q g' e];refine hl.Dz (λho b N=>hw b (h.wr g' b ho N).2 λg hg T z=>?_) (h.uo g') (h.bI g');have:=h.inj g' g b ho T N z;subst this;rcases hg with hg|hg
    .exact c hg
    .exact e hg
 .rcases qP g1 J with m|⟨m,K,Xh⟩<;>rcases qP g2 U with c|⟨c,e2',apx⟩
  .rw [m,c]
  .subst m;rw[B]at H;rw[q g2 c]at Z;exact(apw g2 b c e2' apx Z H).elim
  .subst c;rw[B]at Z;rw[q g1 m]at H;exact(apw g1 b m K Xh H Z).elim
  .rw [q g1 m]at H;rw[q g2 c]at Z;exact h.inj g1 g2 b Xh apx H Z
 .rcases qP g1 J with m|⟨m,K,Xh⟩
  .subst m;rw[B]at H;rcases hB b H with⟨g,_,hg,z⟩|⟨hb1,hb2⟩
   .have:=h.wr g b hg z;exact⟨this.1,Up this.2 X⟩
   .exact ⟨.inl (K0 h.size hb1),hb2⟩
  .rw [q g1 m]at H;have:=h.wr g1 b Xh H;exact⟨this.1,Up this.2 X⟩
 .rcases qP g1 (O.lW J)with m|⟨m,K,Xh⟩
  .subst m;rw[L]at J;rw[B]at U;exact hwi i1 b J U h3
  .rw [BN g1 K m]at J;rw[q g1 m]at U;exact h.wi g1 i1 b J U h3
 .rcases qP g1 J with m|⟨m,K,Xh⟩
  .subst m;rw[L]at J U;rw[B];exact hns J U
  .rw [BN g1 K m]at U;rw[q g1 m];exact h.ns g1 Xh U
 .rcases (h.wr g b hg z).1 with h0|h0
  .omega
  .exact hwr h0
 .by_cases e:g'=d
  .subst e;rw[L]at hy;exact hn y hy
  .by_cases c:S g'
   .rw [M g' c e]at hy;simp[O.names]at hy
   .rw [BN g' c e]at hy;exact hus y (h.uo g' y hy)
 .by_cases e:g'=d
  .subst e;exact hud
  .by_cases c:S g';exact absurd (M g' c e) j;rw[BN g' c e]at j;exact hus g' (h.ul g' j)
theorem wS(w:World)(o:Obj)(b:Nat)(c:b<w.heap.size):(w.heap.push o)[b]?=w.heap[b]?:=by rw[Array.getElem?_push,Qt (by omega)]
theorem J9(gh:Nat->Gh)(g:Nat):fZ gh g (gh g)=gh:=by
 funext g';unfold fZ;split
 .rename_i e;rw[e]
 .rfl
theorem Ak{st:St}{x:O}{new:List Nat}:(st.aJ [(g,x)] new).o g=x/\∀g',g'≠g->(st.aJ [(g,x)] new).o g'=st.o g':=by
 refine⟨by simp[St.aJ,List.lookup],λg' b=>?_⟩;have:(g'==g)=zv:=by simpa using b
 simp[St.aJ,List.lookup,this]
theorem Rel.ak8(h:Rel E st gh val w)(d:Nat)(hd:st.used d=zv)(x:O)(ob:Obj)(G:Gh)(y:G.ad=zw ⟨w.heap.size,0,zz⟩)(q :∀b,G.sub b=zz)
  (z :∀bU w',Lets E st (st.aJ [(d,x)] [d]) gh bU w w'->bU=fZ gh d G->w'={ w with heap:=w.heap.push ob }->nG E (st.aJ [(d,x)] [d]) bU w' x G)
  (hn :∀g∈x.names,st.used g=zj) :
  Rel E (st.aJ [(d,x)] [d]) (fZ gh d G) val { w with heap:=w.heap.push ob }/\Lets E st (st.aJ [(d,x)] [d]) gh (fZ gh d G) w { w with heap:=w.heap.push ob }:=by
 have c :∀b,G.has b->b=w.heap.size:=by
  rintro b (⟨ad,h1,B⟩|h1)
  .rw [y]at h1;cases h1;exact B.symm
  .rw [q]at h1;cases h1
 refine h.merge (λ_=>False) d x G _ _ rfl Ak.1 (λg h=>h.elim) (λg _ hg=>Ak.2 g hg) (λg hg=>by simp[St.aJ,hg]) (by simp[St.aJ]) (λhu=>by rw[hd]at hu;cases hu)
  (λb j=>.inr (by rw[c b j];simp)) (λb j _=>wS w _ b j) (by simp) rfl rfl rfl (λi b _ j m=>?_) (λ_ _=>q) (λH=>z _ _ H rfl rfl) (λg hg=>by simp[St.aJ,hn g hg])
 have:=h.wb _ m;have:=h.size;have:=c b j;omega
theorem Rel.make(h:Rel E st gh val w)(d:Nat)(hd:st.used d=zv)(x:O)(c:Array Value)(e:TypeId)(G:Gh)(j:G.ad=zw ⟨w.heap.size,0,zz⟩)(m :∀b,G.sub b=zz)
  (q :∀bU w',Lets E st (st.aJ [(d,x)] [d]) gh bU w w'->bU=fZ gh d G->w'={ w with heap:=w.heap.push (.cells c e) }->nG E (st.aJ [(d,x)] [d]) bU w' x G)
  (hn :∀g∈x.names,st.used g=zj) :
  Rel E (st.aJ [(d,x)] [d]) (fZ gh d G) val { w with heap:=w.heap.push (.cells c e) }/\Lets E st (st.aJ [(d,x)] [d]) gh (fZ gh d G) w { w with heap:=w.heap.push (.cells c e) }:=
 h.ak8 d hd x (.cells c e) G j m q hn
theorem Rel.write(h:Rel E st gh val w)(g:Nat)(ad:Addr)(hg:(st.o g).cO=zj)(q:(gh g).ad=zw ad)(x:O)(L:(st.o g).like x)(w':World)
  (M :∀b,b≠ad.block->w'.heap[b]?=w.heap[b]?) (N:w'.heap.size=w.heap.size) (y:w'.os=w.os) (c:w'.tape=w.tape) (d:w'.output=w.output)
  (K:x.cO=zj) (z :∀i,x.inner=zw i->∃m,(st.o g).inner=zw m/\(m=zj->i=zj)) (B:x.pz=zv->(st.o g).pz=zv)
  (T:Lets E st (st.aJ [(g,x)] []) gh gh w w'->nG E (st.aJ [(g,x)] []) gh w' x (gh g))
  (hn :∀g∈x.names,st.used g=zj) :
  Rel E (st.aJ [(g,x)] []) gh val w'/\Lets E st (st.aJ [(g,x)] []) gh gh w w':=by
 have:=h.merge (λ_=>False) g x (gh g) (st.aJ [(g,x)] []) w' rfl Ak.1 (λg h=>h.elim) (λg _ hg=>Ak.2 g hg) (λg hg=>by simp[St.aJ,hg]) (by simp[St.aJ];exact h.ul g (O.qA hg))
  (λ_=>⟨⟨rfl,rfl⟩,L⟩) (λb j=>.inl ⟨g,.inr rfl,hg,j⟩) (λb _ j=>M b λe=>j g (.inr rfl) hg (e▸Gh.kN q)) (by omega) y c d
  (λi b U j H=>?_) (λ_ hd=>h.ns g hg (B hd)) (by rw[J9];exact T) (λg' J=>by simp[St.aJ,hn g' J])
 .rw [J9]at this;exact this
 .obtain ⟨m,X,Y⟩:=z i U;exact Y (h.wi g m b X j H)
theorem Rel.shift(h:Rel E st gh val w)(g d:Nat)(hd:st.used d=zv)(ad:Addr)(hg:(st.o g).cO=zj)(j:(gh g).ad=zw ad)(x:O)(G:Gh)(N:G.ad=zw ad)
  (T :∀b,(G.sub b).isSome=zj->((gh g).sub b).isSome=zj) (z:x.cO=zj->x.pz=zv->∀b,G.sub b=zz) (w':World)
  (U :∀b,b≠ad.block->w'.heap[b]?=w.heap[b]?) (X:w'.heap.size=w.heap.size) (B:w'.os=w.os) (c:w'.tape=w.tape) (m:w'.output=w.output)
  (H :∀i b,x.inner=zw i->G.has b->E.Wr b->i=zj)
  (Y:Lets E st (st.aJ [(g,.none),(d,x)] [d]) gh (fZ gh d G) w w'->nG E (st.aJ [(g,.none),(d,x)] [d]) (fZ gh d G) w' x G)
  (hn :∀g∈x.names,st.used g=zj) :
  Rel E (st.aJ [(g,.none),(d,x)] [d]) (fZ gh d G) val w'/\Lets E st (st.aJ [(g,.none),(d,x)] [d]) gh (fZ gh d G) w w':=by
 have q:st.used g=zj:=h.ul g (O.qA hg);have J:g≠d:=by intro e;subst e;rw[hd]at q;cases q
 refine h.merge (λg'=>g'=g) d x G _ w' rfl ?_ (λg' e _=>?_) (λg' y K=>?_) (λg hg=>by simp[St.aJ,hg]) (by simp[St.aJ]) (λhu=>by rw[hd]at hu;cases hu)
  (λb L=>.inl ⟨g,.inl rfl,hg,?_⟩) (λb _ L=>U b λe=>L g (.inl rfl) hg (e▸Gh.kN j)) (by omega) B c m H z Y (λg' M=>by simp[St.aJ,hn g' M])
 .have y:(d==g)=zv:=by simpa using J.symm
  simp[St.aJ,List.lookup,y]
 .subst e;simp[St.aJ,List.lookup]
 .have y:(g'==g)=zv:=by simpa using y
  have K:(g'==d)=zv:=by simpa using K
  simp[St.aJ,List.lookup,y,K]
 .rcases L with⟨Z,h1,h2⟩|h1
  .rw [N]at h1;cases h1;exact .inl ⟨ad,j,h2⟩
  .exact .inr (T b h1)
theorem Rel.Qu(h:Rel E st gh val w)(d:Nat)(hd:st.used d=zv)(x:O)(j:nG E (st.aJ [(d,x)] [d]) (fZ gh d Gh.nil) w x Gh.nil)(hn :∀g∈x.names,st.used g=zj):
  Rel E (st.aJ [(d,x)] [d]) (fZ gh d Gh.nil) val w/\Lets E st (st.aJ [(d,x)] [d]) gh (fZ gh d Gh.nil) w w:=
 h.merge (λ_=>False) d x Gh.nil _ w rfl Ak.1 (λg h=>h.elim) (λg _ hg=>Ak.2 g hg) (λg hg=>by simp[St.aJ,hg]) (by simp[St.aJ]) (λhu=>by rw[hd]at hu;cases hu)
  (λb c=>(Gh.not_nil c).elim) (λ_ _ _=>rfl) (YY _) rfl rfl rfl (λ_ b _ c=>(Gh.not_nil c).elim) (λ_ _ _=>rfl) (λ_=>j) (λg hg=>by simp[St.aJ,hn g hg])
theorem Rel.Uc(h:Rel E st gh val w)(d:Nat)(hd:st.used d=zv)(a i:Bool)(sz:Nat):
  Rel E (st.aJ [(d,.arr zv a i sz [])] [d]) (fZ gh d Gh.nil) val w/\Lets E st (st.aJ [(d,.arr zv a i sz [])] [d]) gh (fZ gh d Gh.nil) w w:=
 h.Qu d hd _ (.inl ⟨rfl,rfl,rfl⟩) (λg hg=>by simp[O.names]at hg)
theorem Rel.split(h:Rel E st gh val w){g d:Nat}(hd:st.used d=zv){a i:Bool}{sz:Nat}{au:List (Nat×Nat)}{l:List (List P)}(ho:st.o g=.aO a i sz au l zz)
  {n c J:Nat} {x:List P} {y:P} (hc:au.lookup c=zw J) (hxn:l[n]?=zw x) (hyc:x[c]?=zw y) :
  ∃(l':List (List P)) (K:Option Addr) (k:Nat) (bU:Nat->Gh),y=P.gV J l'/\(∃ad cs e,(gh g).ad=zw ad/\w.heap[ad.block]?=zw (.cells cs e (0,0))/\cs[ad.off+n*sz+c]?=zw (.slice K l'.length k))/\
   (bU d).ad=K/\(bU d).cap=k/\
   Rel E (st.aJ [(g,.aO a i sz au l (zw (n,c,d))),(d,.arr zv a i J l')] [d]) bU val w/\
   Lets E st (st.aJ [(g,.aO a i sz au l (zw (n,c,d))),(d,.arr zv a i J l')] [d]) gh bU w w:=by
 have hD:lT E st gh w a i sz au l zz (gh g):=by have:=h.bI g;rw[ho]at this;exact this
 rcases hD with⟨_,_,h3,_⟩|⟨ad,cs,e,h1,h2,h3,h4,h5,h6,⟨h7,h7'⟩,h8⟩
 .subst h3;simp at hxn
 obtain⟨v,hv,hr⟩:=h8 n x hxn c y hyc;simp only[jr,hc,iT]at hr;obtain⟨l',K,k,Z,N,hA,T⟩:=hr;subst N;have hgo:(st.o g).cO=zj:=by rw[ho];rfl
 have hgu:st.used g=zj:=h.ul g (O.qA hgo);have hgd:g≠d:=by intro e;subst e;rw[hd]at hgu;cases hgu
 let bU:Nat->Gh:=fZ (fZ gh g ⟨(gh g).ad,(gh g).cap,λb=>if K.map (·.block)=zw b then zz else(gh g).sub b⟩) d ⟨K,k,λ_=>zz⟩
 have L:bU d=⟨K,k,λ_=>zz⟩:=by simp[bU,fZ]
 have hGg:bU g=⟨(gh g).ad,(gh g).cap,λb=>if K.map (·.block)=zw b then zz else(gh g).sub b⟩:=by simp[bU,fZ,hgd]
 have U :∀g',g'≠g->g'≠d->bU g'=gh g':=λg' e1 j=>by simp[bU,fZ,e1,j]
 generalize B:st.aJ [(g,.aO a i sz au l (zw (n,c,d))),(d,.arr zv a i J l')] [d]=st';have hod:st'.o d=.arr zv a i J l':=by
  subst B;have e1:(d==g)=zv:=by simpa using hgd.symm
  simp[St.aJ,List.lookup,e1]
 have X:st'.o g=.aO a i sz au l (zw (n,c,d)):=by subst B;simp[St.aJ,List.lookup]
 have BN :∀g',g'≠g->g'≠d->st'.o g'=st.o g':=by
  intro g' e1 j;subst B;have e1:(g'==g)=zv:=by simpa using e1
  have j:(g'==d)=zv:=by simpa using j
  simp[St.aJ,List.lookup,e1,j]
 have hss:st'.s=st.s:=by subst B;rfl
 have hus :∀g,st.used g=zj->st'.used g=zj:=λg hg=>by subst B;simp[St.aJ,hg]
 have hud:st'.used d=zj:=by subst B;simp[St.aJ]
 have hne :∀g,st.used g=zj->g≠d:=λg hg e=>by subst e;rw[hd]at hg;cases hg
 have hdh :∀b,(bU d).has b->K.map (·.block)=zw b:=by
  rw[L];rintro b (⟨ad',h1,h2⟩|h1)
  .simp only at h1;rw[h1];simp[h2]
  .cases h1
 have hdg :∀b,(bU d).has b->(gh g).has b:=by
  intro b Y;have:=hdh b Y;cases m:K with
  |none=>rw[m]at this;cases this
  |some ad'=>rw[m]at this;simp at this;subst this;exact .inr (by rw[T ad' m];rfl)
 have hgg :∀b,(bU g).has b->(gh g).has b/\K.map (·.block)≠zw b:=by
  rw[hGg];rintro b (⟨ad',k1,q⟩|k1)
  .refine ⟨.inl ⟨ad',k1,q⟩,λe=>?_⟩;cases m:K with
   |none=>rw[m]at e;cases e
   |some DJ=>rw[m]at e;simp at e;have:=T DJ m;simp only at k1;rw[h1]at k1;cases k1;rw[e,<-q,h7]at this;cases this
  .simp only at k1;split at k1;cases k1;rename_i hc;exact⟨.inr k1,hc⟩
 have z :∀g1 b,(st'.o g1).cO=zj->(bU g1).has b->∃g0,(st.o g0).cO=zj/\(gh g0).has b/\(g1≠g->g1≠d->g0=g1)/\((g1=g\/g1=d)->g0=g):=by
  intro g1 b h1 h2;by_cases e:g1=g
  .subst e;exact⟨g1,hgo,(hgg b h2).1,λh=>(h rfl).elim,λ_=>rfl⟩
  .by_cases j:g1=d
   .subst j;exact⟨g,hgo,hdg b h2,λ_ h=>(h rfl).elim,λ_=>rfl⟩
   .rw [U g1 e j]at h2;rw[BN g1 e j]at h1;exact⟨g1,h1,h2,λ_ _=>rfl,λh=>h.elim (λh=>(e h).elim) (λh=>(j h).elim)⟩
 have hl:Lets E st st' gh bU w w:=by
  refine⟨λa' i' b Y=>⟨⟨Y.1,Y.2.1,λg' H had=>?_⟩,rfl⟩,λg' H=>.inr ?_⟩
  .obtain ⟨g0,k1,q,_⟩:=z g' b H had;exact Y.2.2 g0 k1 q
  .by_cases e:g'=g
   .subst e;rw[hGg,X,ho];exact⟨⟨rfl,rfl⟩,⟨rfl,rfl⟩⟩
   .rw [U g' e (hne g' H),BN g' e (hne g' H)];exact⟨⟨rfl,rfl⟩,O.gy _⟩
 refine⟨l',K,k,bU,Z,⟨ad,cs,e,h1,h3,hv⟩,by rw[L],by rw[L],?_⟩;rw[B];refine⟨h.step hl hss hus (λg'=>?_) (λg1 g2 b k1 q k3 k4=>?_) (λg1 b k1 q=>?_) (λg1 i1 b k1 q k3=>?_) (λg1 k1 q b=>?_)
  (λ_ _ _=>rfl) (YY _) rfl rfl rfl (λg' y Z=>?_) (λg' H=>?_),hl⟩
 .by_cases e:g'=g
  .subst e;rw[X,hGg];refine .inr ⟨ad,cs,_,h1,h2,h3,h4,h5,h6,⟨?_,λb Y=>?_⟩,λn' x' hx' j' y' hy'=>?_⟩
   .simp only;split
    .rfl
    .exact h7
   .simp only at Y;split at Y
    .cases Y
    .exact h7' b Y
   .obtain ⟨v',N,M⟩:=h8 n' x' hx' j' y' hy';refine⟨v',N,?_⟩;unfold jr at M ⊢;cases hc':au.lookup j' with
    |none=>rw[hc']at M;exact hl.lU M
    |some sz2=>
     rw[hc']at M;simp only[iT]at M ⊢;by_cases hnj:n=n'/\c=j'
     .rw [QQ hnj];obtain⟨e1,j⟩:=hnj;subst e1 j;rw[hv]at N;cases N;exact⟨rfl,.own _ _ rfl λsz3 atZ hd3=>by rw[hod]at hd3;obtain⟨_,j⟩:=O.kW hd3;rw[L,j]⟩
     .rw [Qt hnj];obtain⟨l2,ao2,q,q1,q2,q3,q4⟩:=M;refine⟨l2,ao2,q,q1,q2,hl.Dy (λ_ _=>rfl) q3,λDJ uD=>?_⟩;have:=q4 DJ uD;simp only;rw[Qt,this];intro e;cases m:K with
      |none=>rw[m]at e;cases e
      |some ad3=>rw[m]at e;simp at e;have h9:=T ad3 m;rw[e,this]at h9;cases h9;exact hnj ⟨rfl,rfl⟩
  .by_cases j:g'=d
   .subst j;rw[hod,L];exact hl.Dy (λ_ _=>rfl) hA
   .rw [BN g' e j,U g' e j];exact hl.Dz (λ_ _ _=>rfl) (h.uo g') (h.bI g')
 .by_cases hm:(g1=g\/g1=d)/\(g2=g\/g2=d)
  .rcases hm with⟨m1,m2⟩;rcases m1 with m1|m1<;>rcases m2 with m2|m2
   .rw [m1,m2]
   .subst m1 m2;exact absurd (hdh b k4) (hgg b k3).2
   .subst m1 m2;exact absurd (hdh b k3) (hgg b k4).2
   .rw [m1,m2]
  .obtain ⟨p1,q1,q2,q3,q4⟩:=z g1 b k1 k3;obtain⟨p2,r1,r2,r3,r4⟩:=z g2 b q k4;have:=h.inj p1 p2 b q1 r1 q2 r2;by_cases m1:g1=g\/g1=d
   .by_cases m2:g2=g\/g2=d;exact absurd ⟨m1,m2⟩ hm;rw[q4 m1,r3 (λe=>m2 (.inl e)) (λe=>m2 (.inr e))]at this;exact absurd (.inl this.symm) m2
   .by_cases m2:g2=g\/g2=d
    .rw [r4 m2,q3 (λe=>m1 (.inl e)) (λe=>m1 (.inr e))]at this;exact absurd (.inl this) m1
    .rw [q3 (λe=>m1 (.inl e)) (λe=>m1 (.inr e)),r3 (λe=>m2 (.inl e)) (λe=>m2 (.inr e))]at this;exact this
 .obtain ⟨g0,q1,q2,_⟩:=z g1 b k1 q;exact h.wr g0 b q1 q2
 .by_cases e:g1=g
  .subst e;rw[X]at k1;refine h.wi g1 i1 b ?_ (hgg b q).1 k3;rw[ho];exact k1
  .by_cases j:g1=d
   .subst j;rw[hod]at k1;refine h.wi g i1 b ?_ (hdg b q) k3;rw[ho];exact k1
   .rw [BN g1 e j]at k1;rw[U g1 e j]at q;exact h.wi g1 i1 b k1 q k3
 .by_cases e:g1=g
  .subst e;rw[X]at q;cases q
  .by_cases j:g1=d
   .subst j;rw[L]
   .rw [BN g1 e j]at k1 q;rw[U g1 e j];exact h.ns g1 k1 q b
 .by_cases e:g'=g
  .subst e;rw[X]at Z;simp[O.names,dN]at Z;subst Z;exact hud
  .by_cases j:g'=d
   .subst j;rw[hod]at Z;simp[O.names]at Z
   .rw [BN g' e j]at Z;exact hus _ (h.uo g' y Z)
 .by_cases e:g'=g
  .subst e;exact hus g' hgu
  .by_cases j:g'=d
   .subst j;exact hud
   .rw [BN g' e j]at H;exact hus _ (h.ul g' H)
end
end Go.Fw

namespace Go.Fw
variable [fO]
def qB(Pg:Program)(t:TypeId):TK->Prop
 |.int k=>Pg.underlying t=zw (.int k)
 |.bool=>Pg.underlying t=zw .bool
 |.str=>Pg.underlying t=zw .string
 |.slice e=>Pg.underlying t=zw (.slice e)
 |.ptr=>∃e,Pg.underlying t=zw (.pointer e)
 |.struct b=>∃gs:Array Field,Pg.underlying t=zw (.struct gs)/\gs.toList.map (λf=>(f.offset,f.type))=b
 |.arr n e=>Pg.underlying t=zw (.array n e)
 |.other=>∃d,Pg.underlying t=zw d/\(match d with|.struct _=>False|.array _ _=>False|_=>True)
structure qQ(Pg:Program)(t:TypeId)(i:TI):Prop where
 row:(Pg.info? t).map (λx=>(x.size,x.bytes,x.zero.map (·.cells.toList),x.zero.map λz=>match z with|.agg _=>zj|_=>zv))=zw (i.size,i.bytes,zw i.zero,zw i.agg)
 one:i.zero.all (·.oneCell')=zj
 len:i.zero.length=i.size
 kind:qB Pg t i.k
 eqs:i.eq=true->Pg.stoodInHeld t=false/\Pg.eqGuardType Pg.depth t=false/\∀f∈(Pg.fieldsOf t).toList,f.name≠"_"
def jv(Pg:Program)(tt:TT):Prop :=∀t i,tt t=zw i->qQ Pg t i
variable{Pg:Program}{i:TI}
theorem qQ.info(h:qQ Pg t i):
  ∃x z,Pg.info? t=zw x/\x.size=i.size/\x.bytes=i.bytes/\x.zero=zw z/\z.cells.toList=i.zero/\((match z with|.agg _=>zj|_=>zv)=i.agg):=by
 have b:=h.row;cases j:Pg.info? t with
 |none=>rw[j]at b;simp at b
 |some x=>
  rw[j]at b;simp only[W7,Q0,QP]at b;obtain⟨m,q,c,d⟩:=b;cases g:x.zero with
  |none=>rw[g]at c;simp at c
  |some z=>rw[g]at c d;simp only[W7,Q0]at c d;exact⟨x,z,rfl,m,q,g,c,d⟩
section
variable {Pg:Program} {tt:TT} {w:World}
theorem uF{x:TypeInfo}(h:Pg.info? t=zw x):(typeInfo t).run Pg w=.ok x w:=by simp[typeInfo,h]
theorem eU(h:qQ Pg t i):(sizeOf t).run Pg w=.ok i.size w:=by obtain⟨x,z,b,c,_⟩:=h.info;simp[sizeOf,uF b,c]
theorem fB{d:TypeDesc}(h:Pg.underlying t=zw d):(underlying t).run Pg w=.ok d w:=by simp[underlying,h]
theorem BO(h:qQ Pg t i):(isAgg t).run Pg w=.ok i.agg w:=by
 have b:=h.kind;unfold isAgg TI.agg;cases c:i.k<;>rw[c]at b<;>simp only[qB]at b
 case struct g=>obtain⟨gs,hu,_⟩:=b;simp[fB hu]
 case ptr=>obtain⟨e,hu⟩:=b;simp[fB hu]
 case other=>obtain⟨d,hu,hd⟩:=b;cases d<;>simp_all [fB hu]
 all_goals simp[fB b]
theorem oL(h:qQ Pg t i):∃z,(zeroValue t).run Pg w=.ok z w/\z.cells.toList=i.zero/\((match z with|.agg _=>zj|_=>zv)=i.agg):=by obtain⟨x,z,b,j,m,c,d,g⟩:=h.info;exact⟨z,by simp[zeroValue,uF b,c],d,g⟩
end
variable{w:World}
theorem iE{s:Sem Value}(h:s.run Pg w=.ok v X):(do let x <-s;pure (Next.value x):Sem Next).run Pg w=.ok (.value v) X:=by rw[Sem.run_bind,h];rfl
theorem aec{s:Sem Unit}(h:s.run Pg B=.ok () X):(do s;pure Next.skip:Sem Next).run Pg B=.ok .skip X:=by rw[Sem.run_bind,h];rfl
def Does(Pg:Program)(s:Sem Next)(w:World)(v:Value)(w':World):Prop:=s.run Pg w=.ok (.value v) w'\/(s.run Pg w=.ok .skip w'/\v=undef)
section
variable {E:Env} {st st':St} {gh bU:Nat->Gh} {w w':World} {val:Nat->Value}
theorem dU.dW{x:W}(h:dU E st gh w (.v (.one x)) v):f_ E st gh w x v:=by cases h with|v _ _ h=>cases h with|one _ _ h=>exact h
theorem dU.gB{i:Bool}{x:P}(h:dU E st gh w (.v (.one (.p i a x))) v):dH w (E.ok st gh w i a) x v:=by cases h.dW with|p _ _ _ _ h=>exact h
theorem dU.Jq{xs:List W}(h:dU E st gh w (.v (.agg xs)) v):
  ∃cs:List Value,v=.agg cs.toArray/\xs.length=cs.length/\(∀c∈cs,c.oneCell'=zj)/\∀(j:Nat) x u,xs[j]?=zw x->cs[j]?=zw u->f_ E st gh w x u:=by
 cases h with|v _ _ h=>cases h with|agg _ cs b d h=>exact⟨cs,rfl,b,d,h⟩
theorem dU.ofP{i:Bool}{x:P}(h:dH w (E.ok st gh w i a) x v):dU E st gh w (.v (.one (.p i a x))) v:=.v _ _ (.one _ _ (.p _ _ _ _ h))
theorem dU.Jr{x:W}(h:f_ E st gh w x v):dU E st gh w (.v (.one x)) v:=.v _ _ (.one _ _ h)
theorem dH.fJ{ok:Nat->Prop}{k:IntKind}{n:Int}(h:dH w ok (.int k n) v):v=.int k n:=by cases h;rfl
theorem dH.oM{ok:Nat->Prop}{i:Bool}(h:dH w ok (.bool i) v):v=.bool i:=by cases h;rfl
theorem dH.sZ{ok:Nat->Prop}{s:ByteArray}(h:dH w ok (.str s) v):v=.string s:=by cases h;rfl
theorem still(h:Rel E st gh val w){s:Sem Next}{x:S}(c:s.run Pg w=.ok (.value v) w)(d:dU E st gh w x v)(hu :∀g∈x.names,st.used g=zj):
  ∃v w' bU,Does Pg s w v w'/\Rel E (st.aJ [] []) bU val w'/\Lets E st (st.aJ [] []) gh bU w w'/\dU E (st.aJ [] []) bU w' x v/\∀g∈x.names,(st.aJ [] []).used g=zj:=by
 have e:st.aJ [] []=st:=by simp[St.aJ]
 rw[e];exact⟨v,w,gh,.inl c,h,⟨λa i b j=>⟨j,rfl⟩,λg _=>.inr ⟨⟨rfl,rfl⟩,O.gy _⟩⟩,d,hu⟩
end
def gJ(Pg:Program)(tt:TT)(op:Op):Prop:=
 ∀(E:Env) (st:St) (gh:Nat->Gh) (val:Nat->Value) (w:World) (ρ:Operand->Value) (F:Operand->S) (o:Oper) (d:Nat) (r:Fj),o.op=op->Rel E st gh val w->
  (∀x,dU E st gh w (F x) (ρ x))->(∀x,∀g∈(F x).names,st.used g=zj)->kernel tt d st.o F op o.type=zw r->r.pre->(∀g∈r.new,st.used g=zv)->
  ∃v w' bU,Does Pg (execOp ρ o) w v w'/\Rel E (st.aJ (r.aJ r.val) r.new) bU val w'/\Lets E st (st.aJ (r.aJ r.val) r.new) gh bU w w'/\dU E (st.aJ (r.aJ r.val) r.new) bU w' (r.dst r.val) v/\
   ∀g∈(r.dst r.val).names,(st.aJ (r.aJ r.val) r.new).used g=zj
theorem Xi{tt:TT}(x:Operand):gJ h tt (.move x):=by intro E st gh val w ρ F o d r g Pg j c b m hd;simp only[kernel]at b;split at b;cases b;cases b;exact still Pg (v:=ρ x) (by simp[execOp,g]) (j x) (c x)
theorem Qv{tt:TT}(x:Operand):gJ h tt (.assign x):=by intro E st gh val w ρ F o d r g Pg j c b m hd;simp only[kernel]at b;split at b;cases b;cases b;exact still Pg (v:=ρ x) (by simp[execOp,g]) (j x) (c x)
variable{E:Env}{gh:Nat->Gh}
theorem Env.qC{st:St}{i:Bool}(d:i=zj->c=zj)(hi:a=zj->J=zj)(h:E.ok st gh w i a g):E.ok st gh w c J g:=by
 refine⟨?_,h.2⟩;rcases h.1 with⟨x,y⟩|⟨x,y⟩|y
 .exact .inl ⟨d x,y⟩
 .exact .inr (.inl ⟨hi x,y⟩)
 .exact .inr (.inr y)
theorem Xj{tt:TT}(c x y:Operand):gJ h tt (.pick c x y):=by
 intro E st gh val w ρ F o d r M Pg z B j Y hd;simp only[kernel]at j;split at j
 rotate_left
 cases j;rename_i a i b N;have H:=z c;rw[N]at H;have T:=H.gB.oM;have J:dU E st gh w (bif b then F x else F y) (if b=zj then ρ x else ρ y):=by cases b<;>first|exact z x|exact z y
 have K :∀g∈(bif b then F x else F y).names,st.used g=zj:=by cases b<;>first|exact B x|exact B y
 have m:(execOp ρ o).run h w=.ok (.value (if b=zj then ρ x else ρ y)) w:=by simp[execOp,M,T,asBool]
 split at j
 .rename_i Z i1 x1 a2 i2 y1 U X;cases j;refine still Pg (v:=if b=zj then ρ x else ρ y) m ?_ (by intro g hg;simp[S.names,V.names,W.names]at hg);have rx:=z x;rw[U]at rx;have L:=z y;rw[X]at L;refine dU.ofP ?_;cases b
  .exact (L.gB).mono λ_ q=>⟨Env.qC (by intro Pg;simp[Pg]) (by intro Pg;simp[Pg]) q,rfl⟩
  .exact (rx.gB).mono λ_ q=>⟨Env.qC (by intro Pg;simp[Pg]) (by intro Pg;simp[Pg]) q,rfl⟩
 .generalize (bif b then F x else F y)=s at j J K;split at j;cases j;cases j;exact still Pg (v:=if b=zj then ρ x else ρ y) m J K
def P.val:P->Value
 |.int k n=>.int k n
 |.bool b=>.bool b
 |.str s=>.string s
 |_=>undef
variable{x y:P}
theorem Y6{ok abE:Nat->Prop}{op:BinOp}{h:Value}{ox oy:Operand}(rx:dH B ok x v)(m:dH B M y h)(c:P.Ua op x y):
  (eqGuard op t ox oy v h >>= λ_=>binOp op t v h).run Pg B=.ok (P.bin op x y).val B/\dH B abE (P.bin op x y) (P.bin op x y).val:=by
 cases x<;>cases y<;>simp only[P.Ua]at c<;>try exact c.elim
 case int.int k a q b=>
  obtain rfl:=rx.fJ;obtain rfl:=m.fJ;have hg:(eqGuard op t ox oy (.int k a) (.int q b)).run Pg B=.ok () B:=by simp[eqGuard]
  simp only[Sem.run_bind,hg,Result.andThen_ok];cases op
  case quo=>obtain⟨rfl,j⟩:=c;exact⟨by simp[binOp,Op.intDiv,j,P.bin,P.val],.int _ _⟩
  case rem=>obtain⟨rfl,j⟩:=c;exact⟨by simp[binOp,Op.intDiv,j,P.bin,P.val],.int _ _⟩
  case shl=>exact⟨by simp[binOp,Op.shift,show ¬ b<0 by omega,P.bin,P.val],.int _ _⟩
  case shr=>exact⟨by simp[binOp,Op.shift,show ¬ b<0 by omega,P.bin,P.val],.int _ _⟩
  case eql=>subst c;exact⟨by simp[binOp,Op.intCmp,P.bin,P.val],.bool _⟩
  case neq=>subst c;exact⟨by simp[binOp,Op.intCmp,P.bin,P.val],.bool _⟩
  case lss=>subst c;exact⟨by simp[binOp,Op.intCmp,P.bin,P.val],.bool _⟩
  case leq=>subst c;exact⟨by simp[binOp,Op.intCmp,P.bin,P.val],.bool _⟩
  case gtr=>subst c;exact⟨by simp[binOp,Op.intCmp,P.bin,P.val],.bool _⟩
  case geq=>subst c;exact⟨by simp[binOp,Op.intCmp,P.bin,P.val],.bool _⟩
  case add=>subst c;exact⟨by simp[binOp,Op.intArith,P.bin,P.val],.int _ _⟩
  case sub=>subst c;exact⟨by simp[binOp,Op.intArith,P.bin,P.val],.int _ _⟩
  case mul=>subst c;exact⟨by simp[binOp,Op.intArith,P.bin,P.val],.int _ _⟩
  case and=>subst c;exact⟨by simp[binOp,Op.intBits,P.bin,P.val,bits],.int _ _⟩
  case or=>subst c;exact⟨by simp[binOp,Op.intBits,P.bin,P.val,bits],.int _ _⟩
  case xor=>subst c;exact⟨by simp[binOp,Op.intBits,P.bin,P.val,bits],.int _ _⟩
  case andNot=>subst c;exact⟨by simp[binOp,Op.intBits,P.bin,P.val,bits],.int _ _⟩
 case str.str a b=>
  obtain rfl:=rx.sZ;obtain rfl:=m.sZ;have hg:(eqGuard op t ox oy (.string a) (.string b)).run Pg B=.ok () B:=by simp[eqGuard]
  simp only[Sem.run_bind,hg,Result.andThen_ok];cases op<;>simp only at c<;>try exact c.elim
  case add=>
   have:¬ ((a.size+b.size:Nat):Int)>IntKind.i64.max:=by simp[IntKind.max,IntKind.signed,IntKind.bits];omega
   exact⟨by simp only[binOp,Op.stringOp,Qt this];simp[P.bin,P.val],.str _⟩
  all_goals exact⟨by simp[binOp,Op.stringOp,P.bin,P.val],.bool _⟩
theorem aed{ok abE:Nat->Prop}{op:BinOp}{h:Value}{ox oy:Operand}(rx:dH B ok x v)(m:dH B M y h)(j:P.Qr op x y)
  (q:Pg.underlying t=zw .bool) :
  (eqGuard op t ox oy v h >>= λ_=>binOp op t v h).run Pg B=.ok (P.bin op x y).val B/\dH B abE (P.bin op x y) (P.bin op x y).val:=by
 cases x<;>cases y<;>simp only[P.Qr]at j<;>try exact j.elim
 case bool.bool a b=>
  obtain rfl:=rx.oM;obtain rfl:=m.oM;have hg:(eqGuard op t ox oy (.bool a) (.bool b)).run Pg B=.ok () B:=by simp[eqGuard]
  simp only[Sem.run_bind,hg,Result.andThen_ok];have c:(Op.equal t (.bool a) (.bool b)).run Pg B=.ok (a==b) B:=by unfold Op.equal Op.maxDepth;show (Op.equalIn (9999+1) t _ _).run Pg B=_;unfold Op.equalIn;simp[fB q]
  rcases j with rfl|rfl
  .exact ⟨by simp[binOp,c,P.bin,P.val],.bool _⟩
  .exact ⟨by simp[binOp,c,P.bin,P.val,bne],.bool _⟩
theorem iy{tt:TT}{st:St}{val:Nat->Value}(h:Rel E st gh val w){s:Sem Next}(b:s.run Pg w=.ok (.value v) w)
  (c :∀ok,dH w ok x v) :∃v w' bU,Does Pg s w v w'/\Rel E (st.aJ [] []) bU val w'/\Lets E st (st.aJ [] []) gh bU w w'/\dU E (st.aJ [] []) bU w' (scalar x) v/\
   ∀g∈(scalar x).names,(st.aJ [] []).used g=zj:=
 still h b (dU.ofP (c _)) (by simp[scalar,S.names,V.names,W.names])
theorem Hy{tt:TT}(m:jv h tt){st:St}{d:Nat}{w:TI}(q:tt t=zw w)(z:w.k.flat=zj){i i1 a2 i2:Bool}{u:Value}
  (b:f_ E st gh B (.p i i1 x) v) (c:f_ E st gh B (.p a2 i2 y) u) (j:Y5 w.k x y):(Op.equalIn (d+1) t v u).run h B=.ok (P.eqB x y) B:=by
 have g:=(m _ _ q).kind;cases b with
 |p _ _ _ _ b=>
  cases c with
  |p _ _ _ _ c=>
   revert g z j;cases w.k<;>intro z j g<;>simp only[TK.flat]at z<;>try (cases z;done)
   all_goals (cases x<;>cases y<;>try exact False.elim j)
   .obtain rfl:=b.fJ;obtain rfl:=c.fJ;obtain rfl:_=_:=j;exact run_equalIn_int B d t _ _ _ _ g
   .obtain rfl:=b.oM;obtain rfl:=c.oM;exact run_equalIn_bool' B d t _ _ g
   .obtain rfl:=b.sZ;obtain rfl:=c.sZ;rw[run_equalIn_string B d t _ _ g,<-beq_toListBytes];rfl
theorem Am{tt:TT}(b:jv h tt)(c:tt t=zw i)(d:i.k.flat=zj){cs:List Value}(w:cs[g]?=zw v):(part t cs.toArray g).run h B=.ok v B:=by
 have j:i.agg=zv:=by revert d;unfold TI.agg;cases i.k<;>intro n<;>first|rfl|cases n
 simp only[part,Sem.run_bind,BO (b _ _ c),j,Result.andThen_ok,Wb,if_false];rw[Kg,w];rfl
theorem DK{Pg:Program}{w:World}{tt:TT}(htt:jv Pg tt){E:Env}{st:St}{gh:Nat->Gh}{d:Nat}{cs ds:List Value}:∀(gs:List Field) (n:Nat) (xs ys:List W) (c:Prop×Bool),(∀f∈gs,f.name≠"_")->
  oK tt n (gs.map λf=>(f.offset,f.type)) xs ys=zw c->(∀(j:Nat) x,xs[j]?=zw x->∃u,cs[n+j]?=zw u/\f_ E st gh w x u)->(∀(j:Nat) x,ys[j]?=zw x->∃u,ds[n+j]?=zw u/\f_ E st gh w x u)->c.1->
  (Op.eqFields (d+1) cs.toArray ds.toArray gs).run Pg w=.ok c.2 w
 | [],n,[],[],c,_,h,_,_,_=>by simp only[Vc,oK,Q0]at h;subst h;rfl
 |f::gs,n,x::xs,y::ys,c,hn,h,hx,hy,hc=>by
  cases x with
  |p a1 i1 x=>cases y with
   |p a2 i2 y=>
    simp only[Qf,oK]at h;split at h
    rotate_left
    cases h;rename_i i hi;split at h
    rotate_left
    cases h;rename_i hoff;split at h
    rotate_left
    cases h;rename_i c' hc';cases h;obtain⟨u,hu,ru⟩:=hx 0 _ rfl;obtain⟨v,hv,rv⟩:=hy 0 _ rfl;obtain⟨o1,o2,o3⟩:=hoff;have ih:=DK htt (d:=d) (cs:=cs) (ds:=ds) gs (n+1) xs ys c' (λf hf=>hn f (V1 _ hf)) hc' (λj x h=>by have:=hx (j+1) x h;rwa [show n+(j+1)=n+1+j by omega]at this) (λj x h=>by have:=hy (j+1) x h;rwa [show n+(j+1)=n+1+j by omega]at this) hc.2;have hne:=hn f Kc;rw[Jn]at hu hv;simp only[Op.eqFields,QQ hne,Sem.run_bind,o1,Am htt hi o2 hu,Am htt hi o2 hv,Result.andThen_ok,Hy htt hi o2 ru rv hc.1];cases P.eqB x y;rfl;simpa using ih
   |_=>simp[oK]at h
  |_=>simp[oK]at h
 | [],n,_::_,_,c,_,h,_,_,_=>by simp[oK]at h
 | [],n,[],_::_,c,_,h,_,_,_=>by simp[oK]at h
 |f::gs,n,[],_,c,_,h,_,_,_=>by simp[oK]at h
 |f::gs,n,x::xs,[],c,_,h,_,_,_=>by cases x<;>simp[oK]at h
theorem OJ{Pg:Program}{w:World}{tt:TT}(b:jv Pg tt){E:Env}{st:St}{gh:Nat->Gh}{d:Nat}{cs ds:List Value}{e:TypeId}:∀(m n:Nat) (xs q:List W) (c:Prop×Bool),
  oK tt n ((List.range' n m).map λi=>(i,e)) xs q=zw c->(∀(j:Nat) x,xs[j]?=zw x->∃u,cs[n+j]?=zw u/\f_ E st gh w x u)->(∀(j:Nat) x,q[j]?=zw x->∃u,ds[n+j]?=zw u/\f_ E st gh w x u)->c.1->
  (Op.eqItems (d+1) e 1 cs.toArray ds.toArray (List.range' n m)).run Pg w=.ok c.2 w/\(0<m->∃i,tt e=zw i/\i.size=1)
 |0,n,[],[],c,h,_,_,_=>by simp only[List.range'_zero,Vc,oK,Q0]at h;subst h;exact⟨rfl,λh=>absurd h (KV 0)⟩
 |m+1,n,x::xs,y::q,c,h,J,K,L=>by
  rw[qv]at h ⊢;cases x with
  |p Z i1 x=>cases y with
   |p a2 i2 y=>
    simp only[Qf,oK]at h;split at h
    rotate_left
    cases h;rename_i i z;split at h
    rotate_left
    cases h;rename_i g;split at h
    rotate_left
    cases h;rename_i N B;cases h;obtain⟨u,hu,T⟩:=J 0 _ rfl;obtain⟨v,M,U⟩:=K 0 _ rfl;obtain⟨o1,H,X⟩:=g;have Y:=(OJ b (d:=d) (cs:=cs) (ds:=ds) m (n+1) xs q N B (λj x h=>by have:=J (j+1) x h;rwa [show n+(j+1)=n+1+j by omega]at this) (λj x h=>by have:=K (j+1) x h;rwa [show n+(j+1)=n+1+j by omega]at this) L.2).1;rw[Jn]at hu M;refine⟨?_,λ_=>⟨i,z,X⟩⟩;simp only[Op.eqItems,Sem.run_bind,Nat.mul_one,Am b z H hu,Am b z H M,Result.andThen_ok,Hy b z H T U L.1];cases P.eqB x y;rfl;simpa using Y
   |_=>simp[oK]at h
  |_=>simp[oK]at h
 |0,n,_::_,_,c,h,_,_,_=>by simp[oK]at h
 |0,n,[],_::_,c,h,_,_,_=>by simp[oK]at h
 |m+1,n,[],_,c,h,_,_,_=>by simp[qv,oK]at h
 |m+1,n,x::xs,[],c,h,_,_,_=>by cases x<;>simp[qv,oK]at h
theorem Ud{Pg:Program}{w:World}{tt:TT}(htt:jv Pg tt){E:Env}{st:St}{gh:Nat->Gh}{t:TypeId}{i:TI}(ok:qQ Pg t i)(hs:Pg.stoodInHeld t=false)(hn :∀f∈(Pg.fieldsOf t).toList,f.name≠"_"){xs ys:List W}{c:Prop×Bool}{cs ds:List Value}
  (h:oK tt 0 i.k.parts xs ys=zw c) (hl:xs.length=cs.length) (hl':ys.length=ds.length) (hr :∀(j:Nat) x u,xs[j]?=zw x->cs[j]?=zw u->f_ E st gh w x u) (hr' :∀(j:Nat) x u,ys[j]?=zw x->ds[j]?=zw u->f_ E st gh w x u) (hc:c.1) :
  (Op.equalIn 10000 t (.agg cs.toArray) (.agg ds.toArray)).run Pg w=.ok c.2 w:=by
 have key :∀{zs:List W} {es:List Value},zs.length=es.length->(∀(j:Nat) x u,zs[j]?=zw x->es[j]?=zw u->f_ E st gh w x u)->∀(j:Nat) x,zs[j]?=zw x->∃u,es[0+j]?=zw u/\f_ E st gh w x u:=by intro zs es he hr j x hx;have hj:=(Q3.1 hx).1;exact⟨es[j]'(by omega),by rw[Vi,Q2 (by omega)],hr j x _ hx (Q2 (by omega))⟩
 have hk:=ok.kind;have k1:=key hl hr;have k2:=key hl' hr';cases hki:i.k with
 |struct fs=>
  rw[hki]at hk h;obtain⟨gs,g1,g2⟩:=hk;have hf:Pg.fieldsOf t=gs:=by unfold Program.fieldsOf;rw[g1]
  rw[run_equalIn_struct w 9999 t _ _ (by rw[hf];exact g1) hs,hf];rw[hf]at hn;simp only[TK.parts]at h;rw[<-g2]at h;exact DK htt gs.toList 0 xs ys c hn h k1 k2 hc
 |arr n e=>
  rw[hki]at hk h;simp only[TK.parts]at h;split at h
  .cases xs with
   |nil=>simp[oK]at h
   |cons x xs=>cases ys with
    |nil=>cases x<;>simp[oK]at h
    |cons y ys=>cases x<;>cases y<;>simp[oK]at h<;>(split at h<;>cases h)
  .rename_i hn0;obtain⟨r1,r2⟩:=OJ htt (d:=9998) n 0 xs ys c h k1 k2 hc;obtain⟨ie,he,hsz⟩:=r2 (by omega);obtain⟨info,z,hi,hsi,_⟩:=(htt _ _ he).info;rw[run_equalIn_array w 9999 _ _ hk hi,vi];have:Pg.cellsOf e=1:=by unfold Program.cellsOf;rw[hi];simp[hsi,hsz]
   rw[this];exact r1
 |_=>
  rw[hki]at h;simp only[TK.parts]at h;cases xs with
  |nil=>simp[oK]at h
  |cons x xs=>cases ys with
   |nil=>cases x<;>simp[oK]at h
   |cons y ys=>cases x<;>cases y<;>simp[oK]at h<;>(split at h<;>cases h)
theorem abG{tt:TT}(m:jv Pg tt)(op:BinOp)(t:TypeId)(x y:Operand)(u:TypeId):gJ Pg tt (.binOp op t x y u):=by
 intro E st gh val w ρ F o d r B h H Y g J hd;simp only[kernel]at g;split at g
 .rename_i a i x' a' i' y' L M;have rx:=H x;rw[L]at rx;have z:=H y;rw[M]at z;split at g
  .cases g;have j:=λok=>Y6 (Pg:=Pg) (abE:=ok) (t:=t) (ox:=x) (oy:=y) rx.gB z.gB J;exact iy (tt:=tt) h (by unfold execOp;rw[B];exact iE (j λ_=>True).1) λok=>(j ok).2
  .cases g;have j:=λok=>Y6 (Pg:=Pg) (abE:=ok) (t:=t) (ox:=x) (oy:=y) rx.gB z.gB J;exact iy (tt:=tt) h (by unfold execOp;rw[B];exact iE (j λ_=>True).1) λok=>(j ok).2
  .rename_i K;cases g;have j:=λok=>aed (Pg:=Pg) (abE:=ok) (t:=t) (ox:=x) (oy:=y) rx.gB z.gB J (m _ _ K).kind;exact iy (tt:=tt) h (by unfold execOp;rw[B];exact iE (j λ_=>True).1) λok=>(j ok).2
  .cases g
 .rename_i xs ys L M;split at g
  rotate_left
  cases g;rename_i i K;split at g
  rotate_left
  cases g;rename_i c b Z j;split at g
  rotate_left
  cases g;rename_i he;cases g;have rx:=H x;rw[L]at rx;have z:=H y;rw[M]at z;obtain⟨cs,N,hl,_,hr⟩:=rx.Jq;obtain⟨ds,T,U,_,X⟩:=z.Jq;obtain⟨e1,e2,e3⟩:=(m _ _ K).eqs he;have q:=Ud m (m _ _ K) e1 e3 Z hl U hr X J;refine iy (tt:=tt) h (v:=.bool (c.2==b)) ?_ λok=>.bool _;unfold execOp;rw[B];refine iE ?_;rw[N,T,Sem.run_bind,run_eqGuard_agg w op t x y _ _ e2,Result.andThen_ok];cases op<;>simp only[aij]at j<;>cases j
  .rw [run_eql_struct,q,Result.andThen_ok];simp
  .rw [run_neq_struct,q,Result.andThen_ok];cases c.2<;>rfl
 .cases g
theorem aee{tt:TT}(op:UnOp)(t:TypeId)(x:Operand):gJ h tt (.unOp op t x):=by
 intro E st gh val w ρ F o d r m Pg q y c g hd;simp only[kernel]at c;split at c
 rotate_left
 cases c;rename_i a i b z;cases c;have rx:=q x;rw[z]at rx;have rx:=rx.gB;have g:P.amv op b:=g;have j:(Op.unary op (ρ x)).run h w=.ok (P.un op b).val w/\∀ok,dH w ok (P.un op b) (P.un op b).val:=by
  cases op<;>cases b<;>simp only[P.amv]at g
  .rw [rx.fJ];exact⟨by simp[Op.unary,Op.intArith,P.un,P.val],λok=>.int _ _⟩
  .rw [rx.oM];exact⟨by simp[Op.unary,P.un,P.val],λok=>.bool _⟩
 exact iy (tt:=tt) Pg (by unfold execOp;rw[m];exact iE j.1) j.2
theorem dZ{x:W}:g∈(S.v (.one x)).names↔g∈x.names:=by simp[S.names,V.names]
theorem Addr.ji(b o n:Nat):(⟨b,o,zz⟩:Addr).add n=⟨b,o+n,zz⟩:=by
 unfold Addr.add;split
 .simp [*]
 .rfl
theorem f_.J_{st:St}{x:W}(h:f_ E st gh B x v)(c:x.live st.o=zj):
  ∃b o,v=.pointer (zw ⟨b,o,zz⟩)/\∀n,f_ E st gh B (x.shift n) (.pointer (zw ⟨b,o+n,zz⟩)):=by
 cases h with
 |box g off v H q=>
  simp only[W.live]at c;cases j:st.o g with
  |box J=>obtain⟨ad,d,z⟩:=q J j;refine⟨_,_,z,λn=>.box g (off+n) _ rfl λK _=>⟨ad,d,by rw[J1]⟩⟩
  |_=>rw[j]at c;cases c
 |ep g n off v H q=>
  simp only[W.live]at c;cases j:(st.o g).dim with
  |some x=>obtain⟨T,len⟩:=x;obtain⟨ad,k,d,hn,L,z⟩:=q _ _ j;refine⟨_,_,z,λm=>.ep g n (off+m) _ rfl λM w y=>?_⟩;rw[j]at y;cases y;exact⟨ad,k,d,hn,L,by rw[J1]⟩
  |none=>rw[j]at c;cases c
 |sp a i row off b o q N=>exact⟨b,o+off,rfl,λn=>by rw[J1];exact .sp a i row (off+n) b o q N⟩
 |_=>simp[W.live]at c
theorem W.Hz(n:Nat)(x:W):(x.shift n).names=x.names:=by cases x<;>simp[W.shift,W.names]
theorem Ko{tt:TT}(x:Operand):gJ h tt (.nilCheck x):=by
 intro E st gh val w ρ F o d r m Pg q g c B hd;simp only[kernel]at c;split at c
 rotate_left
 cases c;rename_i H j;split at c
 .rename_i y;cases c;have rx:=q x;rw[j]at rx;obtain⟨b,o',z,_⟩:=rx.dW.J_ y;exact still Pg (v:=ρ x) (by unfold execOp;rw[m];simp[z]) rx (by have:=g x;rw[j]at this;exact this)
 .cases c
theorem yS{tt:TT}{fs:List (Nat×TypeId)}{off sz:Nat}(h:tt t=zw ⟨.struct fs,g,n,z⟩)(c:placeOf tt t b=zw (off,sz)):
  ∃u d,fs[b]?=zw (off,u)/\tt u=zw d/\d.size=sz:=by
 unfold placeOf at c;rw[h]at c;simp only at c;split at c
 rotate_left
 cases c;rename_i a u hn;cases hu:tt u with
 |none=>rw[hu]at c;simp at c
 |some d=>rw[hu]at c;simp only[W7,Q0,QP]at c;exact⟨u,d,by rw[hn,c.1],hu,c.2⟩
theorem DL{fs:List (Nat×TypeId)}(h:qQ Pg t ⟨.struct fs,g,n,z⟩){off:Nat}(hn:fs[b]?=zw (off,e)):
  ∃gs f,Pg.underlying t=zw (.struct gs)/\gs[b]?=zw f/\f.offset=off/\f.type=e:=by
 obtain⟨gs,hu,c⟩:=h.kind;rw[<-c]at hn;simp only[Z0,Wg,QP]at hn;obtain⟨f,d,u,j⟩:=hn;exact⟨gs,f,hu,by simpa using d,u,j⟩
theorem Jd{tt:TT}(m:jv h tt)(t:TypeId)(x:Operand)(n:Nat):gJ h tt (.fieldAddr t x n):=by
 intro E st gh val w ρ F o d r M Pg N y j hp hd;simp only[kernel]at j;split at j
 rotate_left
 cases j;rename_i fs _ _ _ c q T K z L;split at j
 rotate_left
 cases j;rename_i U;cases j;have rx:=N x;rw[L]at rx;obtain⟨b,o',X,B⟩:=rx.dW.J_ U.2;obtain⟨u,iu,Y,Z,h3⟩:=yS K z;obtain⟨gs,f,g1,g2,g3,g4⟩:=DL (m _ _ K) Y;have H:(sizeOf f.type).run h w=.ok q w:=by rw[g4,<-h3];exact eU (m _ _ Z)
 have hr:(Instr.fieldAt t (ρ x) n).run h w=.ok (.pointer (zw ⟨b,o'+c,zz⟩)) w:=by
  have J:q≠0:=by omega
  rw[X];simp[Instr.fieldAt,fB g1,g2,Instr.sureAddr,fieldPlace,H,J,g3,Addr.ji]
 refine still Pg (v:=.pointer (zw ⟨b,o'+c,zz⟩)) (by unfold execOp;rw[M];exact iE hr) (dU.Jr (B c)) λg hg=>y x g ?_;have hg:g∈(S.v (.one (T.shift c))).names:=hg;rw[dZ,W.Hz]at hg;rw[L,dZ];exact hg
theorem NY{tt:TT}(t:Operand)(n:Nat):gJ h tt (.extract t n):=by
 intro E st gh val w ρ F o d r y Pg z c b J hd;simp only[kernel]at b;split at b
 rotate_left
 cases b;rename_i xs q;split at b
 rotate_left
 cases b;rename_i B hn;cases b;have rx:=z t;rw[q]at rx;cases j:ρ t with
 |tuple vs=>
  rw[j]at rx;obtain⟨l⟩:=vs;cases rx with|jy _ _ K H=>
  have m:n<l.length:=by have:=(Q3.1 hn).1;omega
  have hu:l[n]?=zw l[n]:=Q2 m;refine still Pg (v:=l[n]) (by unfold execOp;rw[y];refine iE ?_;rw[j];simp[Instr.extract,hu]) (.v _ _ (H n _ _ hn hu)) λg hg=>?_;exact c t g (by rw[q];simp only[S.names,Z2];exact⟨B,Z1 hn,hg⟩)
 |_=>rw[j]at rx;cases rx
theorem abH{st:St}{x:W}{ask:Prop}{n:P}(h:f_ E st gh B x v)(b:lenOf st.o x=zw (ask,n))(y:ask):
  ∃d m cap,v=.slice d m cap/\n=.int .i64 (m:Nat):=by
 cases h with
 |p a i x v c=>
  simp only[lenOf,Q0,QP]at b;obtain⟨rfl,rfl⟩:=b;cases x with
  |sl q l=>
   cases c with
   |nil q d cap=>exact⟨d,0,cap,rfl,rfl⟩
   |sl q l a cap f z w N T U X=>exact⟨zw a,_,cap,rfl,rfl⟩
  |_=>exact y.elim
 |dD=>simp only[lenOf,Q0,QP]at b;exact⟨zz,0,0,rfl,b.2.symm⟩
 |own g v H c=>
  simp only[lenOf]at b;split at b
  .rename_i j;simp only[Q0,QP]at b;exact⟨_,_,_,c _ _ j,b.2.symm⟩
  .cases b
 |vw g lo Y v H c=>
  simp only[lenOf]at b;split at b
  .rename_i j;simp only[Q0,QP]at b;obtain⟨J,K,Z,rfl,rfl,z,w,L,M⟩:=c _ _ j;exact⟨_,K-J,_,M,by rw[<-b.2];simp[P.nat,P.num]⟩
  .cases b
 |_=>simp[lenOf]at b
theorem Kq{α:Type}{a:Array α}{x:α}(h:a.toList=[x]):a=#[x]:=by cases a;simp_all
theorem wU{α:Type}{a:Array α}{x y:α}(h:a.toList=[x,y]):a=#[x,y]:=by cases a;simp_all
theorem kX{ρ:Operand->Value}{o:Oper}{b:Builtin}{args:Array Operand}{ts:Array TypeId}{n:Next}(c:o.op=.call { callee:=.builtin b,args:=args,argTypes:=ts })
  (h:(builtin b ts o.type (args.map λ| .const _=>zj|_=>zv) (args.map ρ)).run Pg w=.ok n X):(execOp ρ o).run Pg w=.ok n X:=by
 unfold execOp;rw[c];simp only[resolve,invoke,Sem.run_bind,Sem.run_pure,Result.andThen_ok];exact h
theorem abI{tt:TT}(g:jv h tt)(args:Array Operand)(ts:Array TypeId):gJ h tt (.call { callee:=.builtin .len,args:=args,argTypes:=ts }):=by
 intro E st gh val w ρ F o d r y Pg z J b B hd;simp only[kernel]at b;split at b
 rotate_left
 cases b;rename_i x t K L;obtain rfl:=Kq K;obtain rfl:=Kq L;split at b
 .rename_i e _ _ _ H c j;have rx:=z x;rw[j]at rx;split at b
  rotate_left
  cases b;rename_i ask n M;cases b;obtain⟨N,m,cap,q,rfl⟩:=abH rx.dW M B;have hu:=(g _ _ c).kind;refine iy (tt:=tt) Pg (v:=.int .i64 m) (kX y ?_) λok=>.int _ _;simp only[qB]at hu;simp[builtin,Builtin.len_,fB hu,q,goInt]
 .rename_i a i H c j;cases b;have rx:=z x;rw[j]at rx;have hu:=(g _ _ c).kind;cases H with
  |str s=>have q:=rx.gB.sZ;refine iy (tt:=tt) Pg (v:=.int .i64 s.size) (kX y ?_) λok=>.int _ _;simp only[qB]at hu;simp[builtin,Builtin.len_,fB hu,q,goInt]
  |_=>exact B.elim
 .cases b
theorem abJ{tt:TT}(args:Array Operand)(ts:Array TypeId):gJ h tt (.call { callee:=.builtin .min,args:=args,argTypes:=ts }):=by
 intro E st gh val w ρ F o d r T Pg j Y g U hd;simp only[kernel]at g;split at g
 .rename_i x y q;obtain rfl:=wU q;split at g
  rotate_left
  cases g;rename_i _ _ B _ _ H J K;cases g;have rx:=j x;rw[J]at rx;have m:=j y;rw[K]at m;obtain⟨L,M⟩:=U;cases B<;>simp only[jY]at L;cases H<;>simp only[jY]at M;rename_i k a Z b;refine iy (tt:=tt) Pg (v:=.int k (if b<a then b else a)) (kX T ?_) λok=>.int _ _;simp[builtin,Builtin.min_,Builtin.min2,rx.gB.fJ,m.gB.fJ]
 .rename_i x y z q;have N:args=#[x,y,z]:=by have:=W2 List.toArray q;simpa using this
  subst N;split at g
  rotate_left
  cases g;rename_i _ _ B _ _ H _ _ z' J K hz;cases g;have rx:=j x;rw[J]at rx;have m:=j y;rw[K]at m;have X:=j z;rw[hz]at X;obtain⟨L,M,h3⟩:=U;cases B<;>simp only[jY]at L;cases H<;>simp only[jY]at M;cases z'<;>simp only[jY]at h3;rename_i k a Z b k'' c;refine iy (tt:=tt) Pg (v:=.int k (if c<(if b<a then b else a)then c else(if b<a then b else a))) (kX T ?_) λok=>.int _ _;simp[builtin,Builtin.min_,Builtin.min2,rx.gB.fJ,m.gB.fJ,X.gB.fJ]
 .cases g
theorem abK{tt:TT}(args:Array Operand)(ts:Array TypeId):gJ h tt (.call { callee:=.builtin .max,args:=args,argTypes:=ts }):=by
 intro E st gh val w ρ F o d r T Pg j Y g U hd;simp only[kernel]at g;split at g
 .rename_i x y q;obtain rfl:=wU q;split at g
  rotate_left
  cases g;rename_i _ _ B _ _ H J K;cases g;have rx:=j x;rw[J]at rx;have m:=j y;rw[K]at m;obtain⟨L,M⟩:=U;cases B<;>simp only[jY]at L;cases H<;>simp only[jY]at M;rename_i k a Z b;refine iy (tt:=tt) Pg (v:=.int k (if b>a then b else a)) (kX T ?_) λok=>.int _ _;simp[builtin,Builtin.max_,Builtin.max2,rx.gB.fJ,m.gB.fJ]
 .rename_i x y z q;have N:args=#[x,y,z]:=by have:=W2 List.toArray q;simpa using this
  subst N;split at g
  rotate_left
  cases g;rename_i _ _ B _ _ H _ _ z' J K hz;cases g;have rx:=j x;rw[J]at rx;have m:=j y;rw[K]at m;have X:=j z;rw[hz]at X;obtain⟨L,M,h3⟩:=U;cases B<;>simp only[jY]at L;cases H<;>simp only[jY]at M;cases z'<;>simp only[jY]at h3;rename_i k a Z b k'' c;refine iy (tt:=tt) Pg (v:=.int k (if c>(if b>a then b else a)then c else(if b>a then b else a))) (kX T ?_) λok=>.int _ _;simp[builtin,Builtin.max_,Builtin.max2,rx.gB.fJ,m.gB.fJ,X.gB.fJ]
 .cases g
theorem Ue{tt:TT}(j:jv h tt)(t:TypeId)(x m:Operand):gJ h tt (.index t x m):=by
 intro E st gh val w ρ F o d r B Pg y H g J hd;simp only[kernel]at g;split at g
 rotate_left
 cases g;rename_i _ _ _ _ _ K _ _ n L M hn;cases g;have rx:=y x;rw[M]at rx;have z:=y m;rw[hn]at z;have hu:=(j _ _ L).kind;simp only[qB]at hu;obtain⟨N,q⟩:=J;cases K<;>simp only[P.isStr]at N;cases n<;>simp only[inRange]at q;rename_i s k n;have b:n.toNat<s.size:=by simp only[P.bytes]at q;omega
 have T:(Instr.index t (ρ x) (ρ m)).run h w=.ok (.int .u8 (s.data.getD n.toNat 0).toNat) w:=by
  rw[rx.gB.sZ,z.gB.fJ];have U:s[n.toNat]?=zw (s.data.getD n.toNat 0):=by have c:n.toNat<s.data.size:=b;rw[getElem?_pos s n.toNat b];simp only[Array.getD,c,dite_true];rfl
  simp[Instr.index,asIntOf,fB hu,q.1,U]
 exact iy (tt:=tt) Pg (by unfold execOp;rw[B];exact iE T) λok=>.int _ _
theorem Kr{F:Operand->S}:∀{xs:List Operand} {c:List W},(xs.mapM (λx=>match F x with|.v (.one w)=>zw w|_=>zz))=zw c->
  c.length=xs.length/\∀(j:Nat) x w,xs[j]?=zw x->c[j]?=zw w->F x=.v (.one w)
 | [],c,h=>by simp at h;subst h;exact⟨rfl,λj x w b=>by simp at b⟩
 |x::xs,c,h=>by
  simp only[vv,Option.bind_eq_bind,Option.bind_eq_some_iff,Option.pure_def,Q0]at h;obtain⟨w0,d,q,y,rfl⟩:=h;obtain⟨z,B⟩:=Kr y;refine⟨by simp[z],λj H w' b g=>?_⟩;cases j with
  |zero=>
   simp at b g;subst b g;split at d
   .rename_i w1 m;simp at d;subst d;exact m
   .cases d
  |succ j=>simp at b g;exact B j H w' b g
theorem Kt{tt:TT}(g:FuncId)(first caps:Array Operand):gJ h tt (.makeFunc (.func g) first caps):=by
 intro E st gh val w ρ F o d r X Pg Y z c hp hd;simp only[kernel]at c;split at c
 rotate_left
 cases c;rename_i Z;split at c
 rotate_left
 cases c;rename_i q hm;cases c;obtain⟨hl,T⟩:=Kr hm;have B:first=#[]:=by simpa using Z
 have m:f_ E st gh w (.clo g q) (.func (.func g) #[] ((caps.toList.map ρ)).toArray):=by refine .clo g q _ (by simp[hl]) λj x v H U=>?_;simp only[Z0,Wg]at U;obtain⟨y,J,rfl⟩:=U;have:=Y y;rw[T j y x J H]at this;exact this.dW
 refine still Pg (v:=.func (.func g) #[] ((caps.toList.map ρ)).toArray) (by unfold execOp;rw[X];subst B;simp only[Array.map_empty,Instr.makeFunc,pure_bind,Sem.run_pure];congr 4;apply Array.ext';simp) (dU.Jr m) λg' b=>?_;have b:g'∈(S.v (.one (.clo g q))).names:=b;rw[dZ,W.names,Z2]at b;obtain⟨⟨x,H⟩,_,b⟩:=b;obtain⟨j,K,L⟩:=List.mem_iff_getElem.1 H;have M:q[j]?=zw x:=by rw[Q2 K,L]
 have N:j<caps.toList.length:=by omega
 have J:caps.toList[j]?=zw caps.toList[j]:=Q2 N;have:=z caps.toList[j] g';rw[T j _ x J M,dZ]at this;exact this b
end Go.Fw

namespace Go.Fw
variable [fO]
section
variable {E:Env} {st st':St} {gh bU:Nat->Gh} {w w':World} {val:Nat->Value} {Pg:Program} {tt:TT}
theorem lX{agg:Bool}{b:List W}{cs:List Value}(g:b.length=cs.length)(q :∀c∈cs,c.oneCell'=zj)(h :∀(j:Nat) x u,b[j]?=zw x->cs[j]?=zw u->f_ E st gh w x u)
  (v:Value) (d:if agg=zj then v=.agg cs.toArray else∀u,cs[0]?=zw u->v=u):dU E st gh w (V.gI agg b) v:=by
 unfold V.gI;cases agg with
 |true=>simp only[if_true]at d ⊢;subst d;exact .v _ _ (.agg b cs g q h)
 |false=>
  simp only[Wb,if_false]at d ⊢;split
  .rename_i x;have m:0<cs.length:=by rw[<-g];simp
   have:=d cs[0] (Q2 m);subst this;exact dU.Jr (h 0 x _ rfl (Q2 m))
  .exact .no _
theorem jZ{agg:Bool}{b:List W}(hg:g∈(V.gI agg b).names):∃x∈b,g∈x.names:=by
 unfold V.gI at hg;cases agg with
 |true=>simpa[S.names,V.names]using hg
 |false=>
  simp only[Wb,if_false]at hg;split at hg
  .rename_i x;exact⟨x,by simp,by simpa[S.names,V.names]using hg⟩
  .simp [S.names]at hg
theorem nV(a:Addr)(cs:List Value):∀(n i:Nat) (acc:Array Value),(∀j,j<n->w.cell? (a.add (i+j))=cs[j]?)->n<=cs.length->
  (loadCellsFrom a i n acc).run Pg w=.ok (acc++(cs.take n).toArray) w:=by
 intro n
 induction n generalizing cs with
 |zero=>intro i acc _ _;simp[loadCellsFrom]
 |succ n m=>
  intro i acc d g;cases cs with
  |nil=>simp at g
  |cons c cs=>
   have h:=d 0 (by omega);simp only[Jn,K4]at h;have b:=m cs (i+1) (acc.push c) (λj q=>by have:=d (j+1) (by omega);simp only[J0]at this;rw[<-this];congr 2;omega) (by simpa using g)
   simp only[loadCellsFrom,Sem.run_bind,run_load,h,Result.andThen_ok];rw[b];simp
theorem lg{i:TI}(h:qQ Pg t i)(b o:Nat)(cs:List Value)(q:cs.length=i.size)(g :∀(j:Nat) u,cs[j]?=zw u->w.cell? ⟨b,o+j,zz⟩=zw u)(y:i.agg=zv->0<i.size):
  ∃v,(loadVar t ⟨b,o,zz⟩).run Pg w=.ok v w/\(if i.agg=zj then v=.agg cs.toArray else∀u,cs[0]?=zw u->v=u):=by
 unfold loadVar;simp only[Sem.run_bind,BO h,Result.andThen_ok];cases z:i.agg with
 |true=>
  refine⟨.agg cs.toArray,?_,by simp⟩;have:=nV (Pg:=Pg) (w:=w) ⟨b,o,zz⟩ cs i.size 0 #[] (λj B=>by
   rw[Addr.ji];have d:j<cs.length:=by omega
   rw[Q2 d,Vi];exact g j _ (Q2 d)) (by omega)
  simp only[if_true,Sem.run_bind,eU h,Result.andThen_ok,loadCells,this];simp[<-q]
 |false=>
  have m:0<cs.length:=by have:=y z;omega
  have c:=g 0 _ (Q2 m);simp only[Jn]at c;exact⟨cs[0],by simp[run_load,c],by simp only[Wb,if_false];intro u hu;rw[Q2 m]at hu;exact Wt hu⟩
theorem f_.oneCell{x:W}(h:f_ E st gh w x v)(d :∀b y,x≠.gd b y)(hn:x≠.no):v.oneCell'=zj:=by
 cases h with
 |p a i x v h=>exact h.oneCell
 |gd b x v h=>exact absurd rfl (d b x)
 |no v=>exact absurd rfl hn
 |dD=>rfl
 |sp a i row off b o j h=>rfl
 |clo f c vs m h=>rfl
 |gl g=>rfl
 |_=>assumption
variable{G:Gh}
theorem Ba.cells{d:List W}(h:Ba E st gh w d G):∃ad,G.ad=zw ad/\∃cs:List Value,cs.length=d.length/\(∀c∈cs,c.oneCell'=zj)/\
  (∀(j:Nat) u,cs[j]?=zw u->w.cell? ⟨ad.block,ad.off+j,zz⟩=zw u)/\∀(j:Nat) x u,d[j]?=zw x->cs[j]?=zw u->f_ E st gh w x u:=by
 obtain⟨ad,c,e,y,K,z,L,m⟩:=h;refine⟨ad,y,(c.toList.drop ad.off).take d.length,by simp;omega,λv g=>?_,λj u hu=>?_,λj x u q hu=>?_⟩
 .obtain ⟨j,B,rfl⟩:=List.mem_iff_getElem.1 g;have b:j<d.length:=by simp at B;omega
  obtain⟨v,g,H,_⟩:=m j d[j] (Q2 b);have:((c.toList.drop ad.off).take d.length)[j]=v:=by simp only[List.getElem_take,List.getElem_drop,Array.getElem_toList];exact(US.1 g).2
  rw[this];exact H
 .have b:j<d.length:=by have:=(Q3.1 hu).1;simp at this;omega
  rw[ZZ,QQ b,Wo,K2]at hu;simp[World.cell?,z,hu]
 .have b:j<d.length:=(Q3.1 q).1;rw[ZZ,QQ b,Wo,K2]at hu;obtain⟨v,g,_,J⟩:=m j x q;rw[g]at hu;cases hu;exact J
variable{l:List (List P)}
theorem Fv(h:nG E st gh w (.arr i a c g l) G){x:List P}(b:l[n]?=zw x){ad:Addr}(d:G.ad=zw ad):
  x.length=g/\∀(j:Nat) y,x[j]?=zw y->∃v,w.cell? ⟨ad.block,ad.off+n*g+j,zz⟩=zw v/\dH w (E.ok st gh w a c) y v:=by
 cases i with
 |false=>
  rcases h with⟨z,L,B⟩|⟨H,sz,e,z,L,B,Y,Z,M,N⟩
  .subst B;simp at b
  .rw [d]at z;cases z;refine⟨M x (Z1 b),λj y q=>?_⟩;obtain⟨v,T,J⟩:=N n x b j y q;exact⟨v,by simp[World.cell?,B,T],J⟩
 |true=>
  have h:dH w (E.ok st gh w a c) (.sl g l) (.slice G.ad l.length G.cap):=h;rw[d]at h;generalize hm:l.length=m at h;cases h with
  |nil=>simp at b
  |sl _ _ H cap f hs U K fz X J=>refine⟨fz x (Z1 b),λj y q=>⟨_,X n x b j y q,J n x b j y q⟩⟩
theorem Uf{row:List P}{o off:Nat}(h :∀(j:Nat) y,row[j]?=zw y->∃v,w.cell? ⟨g,o+j,zz⟩=zw v/\dH w (E.ok st gh w i a) y v)(hn:off+n<=row.length):
  ∃cs:List Value,cs.length=n/\(∀(j:Nat) u,cs[j]?=zw u->w.cell? ⟨g,o+off+j,zz⟩=zw u)/\(∀c∈cs,c.oneCell'=zj)/\
   ∀(j:Nat) x u,((List.range n).map λj=>W.p i a (row.getD (off+j) default))[j]?=zw x->cs[j]?=zw u->f_ E st gh w x u:=by
 have key :∀j,j<n->∃v,w.cell? ⟨g,o+off+j,zz⟩=zw v/\dH w (E.ok st gh w i a) (row.getD (off+j) default) v:=by
  intro j B;have d:off+j<row.length:=by omega
  obtain⟨v,b,m⟩:=h (off+j) row[off+j] (Q2 d);refine⟨v,by rw[<-b,J1],?_⟩;rw[Q1,Q2 d];exact m
 refine⟨(List.range n).map λj=>(w.cell? ⟨g,o+off+j,zz⟩).getD undef,by simp,λj u hu=>?_,λc H=>?_,λj x u J hu=>?_⟩
 .simp only[Z0,Wg]at hu;obtain⟨k,z,rfl⟩:=hu;obtain⟨d,rfl⟩:=Q3.1 z;simp at d ⊢;obtain⟨v,b,_⟩:=key j d;rw[b];rfl
 .simp only[XN,Uq]at H;obtain⟨j,B,rfl⟩:=H;obtain⟨v,b,m⟩:=key j B;rw[b];exact m.oneCell
 .simp only[Z0,Wg]at J hu;obtain⟨k,z,rfl⟩:=J;obtain⟨K,q,rfl⟩:=hu;rw[z]at q;cases q;obtain⟨d,rfl⟩:=Q3.1 z;simp at d ⊢;obtain⟨v,b,m⟩:=key j d;rw[b];exact .p _ _ _ _ m
theorem uG{f:Nat->P}{x:W}(b:x∈(List.range n).map λj=>W.p i a (f j)):x.names=[]:=by simp only[XN]at b;obtain⟨j,_,rfl⟩:=b;simp[W.names]
theorem Xk(X:jv Pg tt)(t:TypeId)(x:Operand):gJ Pg tt (.load t x):=by
 intro E st gh val w ρ F o d r ho h hF hFn B hp hd;simp only[kernel]at B;split at B
 .rename_i i g off ht hx;have rx:=hF x;rw[hx]at rx;split at B
  rotate_left
  cases B;rename_i ws M;split at B
  rotate_left
  cases B;rename_i N;cases B;have hO:=h.bI g;rw[M]at hO;obtain⟨ad,Y,cs,hl,H,q,J⟩:=Ba.cells hO;obtain⟨ad',Qw,hv⟩:=(by cases rx.dW with|box _ _ _ _ hb=>exact hb ws M :∃ad,(gh g).ad=zw ad/\ρ x=.pointer (zw ⟨ad.block,ad.off+off,zz⟩));rw[Y]at Qw;cases Qw;have hl':((cs.drop off).take i.size).length=i.size:=by simp;omega
  obtain⟨v,K,L⟩:=lg (Pg:=Pg) (w:=w) (X _ _ ht) ad.block (ad.off+off) ((cs.drop off).take i.size) hl' (λj u hu=>by
   have hj:j<i.size:=by have:=(Q3.1 hu).1;omega
   rw[ZZ,QQ hj,Wo]at hu;rw[J1];exact q _ _ hu) (λ_=>N.2)
  refine still h (v:=v) (by unfold execOp;rw[ho];exact iE (by rw[hv];simpa[Instr.loadAt,Instr.sureAddr]using K)) (lX (cs:=(cs.drop off).take i.size) (by simp;omega) (λc Z=>H c (UB (Wl Z)))
   (λj y u T hu=>?_) v L) λg' m=>?_
  .have hj:j<i.size:=by have:=(Q3.1 hu).1;omega
   rw[ZZ,QQ hj,Wo]at T hu;exact J _ _ _ T hu
  .obtain ⟨y,T,m⟩:=jZ m;have hy':=UB (Wl T);exact h.uo g g' (by rw[M];simp only[O.names,Z2];exact⟨y,hy',m⟩)
 .rename_i i g n off ht hx;have rx:=hF x;rw[hx]at rx;split at B
  rotate_left
  cases B;rename_i fz a i' sz l M;split at B
  rotate_left
  cases B;rename_i N;cases B;have hO:=h.bI g;rw[M]at hO;obtain⟨ad,k,Y,rfl,B,hv⟩:=(by cases rx.dW with|ep _ _ _ _ _ hb=>exact hb _ _ (O.kZ M) :∃(ad:Addr) (k:Nat),(gh g).ad=zw ad/\n=.int .i64 k/\k<l.length/\ρ x=.pointer (zw ⟨ad.block,ad.off+k*sz+off,zz⟩));have U:l[k]?=zw l[k]:=Q2 B;obtain⟨hlen,Z⟩:=Fv hO U Y;have hget:l.getD (P.int .i64 (k:Int)).nat []=l[k]:=by
   have:(P.int .i64 (k:Int)).nat=k:=by simp[P.nat,P.num]
   rw[this,Q1,U];rfl
  obtain⟨cs,hl,q,H,J⟩:=Uf (n:=i.size) (off:=off) Z (by omega);obtain⟨v,K,L⟩:=lg (Pg:=Pg) (w:=w) (X _ _ ht) ad.block (ad.off+k*sz+off) cs hl q (λ_=>N.2);rw[hget];have hzw:((List.range i.size).map λj=>W.p a i' (l[k].getD (off+j) (Ub i.zero j)))=(List.range i.size).map λj=>W.p a i' (l[k].getD (off+j) default):=by
   refine W8 λj hj=>?_;have hj:j<i.size:=Uq.1 hj;have hlt':off+j<l[k].length:=by omega
   simp[Q1,Q2 hlt']
  rw[hzw];exact still h (v:=v) (by unfold execOp;rw[ho];exact iE (by rw[hv];simpa[Instr.loadAt,Instr.sureAddr]using K)) (lX (by simp[hl]) H J v L)
   λg' m=>by obtain⟨y,T,m⟩:=jZ m;rw[uG T]at m;cases m
 .rename_i i a i' row off ht hx;have rx:=hF x;rw[hx]at rx;split at B
  rotate_left
  cases B;rename_i N;cases B;obtain⟨b,o',hb,Z,hv⟩:=(by generalize hz:ρ x=z at rx;cases rx.dW with|sp _ _ _ _ b o' hb Z=>exact⟨b,o',hb,Z,hz.symm▸rfl⟩ :
   ∃b o',(row≠[]->E.ok st gh w a i' b)/\(∀(j:Nat) y,row[j]?=zw y->∃u,w.cell? ⟨b,o'+j,zz⟩=zw u/\dH w (E.ok st gh w a i') y u)/\ρ x=.pointer (zw ⟨b,o'+off,zz⟩))
  obtain⟨cs,hl,q,H,J⟩:=Uf (n:=i.size) (off:=off) Z hp;obtain⟨v,K,L⟩:=lg (Pg:=Pg) (w:=w) (X _ _ ht) b (o'+off) cs hl q (λ_=>N);exact still h (v:=v) (by unfold execOp;rw[ho];exact iE (by rw[hv];simpa[Instr.loadAt,Instr.sureAddr]using K)) (lX (by simp[hl]) H J v L)
   λg' m=>by obtain⟨y,T,m⟩:=jZ m;rw[uG T]at m;cases m
 .cases B
theorem abL{i:TI}(h:qQ Pg t i)(cs:List Value)(off:Nat)(c:off+i.size<=cs.length)(d:0<i.size):
  ∃v,(part t cs.toArray off).run Pg w=.ok v w/\(if i.agg=zj then v=.agg ((cs.drop off).take i.size).toArray else∀u,((cs.drop off).take i.size)[0]?=zw u->v=u):=by
 unfold part;simp only[Sem.run_bind,BO h,Result.andThen_ok];cases g:i.agg with
 |true=>
  refine⟨.agg ((cs.drop off).take i.size).toArray,?_,by simp⟩;simp only[if_true,Sem.run_bind,eU h,Result.andThen_ok];have:cs.toArray.extract off (off+i.size)=((cs.drop off).take i.size).toArray:=by simp[List.extract_toArray]
  rw[this];rfl
 |false=>
  have b:off<cs.length:=by omega
  refine⟨cs[off],by simp[Q2 b],?_⟩;simp only[Wb,if_false];intro u hu;rw[ZZ,QQ d,Wo]at hu;rw[Jn,Q2 b]at hu;exact Wt hu
theorem Ug(m:jv Pg tt)(t:TypeId)(x:Operand)(n:Nat):gJ Pg tt (.field t x n):=by
 intro E st gh val w ρ F o d r U h X K b hp hd;simp only[kernel]at b;split at b
 rotate_left
 cases b;rename_i fs _ _ _ ws Y N;have rx:=X x;rw[N]at rx;obtain⟨cs,Z,hl,q,z⟩:=rx.Jq;split at b
 rotate_left
 cases b;rename_i off u hn;split at b
 rotate_left
 cases b;rename_i T hu;split at b
 rotate_left
 cases b;rename_i L;cases b;obtain⟨gs,f,g1,g2,g3,g4⟩:=DL (m _ _ Y) hn;obtain⟨v,B,H⟩:=abL (Pg:=Pg) (w:=w) (m _ _ hu) cs off (by omega) L.2;have hr:(Instr.field t (ρ x) n).run Pg w=.ok v w:=by rw[Z];simp only[Instr.field,Sem.run_bind,fB g1,Result.andThen_ok,g2,g3,g4,asAgg,Sem.run_pure];exact B
 refine still h (v:=v) (by unfold execOp;rw[U];exact iE hr) (lX (cs:=(cs.drop off).take T.size) (by simp;omega) (λc hc=>q c (UB (Wl hc)))
  (λj y u J hu=>?_) v H) λg' g=>?_
 .have hj:j<T.size:=by have:=(Q3.1 hu).1;simp at this;omega
  rw[ZZ,QQ hj,Wo]at J hu;exact z _ _ _ J hu
 .obtain ⟨y,J,g⟩:=jZ g;have M:=UB (Wl J);have:=K x g';rw[N]at this;exact this (by simp only[S.names,V.names,Z2];exact⟨y,M,g⟩)
theorem tq{n:P}(h:inRange n g):∃k j,n=.int k j/\0<=j/\j<g/\n.nat<g/\(n.nat:Int)=j:=by cases n<;>simp only[inRange]at h;rename_i k j;exact⟨k,j,rfl,h.1,h.2,by simp[P.nat,P.num];omega,by simp[P.nat,P.num];omega⟩
theorem dH.BP{ok:Nat->Prop}(h:dH w ok (.sl g l) v):∃d cap,v=.slice d l.length cap/\l.length<=cap/\
  (l≠[]->∃ad,d=zw ad/\ad.spot=zz/\(0<g->ok ad.block)/\(∀x∈l,x.length=g)/\∃f:Nat->Nat->Value,(∀(i:Nat) x,l[i]?=zw x->∀(j:Nat) y,x[j]?=zw y->w.cell? ⟨ad.block,ad.off+i*g+j,zz⟩=zw (f i j))/\
   ∀(i:Nat) x,l[i]?=zw x->∀(j:Nat) y,x[j]?=zw y->dH w ok y (f i j)):=by
 cases h with
 |nil g d cap=>exact⟨d,cap,rfl,ve _,λh=>absurd rfl h⟩
 |sl g l ad cap f m sz b c q z=>exact⟨zw ad,cap,rfl,b,λ_=>⟨ad,rfl,m,sz,c,f,q,z⟩⟩
theorem Qx(h:nG E st gh w (.arr i a c g l) G):l.length<=G.cap:=by
 cases i with
 |false=>
  rcases h with⟨j,m,b⟩|⟨ad,sz,e,q1,q2,q3,q4,q5,_⟩
  .subst b;exact ve _
  .exact q5.1
 |true=>have h:dH w (E.ok st gh w a c) (.sl g l) (.slice G.ad l.length G.cap):=h;obtain⟨q,cap,d,fz,_⟩:=h.BP;cases d;exact fz
theorem wW{x:O}(h:nG E st gh w x G){len:Nat}(hd:x.dim=zw (g,len)):len<=G.cap/\(0<len->∃ad,G.ad=zw ad/\ad.spot=zz):=by
 cases x with
 |arr y a i d l=>
  obtain⟨rfl,rfl⟩:=O.kW hd;refine⟨Qx h,λsz=>?_⟩;cases y with
  |false=>
   rcases h with⟨j,m,b⟩|⟨ad,c,e,q1,q2,_⟩
   .subst b;simp at sz
   .exact ⟨ad,q1,q2⟩
  |true=>have h:dH w (E.ok st gh w a i) (.sl d l) (.slice G.ad l.length G.cap):=h;obtain⟨K,cap,z,L,B⟩:=h.BP;cases z;obtain⟨ad,H,J,_⟩:=B (vm.1 sz);exact⟨ad,H,J⟩
 |aO a i d M l q=>
  simp only[O.dim,Q0,QP]at hd;obtain⟨rfl,rfl⟩:=hd;rcases h with⟨j,m,b,_⟩|⟨ad,c,e,q1,q2,q3,q4,q5,_⟩
  .subst b;exact⟨ve _,λsz=>by simp at sz⟩
  .exact ⟨q5.1,λ_=>⟨ad,q1,q2⟩⟩
 |_=>cases hd
theorem run_indexAt_slice{c:TI}(hu:Pg.underlying t=zw (.slice e))(d:qQ Pg e c)(b o len cap:Nat)(k:IntKind)(j:Int)(g:0<=j)(h:j<len):
  (Instr.indexAt t (.slice (zw ⟨b,o,zz⟩) len cap) (.int k j)).run Pg w=.ok (.pointer (zw ⟨b,o+j.toNat*c.size,zz⟩)) w:=by
 simp only[Instr.indexAt,asIntOf,Sem.run_bind,Sem.run_pure,fB hu,Result.andThen_ok];simp[g,h,eU d,Addr.ji]
theorem Je(M:jv Pg tt)(t:TypeId)(x U:Operand):gJ Pg tt (.indexAddr t x U):=by
 intro E st gh val w ρ F o d r ho h hF hFn H hp hd;simp only[kernel]at H;split at H
 .rename_i e _ _ _ x' _ _ n ht hx hn;have rx:=hF x;rw[hx]at rx;have rn:=hF U;rw[hn]at rn;have hu:=(M _ _ ht).kind;simp only[qB]at hu;have hnx :∀g,g∈x'.names->st.used g=zj:=λg hg=>hFn x g (by rw[hx,dZ];exact hg);split at H
  .rename_i X g he;split at H
   rotate_left
   cases H;rename_i Y l N;split at H
   rotate_left
   cases H;rename_i Z;cases H;obtain⟨k,j,J,h0,h1,h2,h3⟩:=tq hp;have T:ρ U=.int k j:=by have:=rn.gB;rw[J]at this;exact this.fJ
   have hv:=(by cases rx.dW with|own _ _ _ hb=>exact hb _ _ N:ρ x=.slice (gh g).ad l (gh g).cap);obtain⟨ad,L,hs⟩:=(wW (h.bI g) N).2 (by omega);have Qw:(gh g).ad=zw ⟨ad.block,ad.off,zz⟩:=by rw[L,<-hs]
   have hr:(Instr.indexAt t (ρ x) (ρ U)).run Pg w=.ok (.pointer (zw ⟨ad.block,ad.off+n.nat*Y,zz⟩)) w:=by
    have hj:j.toNat=n.nat:=by rw[J];rfl
    rw[hv,Qw,T,run_indexAt_slice hu (M _ _ he) _ _ _ _ _ _ h0 h1,hj,Z]
   refine still h (v:=.pointer (zw ⟨ad.block,ad.off+n.nat*Y,zz⟩)) (by unfold execOp;rw[ho];exact iE hr) (dU.Jr (.ep g _ 0 _ rfl λsz' len' ho'=>?_)) λg' B=>?_
   .rw [N]at ho';cases ho';exact⟨ad,n.nat,L,rfl,h2,by rw[Jn]⟩
   .have B:g'∈(S.v (.one (.ep g (lV n.nat) 0))).names:=B;rw[dZ]at B;exact hnx g' (by simpa[W.names]using B)
  .rename_i X g lo hi he;split at H
   rotate_left
   cases H;rename_i Y l N;split at H
   rotate_left
   cases H;rename_i Z;cases H;obtain⟨k,j,J,h0,h1,h2,h3⟩:=tq hp;have T:ρ U=.int k j:=by have:=rn.gB;rw[J]at this;exact this.fJ
   obtain⟨p,q,vc,rfl,rfl,hpq,hql,NZ,hv⟩:=(by cases rx.dW with|vw _ _ _ _ _ hb=>exact hb _ _ N :∃p q c:Nat,lo=.int .i64 p/\hi=.int .i64 q/\p<=q/\q<=l/\(q-p<=c/\p+c<=(gh g).cap)/\
    ρ x=.slice (if(gh g).cap=p then(gh g).ad else(gh g).ad.map (·.add (p*Y))) (q-p) c)
   have e1:(P.int .i64 (q:Int)).nat=q:=by simp[P.nat,P.num]
   have e2:(P.int .i64 (p:Int)).nat=p:=by simp[P.nat,P.num]
   rw[e1,e2]at h1 h2;have hidx:p+n.nat<l:=by omega
   obtain⟨hcap,L⟩:=wW (h.bI g) N;obtain⟨ad,L,hs⟩:=L (by omega);have hne:¬ (gh g).cap=p:=by omega
   have Qw:(gh g).ad=zw ⟨ad.block,ad.off,zz⟩:=by rw[L,<-hs]
   have hr:(Instr.indexAt t (ρ x) (ρ U)).run Pg w=.ok (.pointer (zw ⟨ad.block,ad.off+(p+n.nat)*Y,zz⟩)) w:=by
    have hj:j.toNat=n.nat:=by rw[J];rfl
    rw[hv,Qt hne,Qw,T];simp only[W7,Addr.ji];rw[run_indexAt_slice hu (M _ _ he) _ _ _ _ _ _ h0 h1,hj,<-Z,WK,J1]
   refine still h (v:=.pointer (zw ⟨ad.block,ad.off+(p+n.nat)*Y,zz⟩)) (by unfold execOp;rw[ho];exact iE hr) (dU.Jr (.ep g _ 0 _ rfl λsz' len' ho'=>?_)) λg' B=>?_
   .rw [N]at ho';cases ho';exact⟨ad,p+n.nat,L,by rw[e2];rfl,hidx,by rw[Jn]⟩
   .have B:g'∈(S.v (.one (.ep g (lV ((P.int .i64 (p:Int)).nat+n.nat)) 0))).names:=B;rw[dZ]at B;exact hnx g' (by simpa[W.names]using B)
  .rename_i X a i y he;cases H;obtain⟨hsl,hp⟩:=hp;obtain⟨k,j,J,h0,h1,h2,h3⟩:=tq hp;have T:ρ U=.int k j:=by have:=rn.gB;rw[J]at this;exact this.fJ
   cases y with
   |sl Y l=>
    have hne:l≠[]:=by intro e;subst e;simp[P.list]at h2
    have Z:Y=X.size:=by rcases hsl with e|e;exact e;exact absurd e hne
    subst Z;have hrx:=rx.gB;generalize hz:ρ x=z at hrx;cases hrx with
    |nil=>exact absurd rfl hne
    |sl _ _ ad cap f hs hok hcap hlen hc hrr=>
     have h1:j<(l.length:Int):=h1;have h2:n.nat<l.length:=h2;obtain⟨b0,o0,sp0⟩:=ad;simp only at hs;subst hs;have K:l[n.nat]?=zw l[n.nat]:=Q2 h2;have hr:(Instr.indexAt t (ρ x) (ρ U)).run Pg w=.ok (.pointer (zw ⟨b0,o0+n.nat*X.size,zz⟩)) w:=by
      have hj:j.toNat=n.nat:=by rw[J];rfl
      rw[hz,T,run_indexAt_slice hu (M _ _ he) _ _ _ _ _ _ h0 h1,hj]
     have hget:(P.sl X.size l).list.getD n.nat []=l[n.nat]:=by show l.getD n.nat []=_;rw[Q1,K];rfl
     refine still h (v:=.pointer (zw ⟨b0,o0+n.nat*X.size,zz⟩)) (by unfold execOp;rw[ho];exact iE hr) (dU.Jr ?_) λg' B=>?_
     .rw [hget];have:=f_.sp (E:=E) (st:=st) (gh:=gh) (w:=w) a i l[n.nat] 0 b0 (o0+n.nat*X.size) (λh0=>hok (by have:=hlen l[n.nat] (X2 h2);have:=vm.2 h0;omega)) (λj y hy=>⟨_,hc _ _ K j y hy,hrr _ _ K j y hy⟩);simpa using this
     .have B:g'∈(S.v (.one (.sp a i ((P.sl X.size l).list.getD n.nat []) 0))).names:=B;rw[dZ]at B;simp[W.names]at B
   |_=>exact hsl.elim
  .cases H
 .rename_i m e _ _ _ g _ _ n ht hx hn;have rx:=hF x;rw[hx]at rx;have rn:=hF U;rw[hn]at rn;have hu:=(M _ _ ht).kind;simp only[qB]at hu;split at H
  rotate_left
  cases H;rename_i X Y rows he hgt;split at H
  rotate_left
  cases H;rename_i hc;cases H;obtain⟨k,j,J,h0,h1,h2,h3⟩:=tq hp;have T:ρ U=.int k j:=by have:=rn.gB;rw[J]at this;exact this.fJ
  have hv:ρ x=.pointer (zw ⟨g,0,zz⟩):=by have:=rx.dW;generalize ρ x=z at this;cases this;rfl
  obtain⟨g1,g2,g3⟩:=E.hg g Y rows hgt;have hlt:n.nat<rows.length:=by omega
  have K:rows[n.nat]?=zw rows[n.nat]:=Q2 hlt;have hfr:w.heap[g]?=E.w0.heap[g]?:=h.frame g g1 g2;have hj:j.toNat=n.nat:=by rw[J];rfl
  have hr:(Instr.indexAt t (ρ x) (ρ U)).run Pg w=.ok (.pointer (zw ⟨g,n.nat*Y,zz⟩)) w:=by rw[hv,T];simp only[Instr.indexAt,asIntOf,Sem.run_bind,Sem.run_pure,fB hu,Result.andThen_ok,Instr.sureAddr];simp[h0,h1,eU (M _ _ he),Addr.ji,hj,hc.1]
  have hget:rows.getD n.nat []=rows[n.nat]:=by rw[Q1,K];rfl
  have hok:E.ok st gh w zv zv g:=⟨.inr (.inr (.inr (by unfold fO.has;rw[hgt];rfl))),Up g1 h.size,λg' ho L=>by
   rcases (h.wr g' g ho L).1 with q|q
   .omega
   .exact g2 q⟩
  refine still h (v:=.pointer (zw ⟨g,n.nat*Y,zz⟩)) (by unfold execOp;rw[ho];exact iE hr) (dU.Jr ?_) λg' B=>?_
  .show f_ E st gh w (.sp zv zv (rows.getD n.nat []) 0) _;rw[hget];exact f_.sp zv zv rows[n.nat] 0 g (n.nat*Y) (λ_=>hok) λj y hy=>by obtain⟨u,hu1,hu2⟩:=(g3 _ _ K).2 j y hy;exact⟨u,(World.cell?_of_block (w:=E.w0) hfr).trans hu1,hu2.mono λ_ f=>f.elim⟩
  .have B:g'∈(S.v (.one (.sp zv zv (rows.getD n.nat []) 0))).names:=B;rw[dZ]at B;simp[W.names]at B
 .rename_i m e _ _ _ x' _ _ k n hng ht hx hn;have rx:=hF x;rw[hx]at rx;have rn:=hF U;rw[hn]at rn;have hu:=(M _ _ ht).kind;simp only[qB]at hu;split at H
  rotate_left
  cases H;rename_i X he;split at H
  rotate_left
  cases H;rename_i hc;cases H;obtain⟨b,o',hv,hsh⟩:=rx.dW.J_ hc.2.2;have hr:(Instr.indexAt t (ρ x) (ρ U)).run Pg w=.ok (.pointer (zw ⟨b,o'+n.toNat*X.size,zz⟩)) w:=by rw[hv,rn.gB.fJ];simp only[Instr.indexAt,asIntOf,Sem.run_bind,Sem.run_pure,fB hu,Result.andThen_ok,Instr.sureAddr];simp[hc.1,hc.2.1,eU (M _ _ he),Addr.ji]
  refine still h (v:=.pointer (zw ⟨b,o'+n.toNat*X.size,zz⟩)) (by unfold execOp;rw[ho];exact iE hr) (dU.Jr (hsh _)) λg' B=>hFn x g' ?_;have B:g'∈(S.v (.one (x'.shift (n.toNat*X.size)))).names:=B;rw[dZ,W.Hz]at B;rw[hx,dZ];exact B
 .cases H
variable{m:Nat}
theorem Fz{b:Bool}{lo hi:Option Value}{len cap:Nat}(g:(lo=zz/\m=0)\/∃kd,lo=zw (.int kd m))(h:(hi=zz/\j=len)\/∃kd,hi=zw (.int kd j))(k:m<=j)(q:j<=cap):
  (Instr.sliceBounds b len cap lo hi zz).run Pg w=.ok (m,j,cap) w:=by
 have d :∀(kd:IntKind) (n y:Nat) (c:BoundsCode),n<=y->(Instr.sliceBound (.int kd n) y c).run Pg w=.ok n w:=by
  intro kd n y c hn;have:0<=(n:Int)/\(n:Int)<=y:=by omega
  simp[Instr.sliceBound,asIntOf,hn]
 unfold Instr.sliceBounds;rcases h with⟨rfl,rfl⟩|⟨z,rfl⟩<;>rcases g with⟨rfl,rfl⟩|⟨B,rfl⟩
 .simp
 .simp [d _ _ _ _ k]
 .simp [d _ _ _ _ q]
 .simp [d _ _ _ _ q,d _ _ _ _ k]
theorem pG{lo hi:Option Value}{len cap k:Nat}(d:(lo=zz/\m=0)\/∃kd,lo=zw (.int kd m))(g:(hi=zz/\k=len)\/∃kd,hi=zw (.int kd k))(h:m<=k)(j:k<=cap):
  (Instr.sliceBounds zj len cap lo hi zz).run Pg w=.ok (m,k,cap) w:=by
 have b :∀(kd:IntKind) (n y:Nat) (c:BoundsCode),n<=y->(Instr.sliceBound (.int kd n) y c).run Pg w=.ok n w:=by
  intro kd n y c hn;have:0<=(n:Int)/\(n:Int)<=y:=by omega
  simp[Instr.sliceBound,asIntOf,hn]
 unfold Instr.sliceBounds;rcases g with⟨rfl,rfl⟩|⟨q,rfl⟩<;>rcases d with⟨rfl,rfl⟩|⟨z,rfl⟩
 .simp
 .simp [b _ _ _ _ h]
 .simp [b _ _ _ _ j]
 .simp [b _ _ _ _ j,b _ _ _ _ h]
theorem jd{F:Operand->S}{ρ:Operand->Value}(d :∀x,dU E st gh w (F x) (ρ x)){dflt y:P}{lo:Option Operand}(h:nI dflt (lo.map F)=zw y)(c:y=.int .i64 m):
  (lo.map ρ=zz/\dflt=.int .i64 m)\/∃kd,lo.map ρ=zw (.int kd m):=by
 cases lo with
 |none=>simp only[KM,nI,Q0]at h;subst h;exact .inl ⟨rfl,c⟩
 |some x=>
  simp only[W7]at h ⊢;have:=d x;unfold nI at h;split at h
  .rename_i b;cases b
  .rename_i a i z b;simp only[Q0]at b h;rw[b]at this;subst h c;exact .inr ⟨.i64,by rw[this.gB.fJ]⟩
  .cases h
theorem Qy(q:jv Pg tt)(t:TypeId)(x hi Z:Operand):gJ Pg tt (.slice t x zz (zw hi) (zw Z)):=by
 intro E st gh val w ρ F o d r ho h H hFn m hp hd;simp only[kernel]at m;unfold DF at m;have J :∀(e:TypeId) (ao:Option Addr) (len cap k j:Nat) (K:TI),Pg.underlying t=zw (.slice e)->qQ Pg e K->ρ x=.slice ao len cap->ρ hi=.int .i64 k->ρ Z=.int .i64 j->k<=j->j<=cap->
   (execOp ρ o).run Pg w=.ok (.value (.slice (if j=0 then ao else ao.map (·.add 0)) k j)) w:=by
  intro e ao len cap k j K hu L M N T h1 h2;unfold execOp;rw[ho];refine iE ?_;have b1:(j:Int)<=cap:=by omega
  have b2:(k:Int)<=j:=by omega
  simp[Instr.sliceAt,fB hu,Instr.slice,Instr.sliceBounds,Instr.sliceBound,asIntOf,M,N,T,eU L,h1,h2,Result.andThen]
 split at m
 .rename_i e _ _ _ g _ _ h' _ _ m' ht hx N T;have rx:=H x;rw[hx]at rx;have U:=H hi;rw[N]at U;have X:=H Z;rw[T]at X;have hu:=(q _ _ ht).kind;simp only[qB]at hu;split at m
  rotate_left
  cases m;rename_i K _ _ sz l L y;split at m
  rotate_left
  cases m;rename_i hsz;cases m;obtain⟨k,j,rfl,rfl,hkj,hjl⟩:=hp;have M:=(by cases rx.dW with|own _ _ _ hb=>exact hb _ _ (O.kZ y):ρ x=.slice (gh g).ad l.length (gh g).cap);have hcap:=(wW (h.bI g) (O.kZ y)).1;have hr:=J e _ _ _ k j K hu (q _ _ L) M U.gB.fJ X.gB.fJ hkj (by omega);have B:(gh g).ad.map (·.add 0)=(gh g).ad:=by
   have hO:=h.bI g;rw[y]at hO;rcases hO with⟨z1,_⟩|⟨ad,c,e0,z1,z2,_⟩
   .rw [z1];rfl
   .obtain ⟨b0,o0,sp0⟩:=ad;simp only at z2;subst z2;rw[z1];rfl
  rw[B,ite_self]at hr;refine still h hr (dU.Jr (.vw g (lV 0) _ _ rfl λsz' len' Y=>?_)) λg' b=>?_
  .rw [y]at Y;obtain⟨rfl,rfl⟩:=O.kW (fz:=zv) Y;refine⟨0,k,j,rfl,rfl,by omega,by omega,by omega,?_⟩;rw[Nat.zero_mul,B,ite_self,Nat.sub_zero]
  .have b:g'∈(S.v (.one (.vw g (lV 0) (P.int .i64 (k:Int))))).names:=b;rw[dZ]at b;exact hFn x g' (by rw[hx,dZ];simpa[W.names]using b)
 .rename_i e _ _ _ _ _ h' _ _ m' ht hx N T;have rx:=H x;rw[hx]at rx;have U:=H hi;rw[N]at U;have X:=H Z;rw[T]at X;have hu:=(q _ _ ht).kind;simp only[qB]at hu;split at m
  rotate_left
  .cases m
  rename_i K L;cases m;obtain⟨rfl,rfl⟩:=hp;have M:ρ x=.slice zz 0 0:=by have:=rx.dW;generalize ρ x=z at this;cases this;rfl
  have hr:(execOp ρ o).run Pg w=.ok (.value (.slice zz 0 0)) w:=by unfold execOp;rw[ho];refine iE ?_;have hh':=U.gB.fJ;have hm':=X.gB.fJ;simp[Instr.sliceAt,fB hu,Instr.slice,Instr.sliceBounds,Instr.sliceBound,asIntOf,M,hh',hm',eU (q _ _ L),Result.andThen]
  exact still h hr (dU.Jr .dD) λg' b=>by have b:g'∈(S.v (.one W.dD)).names:=b;rw[dZ]at b;simp[W.names]at b
 .cases m
theorem Uh(X:jv Pg tt)(t:TypeId)(x:Operand)(lo hi:Option Operand):gJ Pg tt (.slice t x lo hi zz):=by
 intro E st gh val w ρ F o d r ho h hF hFn c hp hd;simp only[kernel]at c;split at c
 .rename_i e _ _ _ x' ht K;have rx:=hF x;rw[K]at rx;have hu:=(X _ _ ht).kind;simp only[qB]at hu;have hnx :∀g,g∈x'.names->st.used g=zj:=λg hg=>hFn x g (by rw[K,dZ];exact hg);have Y :∀(ao:Option Addr) (len cap m k:Nat) (T:TI),qQ Pg e T->ρ x=.slice ao len cap->(lo.map ρ=zz/\m=0)\/(∃kd,lo.map ρ=zw (.int kd m))->
    ((hi.map ρ=zz/\k=len)\/∃kd,hi.map ρ=zw (.int kd k))->m<=k->k<=cap->
    (execOp ρ o).run Pg w=.ok (.value (.slice (if cap=m then ao else ao.map (·.add (m*T.size))) (k-m) (cap-m))) w:=by
   intro ao len cap m k T he hv L M h1 h2;unfold execOp;rw[ho];refine iE ?_;simp only[KM];have hs:=pG (Pg:=Pg) (w:=w) (len:=len) L M h1 h2;simp[Instr.sliceAt,fB hu,Instr.slice,hv,hs,eU he]
  split at c
  rotate_left
  cases c;rename_i T ask len he N;split at c
  rotate_left
  cases c;rename_i H J L M;split at c
  .rename_i g;split at c
   rotate_left
   cases c;rename_i sz l hog;split at c
   rotate_left
   cases c;rename_i Z;cases c;obtain⟨m,k,hm,c,U,B⟩:=hp;have hv:=(by cases rx.dW with|own _ _ _ hb=>exact hb _ _ hog:ρ x=.slice (gh g).ad l (gh g).cap);have hcap:=(wW (h.bI g) hog).1;have Ku:(lo.map ρ=zz/\m=0)\/∃kd,lo.map ρ=zw (.int kd m):=(jd hF L hm).imp (λ⟨a,b⟩=>⟨a,by simp[lV]at b;omega⟩) id;have wX:(hi.map ρ=zz/\k=l)\/∃kd,hi.map ρ=zw (.int kd k):=(jd hF M c).imp (λ⟨a,b⟩=>⟨a,by simp only[lenOf,hog,Q0,QP]at N;rw[<-N.2]at b;simp at b;omega⟩) id
   refine still h (Y _ _ _ m k T (X _ _ he) hv Ku wX U (by omega)) (dU.Jr (.vw g H J _ rfl λsz' len' ho'=>?_)) λg' q=>?_
   .rw [hog]at ho';cases ho';exact⟨m,k,(gh g).cap-m,hm,c,U,B,by omega,by rw[Z]⟩
   .have q:g'∈(S.v (.one (.vw g H J))).names:=q;rw[dZ]at q;exact hnx g' (by simpa[W.names]using q)
  .rename_i a i y;cases c;obtain⟨hask,hsl,m,k,hm,c,U,B⟩:=hp;cases y with
   |sl sz l=>
    have B:k<=l.length:=B;obtain⟨ao,cap,hv,hcap,hcells⟩:=rx.gB.BP;have Ku:(lo.map ρ=zz/\m=0)\/∃kd,lo.map ρ=zw (.int kd m):=(jd hF L hm).imp (λ⟨a,b⟩=>⟨a,by simp[lV]at b;omega⟩) id;have wX:(hi.map ρ=zz/\k=l.length)\/∃kd,hi.map ρ=zw (.int kd k):=(jd hF M c).imp (λ⟨a,b⟩=>⟨a,by simp only[lenOf,Q0,QP]at N;rw[<-N.2]at b;simp[P.len]at b;omega⟩) id
    have e1:H.nat=m:=by rw[hm];simp[P.nat,P.num]
    have e2:J.nat=k:=by rw[c];simp[P.nat,P.num]
    refine still h (Y _ _ _ m k T (X _ _ he) hv Ku wX U (by omega)) (dU.ofP ?_) λg' q=>?_
    .show dH w _ (P.sub T.size H.nat J.nat (.sl sz l)) _;rw[e1,e2];have hlen':((l.take k).drop m).length=k-m:=by simp;omega
     refine dH.gV ?_;show dH w _ (.sl T.size ((l.take k).drop m)) _;rcases ze m k with hlt|hge
     .have hne:l≠[]:=by intro e;subst e;simp at B;omega
      have Z:sz=T.size:=by rcases hsl with e|e;exact e;exact absurd e hne
      obtain⟨ad,rfl,hs,hok,hrow,f,hc,hr⟩:=hcells hne;have hcm:¬ cap=m:=by omega
      obtain⟨b0,o0,sp0⟩:=ad;simp only at hs;subst hs;rw[Qt hcm,W7,Addr.ji,<-hlen'];refine .sl _ _ _ _ (λi j=>f (m+i) j) rfl (by rw[<-Z];exact hok) (by omega) (λx K=>by rw[<-Z];exact hrow x (Wl (UB K))) (λi x K j y hy=>?_) λi x K j y hy=>?_
      .rw [Wo,ZZ]at K;split at K
       .have e:o0+m*sz+i*sz+j=o0+(m+i)*sz+j:=by rw[WK];omega
        show w.cell? ⟨b0,o0+m*T.size+i*T.size+j,zz⟩=_;rw[<-Z,e];exact hc (m+i) x K j y hy
       .cases K
      .rw [Wo,ZZ]at K;split at K
       .exact hr (m+i) x K j y hy
       .cases K
     .have e3:k-m=0:=by omega
      have e4:(l.take k).drop m=[]:=Uv (by omega);rw[e3,e4];exact .nil _ _ _
    .have q:g'∈(S.v (.one (.p a i (P.sub T.size H.nat J.nat (.sl sz l))))).names:=q;rw[dZ]at q;simp[W.names]at q
   |_=>exact hsl.elim
  .cases c;obtain⟨hm,c⟩:=hp;have hv:=(by generalize hz:ρ x=z at rx;cases rx.dW;rfl:ρ x=.slice zz 0 0);have Ku:(lo.map ρ=zz/\0=0)\/∃kd,lo.map ρ=zw (.int kd (0:Nat)):=(jd hF L hm).imp (λ⟨a,b⟩=>⟨a,rfl⟩) id;have wX:(hi.map ρ=zz/\0=0)\/∃kd,hi.map ρ=zw (.int kd (0:Nat)):=(jd hF M c).imp (λ⟨a,b⟩=>⟨a,rfl⟩) id;refine still h (Y _ _ _ 0 0 T (X _ _ he) hv Ku wX (YY _) (YY _)) (dU.Jr ?_) λg' q=>?_;exact .dD;have q:g'∈(S.v (.one .dD)).names:=q;rw[dZ]at q;simp[W.names]at q
  .cases c
 .rename_i _ _ _ a i y ht K;have rx:=hF x;rw[K]at rx;have hu:=(X _ _ ht).kind;simp only[qB]at hu;split at c
  rotate_left
  cases c;rename_i H J L M;cases c;obtain⟨hs,m,k,hm,c,U,B⟩:=hp;cases y with
  |str s=>
   have B:k<=s.size:=B;have hv:=rx.gB.sZ;have Ku:(lo.map ρ=zz/\m=0)\/∃kd,lo.map ρ=zw (.int kd m):=(jd hF L hm).imp (λ⟨a,b⟩=>⟨a,by simp[lV]at b;omega⟩) id;have wX:(hi.map ρ=zz/\k=s.size)\/∃kd,hi.map ρ=zw (.int kd k):=(jd hF M c).imp (λ⟨a,b⟩=>⟨a,by simp[P.len]at b;omega⟩) id;have hb:=Fz (Pg:=Pg) (w:=w) (b:=zv) (len:=s.size) Ku wX U B;have e1:H.nat=m:=by rw[hm];simp[P.nat,P.num]
   have e2:J.nat=k:=by rw[c];simp[P.nat,P.num]
   refine iy (tt:=tt) h (v:=.string (s.extract m k)) ?_ λok=>?_
   .unfold execOp;rw[ho];refine iE ?_;simp only[KM];simp[Instr.sliceAt,fB hu,Instr.slice,hv,hb]
   .show dH w ok (P.str (s.extract H.nat J.nat)) _;rw[e1,e2];exact .str _
  |_=>exact hs.elim
 .cases c
end
end Go.Fw

namespace Go.Fw
variable [fO]
section
variable {E:Env} {st st':St} {gh bU:Nat->Gh} {w w':World} {val:Nat->Value} {Pg:Program} {tt:TT}
theorem cells_one(h:v.oneCell'=zj):v.cells=#[v]:=by cases v<;>first|rfl|simp[Value.oneCell']at h
theorem sV.cells{x:V}(h:sV E st gh w x v)(hs:x.solid=zj):∃cs:List Value,v.cells=cs.toArray/\cs.length=x.words.length/\(∀c∈cs,c.oneCell'=zj)/\
  ∀(j:Nat) y u,x.words[j]?=zw y->cs[j]?=zw u->f_ E st gh w y u:=by
 cases h with
 |one x v h=>
  have d:v.oneCell'=zj:=h.oneCell (by intro b y e;subst e;cases hs) (by intro e;subst e;cases hs);refine⟨[v],by rw[cells_one d],rfl,by simpa using d,λj y u g hu=>?_⟩;cases j with
  |zero=>simp[V.words]at g hu;subst g hu;exact h
  |succ j=>simp at hu
 |agg xs cs m q h=>exact⟨cs,rfl,m.symm,q,h⟩
theorem dU.Qz{x:V}(h:dU E st gh w (.v x) v):sV E st gh w x v:=by cases h;assumption
theorem foldl_set(off:Nat):∀(vs:List Value) (j:Nat) (a:Array Value),off+j+vs.length<=a.size->
  ((vs.zipIdx j).foldl (λcs (p:Value×Nat)=>cs.setIfInBounds (off+p.2) p.1) a).toList=bf a.toList (off+j) vs:=by
 intro vs
 induction vs with
 |nil=>intro j a h;simp[bf]
 |cons v vs b=>
  intro j a h;simp only[List.zipIdx_cons,vn];rw[b (j+1) _ (by simp at h ⊢;omega)];simp only[Array.toList_setIfInBounds,bf];simp at h;apply qn;intro n;simp only[Kj,ZZ,Wo,XS,VV,UI,KS,Wm];have c:min (off+(j+1)) a.toList.length=off+j+1:=by simp;omega
  have d:min (off+j) a.toList.length=off+j:=by simp;omega
  rw[c,d];rcases Nat.lt_trichotomy n (off+j)with hn|hn|hn
  .simp [hn,show n<off+j+1 by omega,show n<off+j+1+vs.length by omega,show n<off+j+(vs.length+1) by omega,show n<off+(j+1) by omega,show ¬ off+j=n by omega]
  .subst hn;have:off+j<a.size:=by omega
   simp[this,show off+j<off+j+1+vs.length by omega,show off+j<off+(j+1) by omega]
  .by_cases g:n<off+j+(vs.length+1)
   .rw [QQ (by omega),Qt (by omega),QQ (by omega),Qt (by omega)];have:n-(off+j)=(n-(off+j+1))+1:=by omega
    rw[this,J0]
   .rw [Qt (by omega),Qt (by omega)];have e:off+(j+1)+vs.length+(n-(off+j+1+vs.length))=off+j+(vs.length+1)+(n-(off+j+(vs.length+1))):=by omega
    rw[e,Qt (by omega)]
theorem fM{α:Type}{l new:List α}{off:Nat}(h:off+new.length<=l.length):(bf l off new).length=l.length:=by simp[bf];omega
theorem fV{α:Type}{l new:List α}{off:Nat}(h:off+new.length<=l.length)(j:Nat):(bf l off new)[j]?=if off<=j/\j<off+new.length then new[j-off]? else l[j]?:=by
 unfold bf;simp only[Kj,ZZ,Wo,XS,VV];have d:min off l.length=off:=by omega
 rw[d];by_cases b:j<off
 .rw [QQ (by omega),QQ b,QQ b,Qt (by omega)]
 .by_cases c:j<off+new.length
  .rw [QQ c,Qt b,QQ ⟨by omega,c⟩]
  .rw [Qt c,Qt (by omega)];congr 1;omega
theorem DN{place place':Nat->Option (Nat×Nat)}(N :∀n p,place n=zw p->place' n=zw p):∀(xs:List (Nat×S)) (vs:List (Nat×Value)) (z d:List W) (cs:List Value),xs.length=vs.length->
  (∀(j:Nat) x v,xs[j]?=zw x->vs[j]?=zw v->x.1=v.1/\dU E st gh w x.2 v.2)->z.length=cs.length->(∀c∈cs,c.oneCell'=zj)->
  (∀(j:Nat) x u,z[j]?=zw x->cs[j]?=zw u->f_ E st gh w x u)->nH place z xs=zw d->
  ∃m:List Value,Instr.fill place' cs.toArray vs=zw m.toArray/\d.length=m.length/\(∀c∈m,c.oneCell'=zj)/\(∀(j:Nat) x u,d[j]?=zw x->m[j]?=zw u->f_ E st gh w x u)/\d.length=z.length
 | [],vs,z,d,cs,L,T,g,h,U,q=>by
  simp only[nH,Q0]at q;subst q;cases vs with
  |nil=>exact⟨cs,rfl,g,h,U,rfl⟩
  |cons v vs=>simp at L
 |(n,.v x)::xs,vs,z,d,cs,L,T,g,h,U,q=>by
  cases vs with
  |nil=>simp at L
  |cons v vs=>
   obtain⟨n',v⟩:=v;simp only[nH]at q;split at q
   rotate_left
   cases q;rename_i off size hp;split at q
   rotate_left
   cases q;rename_i hc;obtain⟨hn,X⟩:=T 0 _ _ rfl rfl;simp only at hn X;subst hn;obtain⟨us,hus,Kv,huo,hur⟩:=X.Qz.cells hc.2.2;have hsz:us.length=size:=by rw[Kv,hc.1]
   have Y:off+us.length<=cs.length:=by omega
   have B:Instr.fill place' cs.toArray ((n,v)::vs)=Instr.fill place' (bf cs off us).toArray vs:=by
    have H:=foldl_set off us 0 cs.toArray (by simp;omega);simp only[Instr.fill,N _ _ hp,hus];have h1:(decide (us.toArray.size≠size)||decide (off+us.toArray.size>cs.toArray.size))=zv:=by simp;omega
    rw[h1];simp only[Wb,if_false];congr 1;apply Array.ext';have:us.toArray.zipIdx.foldl (λcs (p:Value×Nat)=>cs.setIfInBounds (off+p.2) p.1) cs.toArray=(us.zipIdx 0).foldl (λcs (p:Value×Nat)=>cs.setIfInBounds (off+p.2) p.1) cs.toArray:=by rw[<-Array.foldl_toList];simp
    rw[this,H];simp
   have J:off+x.words.length<=z.length:=by omega
   obtain⟨m,h1,h2,h3,h4,h5⟩:=DN N xs vs (bf z off x.words) d (bf cs off us) (by simpa using L) (λj a b M Y=>T (j+1) a b (by simpa using M) (by simpa using Y))
    (by rw[fM J,fM Y,g]) (λc hcm=>by
     obtain⟨j,Z⟩:=UX.1 hcm;rw[fV Y]at Z;split at Z
     .exact huo c (Z1 Z)
     .exact h c (Z1 Z)) (λj a b M y=>by
     rw[fV J]at M;rw[fV Y,Kv]at y;split at M
     .rename_i K;rw[QQ K]at y;exact hur _ _ _ M y
     .rename_i K;rw[Qt K]at y;exact U _ _ _ M y) q
   exact⟨m,by rw[B];exact h1,h2,h3,h4,by rw[h5,fM J]⟩
 |(n,.jy x)::xs,vs,z,d,cs,L,T,g,h,U,q=>by simp[nH]at q
 |(n,.no)::xs,vs,z,d,cs,L,T,g,h,U,q=>by simp[nH]at q
theorem Xl(h:v.oneCell'=zj):f_ E st gh w (cv v) v:=by
 unfold cv;split
 .exact .p _ _ _ _ (.int _ _)
 .exact .p _ _ _ _ (.bool _)
 .exact .p _ _ _ _ (.str _)
 .exact .dD
 .exact .p _ _ _ _ (.opq _ h)
theorem qE(v:Value):(cv v).names=[]:=by unfold cv;split<;>simp[W.names]
theorem vF{i:TI}(h:qQ Pg t i):(∀c∈i.zero,c.oneCell'=zj)/\(i.zero.map cv).length=i.zero.length/\∀(j:Nat) x u,(i.zero.map cv)[j]?=zw x->i.zero[j]?=zw u->f_ E st gh w x u:=by have b:=h.one;rw[Z3]at b;refine⟨b,by simp,λj x u d hu=>?_⟩;simp only[Z0,hu,W7,Q0]at d;subst d;exact Xl (b u (Z1 hu))
theorem Bf(w:World)(o:Obj):(w.heap.push o)[w.heap.size]?=zw o:=by simp
theorem Ui(h:Rel E st gh val w)(d:Nat)(hd:st.used d=zv)(b:List W)(cs:List Value)(t:TypeId)(L:b.length=cs.length)(q :∀c∈cs,c.oneCell'=zj)
  (H :∀(j:Nat) x u,b[j]?=zw x->cs[j]?=zw u->f_ E st gh w x u) (hn :∀x∈b,∀g∈x.names,st.used g=zj) :
  ∃bU,Rel E (st.aJ [(d,.box b)] [d]) bU val { w with heap:=w.heap.push (.cells cs.toArray t) }/\Lets E st (st.aJ [(d,.box b)] [d]) gh bU w { w with heap:=w.heap.push (.cells cs.toArray t) }/\
   (bU d).ad=zw ⟨w.heap.size,0,zz⟩ /\(st.aJ [(d,.box b)] [d]).o d=.box b:=by
 have B:=Rel.make h d hd (.box b) cs.toArray t ⟨zw ⟨w.heap.size,0,zz⟩,0,λ_=>zz⟩ rfl (λ_=>rfl) (λbU w' m hg J=>by
  subst J;refine⟨⟨w.heap.size,0,zz⟩,cs.toArray,t,rfl,rfl,Bf _ _,by simp;omega,λj x y=>?_⟩;have z:j<cs.length:=by have:=(Q3.1 y).1;omega
  have K:cs[j]?=zw cs[j]:=Q2 z;refine⟨cs[j],by simp,q _ (X2 z),m.BM (λg hg=>hn x (Z1 y) g hg) (H j x _ y K)⟩) (λg hg=>by
  simp only[O.names,Z2]at hg;obtain⟨x,y,hg⟩:=hg;exact hn x y g hg)
 exact⟨_,B.1,B.2,by simp[fZ],by simp[St.aJ,List.lookup]⟩
theorem Uj(b:jv Pg tt)(t:TypeId):gJ Pg tt (.alloc t):=by
 intro E st gh val w ρ F o d r H h Y J j Z hd;simp only[kernel]at j;split at j
 rotate_left
 cases j;rename_i i y;cases j;obtain⟨z,K,m,_⟩:=oL (Pg:=Pg) (w:=w) (b _ _ y);obtain⟨c,L,M⟩:=vF (E:=E) (st:=st) (gh:=gh) (w:=w) (b _ _ y);obtain⟨bU,N,T,U,h4⟩:=Ui h d (hd d (by simp)) (i.zero.map cv) i.zero t L c M (λx B g hg=>by simp only[XN]at B;obtain⟨v,_,rfl⟩:=B;rw[qE]at hg;cases hg)
 have q:z.cells=i.zero.toArray:=by rw[<-m]
 refine⟨.pointer (zw ⟨w.heap.size,0,zz⟩),_,bU,.inl ?_,N,T,dU.Jr (.box d 0 _ rfl λws X=>⟨_,U,rfl⟩),λg hg=>?_⟩
 .unfold execOp;rw[H];refine iE ?_;simp[Instr.alloc,K,newVar,newRow,q]
 .have hg:g∈(S.v (.one (.box d 0))).names:=hg;rw[dZ]at hg;simp only[W.names,X1]at hg;subst hg;simp[St.aJ]
theorem Uk(c:jv Pg tt)(t:TypeId)(x:Operand):gJ Pg tt (.range t x):=by
 intro E st gh val w ρ F o d r m h q y b z hd;simp only[kernel]at b;split at b
 rotate_left
 cases b;rename_i a i B H J;cases b;have rx:=q x;rw[J]at rx;have hu:=(c _ _ H).kind;simp only[qB]at hu;cases B with
 |str j=>
  have K:=rx.gB.sZ;obtain⟨L,M⟩:=h.ak8 d (hd d (by simp)) (.it (.str j) (lV 0)) (.stringIter j 0) ⟨zw ⟨w.heap.size,0,zz⟩,0,λ_=>zz⟩ rfl (λ_=>rfl)
   (λbU w' _ _ N=>⟨_,j,0,rfl,rfl,rfl,by rw[N];simp⟩) (λg hg=>by simp[O.names]at hg)
  refine⟨.pointer (zw ⟨w.heap.size,0,zz⟩),_,_,.inl ?_,L,M,dU.Jr (.oI d _ rfl λs n _=>⟨⟨w.heap.size,0,zz⟩,by simp[fZ],rfl⟩),λg hg=>?_⟩
  .unfold execOp;rw[m];refine iE ?_;rw[K];simp[Instr.range,fB hu]
  .have hg:g∈(S.v (.one (.oI d))).names:=hg;rw[dZ]at hg;simp only[W.names,X1]at hg;subst hg;simp[St.aJ]
 |_=>exact z.elim
theorem abN(H:jv Pg tt)(t:TypeId)(x:Operand):gJ Pg tt (.box t x):=by
 intro E st gh val w ρ F o d r J h K j b hp hd;simp only[kernel]at b;split at b
 rotate_left
 cases b;rename_i i q ht B;split at b
 rotate_left
 cases b;rename_i L;cases b;have rx:=K x;rw[B]at rx;obtain⟨M,N,T,c,U⟩:=rx.Qz.cells L.2;obtain⟨bU,X,Y,Z,h4⟩:=Ui h d (hd d (by simp)) q.words M t T.symm c U (λy m g hg=>by
  have:=j x g;rw[B]at this;refine this ?_;cases q with
  |one z=>simp[V.words]at m;subst m;simpa[S.names,V.names]using hg
  |agg xs=>simp only[S.names,V.names,Z2];exact⟨y,m,hg⟩)
 refine⟨.pointer (zw ⟨w.heap.size,0,zz⟩),_,bU,.inl ?_,X,Y,dU.Jr (.box d 0 _ rfl λws hws=>⟨_,Z,rfl⟩),λg hg=>?_⟩
 .unfold execOp;rw[J];refine iE ?_;simp[Instr.box,newVar,newRow,N]
 .have hg:g∈(S.v (.one (.box d 0))).names:=hg;rw[dZ]at hg;simp only[W.names,X1]at hg;subst hg;simp[St.aJ]
theorem Bg{α β:Type}(f:α->Sem β)(g:α->β):∀(l:List α),(∀x∈l,(f x).run Pg w=.ok (g x) w)->(l.mapM f).run Pg w=.ok (l.map g) w
 | [],_=>by simp
 |x::l,h=>by simp only[vv,Sem.run_bind,h x (by simp),Result.andThen_ok,Bg f g l (λy b=>h y (by simp[b])),Sem.run_pure,Qf]
theorem HY{place:Nat->Option (Nat×Nat)}:∀(xs:List (Nat×S)) (c b:List W),nH place c xs=zw b->∀y∈b,∀g∈y.names,(∃z∈c,g∈z.names)\/∃x∈xs,g∈x.2.names
 | [],c,b,h,y,d,g,hg=>by simp[nH]at h;subst h;exact .inl ⟨y,d,hg⟩
 |(n,.v x)::xs,c,b,h,y,d,g,hg=>by
  simp only[nH]at h;split at h
  rotate_left
  cases h;split at h
  rotate_left
  cases h;rcases HY xs _ _ h y d g hg with⟨z,hz,hg⟩|⟨m,j,hg⟩
  rotate_left
  exact .inr ⟨m,V1 _ j,hg⟩;unfold bf at hz;simp only[Ys]at hz;rcases hz with(hz|hz)|hz
  .exact .inl ⟨z,Wl hz,hg⟩
  .refine .inr ⟨_,Kc,?_⟩;cases x with
   |one q=>simp[V.words]at hz;subst hz;simpa[S.names,V.names]using hg
   |agg B=>simp only[S.names,V.names,Z2];exact⟨z,hz,hg⟩
  .exact .inl ⟨z,UB hz,hg⟩
 |(n,.jy x)::xs,c,b,h,y,d,g,hg=>by simp[nH]at h
 |(n,.no)::xs,c,b,h,y,d,g,hg=>by simp[nH]at h
theorem FB{ρ:Operand->Value}{F:Operand->S}(g :∀x,dU E st gh w (F x) (ρ x))(parts:List (Nat×Operand))(j:Nat)(x:Nat×S)(v:Nat×Value)(b:(parts.map λp=>(p.1,F p.2))[j]?=zw x)
  (c:(parts.map λp=>(p.1,ρ p.2))[j]?=zw v):x.1=v.1/\dU E st gh w x.2 v.2:=by
 simp only[Z0,Wg]at b c;obtain⟨p,h,rfl⟩:=b;obtain⟨q,d,rfl⟩:=c;rw[h]at d;cases d;exact⟨rfl,g _⟩
theorem Ul(J:jv Pg tt)(t:TypeId)(parts:Array (Nat×Operand)):gJ Pg tt (.build t parts):=by
 intro E st gh val w ρ F o d r ho h hF hFn L hp hd;simp only[kernel]at L;split at L
 rotate_left
 cases L;rename_i i N;split at L
 rotate_left
 cases L;rename_i c;split at L
 rotate_left
 cases L;rename_i ws OL;cases L;obtain⟨z,hz,hzc,_⟩:=oL (Pg:=Pg) (w:=w) (J _ _ N);obtain⟨M,hl,hr⟩:=vF (E:=E) (st:=st) (gh:=gh) (w:=w) (J _ _ N);have T:z.cells=i.zero.toArray:=by rw[<-hzc]
 have K:(parts.map λ(p:Nat×Operand)=>(p.1,ρ p.2)).toList=parts.toList.map λp=>(p.1,ρ p.2):=by simp
 have B:=(J _ _ N).kind;have fin :∀(b:Nat->Option (Nat×Nat)),(∀n p,placeOf tt t n=zw p->b n=zw p)->
   ∃q:List Value,Instr.fill b z.cells (parts.map λ(p:Nat×Operand)=>(p.1,ρ p.2)).toList=zw q.toArray/\dU E st gh w (.v (.agg ws)) (.agg q.toArray):=by
  intro b hpl;obtain⟨q,U,X,h3,h4,h5⟩:=DN (E:=E) (st:=st) (gh:=gh) (w:=w) hpl _ (parts.toList.map λp=>(p.1,ρ p.2)) _ _ i.zero (by simp) (λj x v hx hv=>FB hF _ j x v hx hv) hl M hr OL;exact⟨q,by rw[K,T];exact U,.v _ _ (.agg _ _ X h3 h4)⟩
 have Y :∀g∈(S.v (.agg ws)).names,st.used g=zj:=by
  intro g hg;simp only[S.names,V.names,Z2]at hg;obtain⟨y,hy,hg⟩:=hg;rcases HY _ _ _ OL y hy g hg with⟨u,hu,hg⟩|⟨x,hx,hg⟩
  .simp only[XN]at hu;obtain⟨v,_,rfl⟩:=hu;rw[qE]at hg;cases hg
  .simp only[XN]at hx;obtain⟨p,_,rfl⟩:=hx;exact hFn _ g hg
 obtain⟨k,size,bytes,zero⟩:=i;simp only at T hz M hl hr;cases k with
 |struct fs=>
  obtain⟨gs,hu,Z⟩:=B;have c:(fs.all λf=>(tt f.2).isSome)=zj:=c;rw[Z3]at c;have hsz :∀f∈gs.toList,∃iu,tt f.type=zw iu:=by intro f hf;have:=c (f.offset,f.type) (by rw[<-Z];exact XN.2 ⟨f,hf,rfl⟩);exact vq.1 this
  have hmap:(gs.mapM λf=>do pure (f.offset,<-sizeOf f.type):Sem (Array (Nat×Nat))).run Pg w=.ok (gs.map λf=>(f.offset,((tt f.type).map (·.size)).getD 0)) w:=by
   have:(gs.toList.mapM λf=>do pure (f.offset,<-sizeOf f.type):Sem (List (Nat×Nat))).run Pg w=.ok (gs.toList.map λf=>(f.offset,((tt f.type).map (·.size)).getD 0)) w:=by refine Bg _ _ _ λf hf=>?_;obtain⟨iu,hiu⟩:=hsz f hf;simp[eU (J _ _ hiu),hiu]
   rw[<-Array.toArray_toList (xs:=gs),List.mapM_toArray,Sem.run_map,this];simp only[Result.andThen_ok];congr 1;apply Array.ext';simp
  obtain⟨q,U,X⟩:=fin (λn=>(gs.map λf=>(f.offset,((tt f.type).map (·.size)).getD 0))[n]?) (λn p hpn=>by obtain⟨off,sz⟩:=p;obtain⟨u,iu,e1,e2,e3⟩:=yS N hpn;rw[<-Z]at e1;simp only[Z0,Wg,QP]at e1;obtain⟨f,g1,g2,g3⟩:=e1;simp only[Array.getElem?_map,Wg];exact⟨f,by simpa using g1,by rw[g2,g3,e2];simp[e3]⟩)
  refine still h (v:=.agg q.toArray) (by unfold execOp;rw[ho];refine iE ?_;simp only[Instr.build,Sem.run_bind,hz,Result.andThen_ok,fB hu,hmap];simp only[U];rfl) X Y
 |arr n e=>
  simp only[qB]at B;have c:(tt e).isSome=zj:=c;obtain⟨ie,hie⟩:=vq.1 c;obtain⟨q,U,X⟩:=fin (λn=>zw (n*ie.size,ie.size)) (λm p H=>by unfold placeOf at H;rw[N]at H;simp only[hie,W7]at H;split at H;exact H;cases H)
  refine still h (v:=.agg q.toArray) (by unfold execOp;rw[ho];refine iE ?_;simp only[Instr.build,Sem.run_bind,hz,Result.andThen_ok,fB B,eU (J _ _ hie)];simp only[U];rfl) X Y
 |_=>cases c
variable{l:List (List P)}
theorem dH.ak9{ok:Nat->Prop}{len cap:Nat}(h:dH w ok (.sl g l) (.slice L len cap))(q:l.length<=j):dH w ok (.sl g l) (.slice L len j):=by
 cases h with
 |nil=>exact .nil _ _ _
 |sl _ _ ad _ f y d m b sz z=>exact .sl _ _ _ _ f y d q b sz z
theorem dH.sub{ok:Nat->Prop}{len cap:Nat}(h:dH w ok (.sl g l) (.slice L len cap)){k:Nat}(U:j<=k)(z:k<=l.length):
  dH w ok (.sl g ((l.take k).drop j)) (.slice (if cap=j then L else L.map (·.add (j*g))) (k-j) (cap-j)):=by
 obtain⟨X,M,Y,N,c⟩:=h.BP;cases Y;have d:((l.take k).drop j).length=k-j:=by simp;omega
 rcases ze j k with Z|hge
 .have B:l≠[]:=by intro e;subst e;simp at z;omega
  obtain⟨ad,rfl,T,H,q,f,hc,hr⟩:=c B;have J:¬ cap=j:=by omega
  obtain⟨b0,K,sp0⟩:=ad;simp only at T;subst T;rw[Qt J,W7,Addr.ji,<-d];refine .sl _ _ _ _ (λi m=>f (j+i) m) rfl H (by omega) (λx b=>q x (Wl (UB b))) (λi x b m y sz=>?_) λi x b m y sz=>?_
  .rw [Wo,ZZ]at b;split at b
   .have e:K+j*g+i*g+m=K+(j+i)*g+m:=by rw[WK];omega
    show w.cell? ⟨b0,K+j*g+i*g+m,zz⟩=_;rw[e];exact hc (j+i) x b m y sz
   .cases b
  .rw [Wo,ZZ]at b;split at b
   .exact hr (j+i) x b m y sz
   .cases b
 .have e3:k-j=0:=by omega
  have e4:(l.take k).drop j=[]:=Uv (by omega);rw[e3,e4];exact .nil _ _ _
theorem Js:st.aJ [] []=st:=by simp[St.aJ]
theorem nJ(o:Nat->O)(gs:List Nat)(g:Nat):(gs.map (bC o)).lookup g=if g∈gs then zw (bC o g).2 else zz:=by
 induction gs with
 |nil=>simp
 |cons x gs c=>
  simp only[Qf];by_cases e:g=x
  .subst e;have:(bC o g)=(g,(bC o g).2):=rfl;rw[this,List.lookup];simp
  .have b:(g==x)=zv:=by simpa using e
   have:(bC o x)=(x,(bC o x).2):=rfl;rw[this,List.lookup,b];simp only[c,Xs,e,false_or]
theorem _root_.Go.Fw.O.like.trans{x y z:O}(b:x.like y)(c:y.like z):x.like z:=by cases x<;>cases y<;>cases z<;>first|exact b.elim|exact c.elim|trivial|exact⟨b.1.trans c.1,b.2.trans c.2⟩
theorem QA{α:Type}{l:List α}{y:α}(h:g<l.length)(j:Nat):(bf l g [y])[j]?=if j=g then zw y else l[j]?:=by
 rw[fV (by simp;omega)];by_cases e:j=g
 .subst e;rw[QQ ⟨YY _,by simp⟩,QQ rfl];simp
 .rw [Qt e,Qt];simp;omega
variable{y:P}
theorem jG:(jM l g n y).length=l.length:=by simp[jM]
theorem yT{c:List P}(h:(jM l g n y)[b]?=zw c):(b≠g/\l[b]?=zw c)\/(b=g/\∃x,l[g]?=zw x/\c=bf x n [y]):=by
 unfold jM at h;rw[KS]at h;split at h
 .rename_i e;split at h
  .rename_i d;refine .inr ⟨e.symm,l[g],Q2 d,?_⟩;rw[Q1,Q2 d]at h;simpa using h.symm
  .cases h
 .rename_i e;exact .inl ⟨λx=>e x.symm,h⟩
theorem DR(sz :∀x∈l,x.length=b)(q:n<b):∀x∈jM l g n y,x.length=b:=by intro x d;obtain⟨j,c⟩:=UX.1 d;rcases yT c with⟨_,h⟩|⟨_,m,h,rfl⟩;exact sz x (Z1 h);have:=sz m (Z1 h);rw[fM (by simp;omega),this]
variable{o:Nat->O}
theorem wY(h:plainO o g=zw (i,a,n,l)):
  (∃fz,o g=.arr fz i a n l)\/(∃au,o g=.aO i a n au l zz)\/
  ∃a0 i0 au H sz c d q a' i' b j,o g=.aO a0 i0 n au H (zw (sz,c,d))/\o d=.arr q a' i' b j/\au.lookup c=zw b/\c<n/\i=(a0||a')/\a=(i0||i')/\l=jM H sz c (P.gV b j):=by
 unfold plainO at h;cases y:o g with
 |arr fz a' i' b j=>rw[y]at h;cases h;exact .inl ⟨fz,rfl⟩
 |aO a' i' b au j m=>
  rw[y]at h;rcases m with _|⟨sz,c,d⟩
  .cases h;exact .inr (.inl ⟨au,rfl⟩)
  .simp only at h;cases hd:o d with
   |arr z a2 i2 B K=>
    rw[hd]at h;simp only at h;split at h
    .rename_i J;cases h;exact .inr (.inr ⟨a',i',au,j,sz,c,d,z,a2,i2,B,K,rfl,hd,J.1,J.2,rfl,rfl,rfl⟩)
    .cases h
   |_=>rw[hd]at h;cases h
 |_=>rw[y]at h;cases h
theorem Xm(h:o g=.arr i a c n l):plainO o g=zw (a,c,n,l):=by simp[plainO,h]
theorem H6(h:plainO o g=zw (i,a,n,l)):(o g).like (.arr zj i a n l):=by
 rcases wY h with⟨y,h⟩|⟨b,h⟩|⟨a0,i0,b,z,sz,c,d,j,B,H,m,J,q,_,_,_,_,_,rfl⟩
 .rw [h];exact⟨rfl,rfl⟩
 .rw [h];exact⟨rfl,rfl⟩
 .rw [q];exact⟨rfl,jG.symm⟩
theorem Kw(h:plainO o g=zw (i,a,n,l)):(o g).dim=zw (n,l.length):=O.Dx (H6 h) rfl
theorem wZ(h:plainO o g=zw (i,a,n,l)):yR o ((o g).names++[g]):=by
 have hg:(plainO o g).isSome=zj:=by rw[h];rfl
 rcases wY h with⟨y,h⟩|⟨j,h⟩|⟨a0,i0,j,z,sz,c,d,m,B,H,q,J,h,hd,_⟩
 .intro x b;rw[h]at b;simp[O.names]at b;subst b;exact⟨hg,by rw[h];simp[O.names]⟩
 .intro x b;rw[h]at b;simp[O.names,dN]at b;subst b;exact⟨hg,by rw[h];simp[O.names,dN]⟩
 .intro x b;rw[h]at b ⊢;simp only[O.names,dN,Kk,qT,Xs,List.not_mem_nil,or_false]at b ⊢;rcases b with rfl|rfl
  .exact ⟨by rw[Xm hd];rfl,by rw[hd];simp[O.names]⟩
  .exact ⟨hg,by rw[h];simp[O.names,dN]⟩
theorem yR.used{gs:List Nat}(h:Rel E st gh val w)(hg:yR st.o gs)(b:g∈gs):st.used g=zj:=by refine h.ul g λe=>?_;have:=(hg g b).1;simp[plainO,e]at this
theorem n_(h:plainO o g=zw (i,a,n,l)):(Fw.bC o g).2=.arr zj i a n l:=by simp[Fw.bC,h]
theorem ig(gs:List Nat)(g:Nat):(st.aJ (gs.map (Fw.bC st.o)) []).o g=if g∈gs then(Fw.bC st.o g).2 else st.o g:=by
 show (match (gs.map (Fw.bC st.o)).lookup g with|some x=>x|none=>st.o g)=_;rw[nJ];split<;>rename_i h
 .split at h
  .rename_i b;rw[QQ b];exact(Wt h).symm
  .cases h
 .split at h;cases h;rename_i b;rw[Qt b]
theorem Rel.freezes(gs:List Nat)(h:Rel E st gh val w)(hg:yR st.o gs):
  Rel E (st.aJ (gs.map (Fw.bC st.o)) []) gh val w/\Lets E st (st.aJ (gs.map (Fw.bC st.o)) []) gh gh w w:=by
 have K:=ig (st:=st) gs;have hss:(st.aJ (gs.map (Fw.bC st.o)) []).s=st.s:=rfl;have hsu :∀g,st.used g=zj->(st.aJ (gs.map (Fw.bC st.o)) []).used g=zj:=λg hg=>by simp[St.aJ,hg]
 generalize st.aJ (gs.map (Fw.bC st.o)) []=st' at K hss hsu ⊢;have hin :∀g∈gs,∃a i m l,plainO st.o g=zw (a,i,m,l)/\st'.o g=.arr zj a i m l:=by intro g q;obtain⟨⟨a,i,m,l⟩,hp⟩:=vq.1 (hg g q).1;exact⟨a,i,m,l,hp,by rw[K,QQ q,n_ hp]⟩
 have z :∀g',(st'.o g').cO=zj->(st.o g').cO=zj/\g'∉gs:=by
  intro g' B;by_cases q:g'∈gs
  .obtain ⟨a,i,m,l,_,e⟩:=hin g' q;rw[e]at B;cases B
  .rw [K,Qt q]at B;exact⟨B,q⟩
 have hl:Lets E st st' gh gh w w:=by
  refine⟨λa' i' b L=>⟨⟨L.1,L.2.1,λg' B=>L.2.2 g' (z g' B).1⟩,rfl⟩,λg' _=>.inr ⟨⟨rfl,rfl⟩,?_⟩⟩;by_cases q:g'∈gs
  .obtain ⟨a,i,m,l,hp,e⟩:=hin g' q;rw[e];exact H6 hp
  .rw [K,Qt q];exact O.gy _
 have Y7 :∀g b a i,g∈gs->(st.o g).inner=zw i->(gh g).has b->E.ok st' gh w a i b:=λg b a i q hi L=>h.aik hi L λg' B=>⟨(z g' B).1,λe=>(z g' B).2 (e▸q)⟩
 have X :∀g fz a i m l,g∈gs->st.o g=.arr fz a i m l->dH w (E.ok st' gh w a i) (.sl m l) (.slice (gh g).ad l.length (gh g).cap):=by
  intro g fz a i m l q N;have hO:=h.bI g;rw[N]at hO;cases fz with
  |true=>exact hl.lU hO
  |false=>exact jq.plain hO hl λad had=>Y7 g _ a i q (by rw[N];rfl) (Gh.kN had)
 have hsub :∀g a i m au l hole n j M y v,g∈gs->st.o g=.aO a i m au l hole->Bc E st gh w a i (gh g) M n j y v->dH w (E.ok st' gh w a i) y v:=by intro g a i m au l hole n j M y v q N H;obtain⟨l',ao,k,rfl,rfl,hA,hs⟩:=H;exact dH.gV (jq.plain hA hl λad had=>Y7 g _ a i q (by rw[N];rfl) (.inr (by rw[hs ad had];rfl)))
 refine⟨h.step hl hss hsu (λg'=>?_) (λg1 g2 b J h2=>h.inj g1 g2 b (z g1 J).1 (z g2 h2).1) (λg1 b J=>h.wr g1 b (z g1 J).1)
  (λg1 i1 b J h2 h3=>by have e:=(z g1 (O.lW J)).2;rw[K,Qt e]at J;exact h.wi g1 i1 b J h2 h3)
  (λg1 J h2=>by have e:=(z g1 J).2;rw[K,Qt e]at J h2;exact h.ns g1 J h2)
  (λ_ _ _=>rfl) (YY _) rfl rfl rfl (λg' x Y=>?_) (λg' B=>?_),hl⟩
 .by_cases q:g'∈gs
  .obtain ⟨a,i,m,l,hp,e⟩:=hin g' q;rw[e];show dH w (E.ok st' gh w a i) (.sl m l) (.slice (gh g').ad l.length (gh g').cap);rcases wY hp with⟨fz,N⟩|⟨au,N⟩|⟨a0,i0,au,l0,n,c,d,fz',a',i',M,l',N,hd,hc,hcs,rfl,rfl,rfl⟩
   .exact X g' fz a i m l q N
   .have hO:=h.bI g';rw[N]at hO;rcases hO with⟨J,h2,h3,_⟩|⟨ad,cs,e,J,h2,h3,h4,h5,h6,h7,h8⟩
    .subst h3;rw[J];exact .nil m zz _
    .rw [J];have T :∀n j,w.cell? ⟨ad.block,ad.off+n*m+j,zz⟩=cs[ad.off+n*m+j]?:=λn j=>by simp[World.cell?,h3]
     refine .sl m l ad (gh g').cap (λn j=>(cs[ad.off+n*m+j]?).getD undef) h2 (λ_=>Y7 g' _ a i q (by rw[N];rfl) (Gh.kN J)) h5.1 h6 (λn x Y j y Z=>?_) (λn x Y j y Z=>?_)
     .obtain ⟨v,hv,_⟩:=h8 n x Y j y Z;rw[T,hv];rfl
     .obtain ⟨v,hv,H⟩:=h8 n x Y j y Z;simp only[hv,Option.getD_some];unfold jr at H;cases hc:au.lookup j with
      |none=>rw[hc]at H;exact hl.lU H
      |some M=>rw[hc]at H;simp only[iT]at H;exact hsub g' a i m au l zz n j M y v q N H
   .have hdm:d∈gs:=(hg g' q).2 d (by rw[N];simp[O.names,dN]);have hO:=h.bI g';rw[N]at hO;rw[jG];rcases hO with⟨J,h2,h3,_⟩|⟨ad,cs,e,J,h2,h3,h4,h5,h6,h7,h8⟩
    .subst h3;rw[J];exact .nil m zz _
    .rw [J];have T :∀n j,w.cell? ⟨ad.block,ad.off+n*m+j,zz⟩=cs[ad.off+n*m+j]?:=λn j=>by simp[World.cell?,h3]
     have m0 :∀b,E.ok st' gh w a0 i0 b->E.ok st' gh w (a0||a') (i0||i') b:=λb L=>Env.qC (by simp;exact λh=>.inl h) (by simp;exact λh=>.inl h) L;have m1 :∀b,E.ok st' gh w a' i' b->E.ok st' gh w (a0||a') (i0||i') b:=λb L=>Env.qC (by simp;exact λh=>.inr h) (by simp;exact λh=>.inr h) L;have key :∀(n':Nat) x,(jM l0 n c (P.gV M l'))[n']?=zw x->∀(j:Nat) y,x[j]?=zw y->∃v,cs[ad.off+n'*m+j]?=zw v/\dH w (E.ok st' gh w (a0||a') (i0||i')) y v:=by
      intro n' x Y j y Z;have hold :∀x0 y0,l0[n']?=zw x0->x0[j]?=zw y0->¬ (n=n'/\c=j)->∃v,cs[ad.off+n'*m+j]?=zw v/\dH w (E.ok st' gh w (a0||a') (i0||i')) y0 v:=by
       intro x0 y0 U hy0 hne;obtain⟨v,hv,H⟩:=h8 n' x0 U j y0 hy0;refine⟨v,hv,?_⟩;unfold jr at H;cases hcj:au.lookup j with
       |none=>rw[hcj]at H;exact(hl.lU H).mono λb L=>⟨m0 b L,rfl⟩
       |some sz2=>rw[hcj]at H;simp only[iT]at H;rw[Qt hne]at H;exact(hsub g' a0 i0 m au l0 _ n' j sz2 y0 v q N H).mono λb L=>⟨m0 b L,rfl⟩
      rcases yT Y with⟨hne,U⟩|⟨rfl,x0,U,rfl⟩
      .exact hold x y U Z λe=>hne e.1.symm
      .have hlen:=h6 x0 (Z1 U);rw[QA (by omega)]at Z;split at Z
       .rename_i hj;subst hj;cases Z;have hlt:j<x0.length:=by omega
        obtain⟨v,hv,H⟩:=h8 n' x0 U j x0[j] (Q2 hlt);refine⟨v,hv,?_⟩;unfold jr at H;rw[hc]at H;simp only[iT]at H;rw[QQ ⟨trivial,trivial⟩]at H;have hv':=(by cases H.2 with|own _ _ _ L=>exact L _ _ (O.kZ hd):v=.slice (gh d).ad l'.length (gh d).cap);rw[hv'];exact(dH.gV (X d fz' a' i' M l' hdm hd)).mono λb L=>⟨m1 b L,rfl⟩
       .rename_i hj;exact hold x0 y U Z λe=>hj e.2.symm
     have:=dH.sl (w:=w) (ok:=E.ok st' gh w (a0||a') (i0||i')) m (jM l0 n c (P.gV M l')) ad (gh g').cap (λn j=>(cs[ad.off+n*m+j]?).getD undef) h2 (λ_=>m0 _ (Y7 g' _ a0 i0 q (by rw[N];rfl) (Gh.kN J)))
      (by rw[jG];exact h5.1) (DR h6 hcs) (λn' x Y j y Z=>by
       obtain⟨v,hv,_⟩:=key n' x Y j y Z;rw[T,hv];rfl) (λn' x Y j y Z=>by
       obtain⟨v,hv,H⟩:=key n' x Y j y Z;simp only[hv,Option.getD_some];exact H)
     rw[jG]at this;exact this
  .rw [K,Qt q];exact hl.Dz (λ_ _ _=>rfl) (h.uo g') (h.bI g')
 .by_cases q:g'∈gs
  .obtain ⟨a,i,m,l,_,e⟩:=hin g' q;rw[e]at Y;simp[O.names]at Y
  .rw [K,Qt q]at Y;exact hsu x (h.uo g' x Y)
 .by_cases q:g'∈gs;exact hsu g' (yR.used h hg q);rw[K,Qt q]at B;exact hsu g' (h.ul g' B)
theorem QB(h:Rel E st gh val w){x:W}(r:f_ E st gh w x v){gs:List Nat}(b:x.toP st.o=zw (y,i,a,gs)):
  yR st.o gs/\∀st',(∀g∈gs,st'.o g=(Fw.bC st.o g).2)->Rel E st' gh val w->Lets E st st' gh gh w w->dH w (E.ok st' gh w i a) y v:=by
 cases r with
 |p J K x v q=>simp only[W.toP,Q0,QP]at b;obtain⟨rfl,rfl,rfl,rfl⟩:=b;exact⟨yR.nil,λst' _ _ B=>B.lU q⟩
 |dD=>simp only[W.toP,Q0,QP]at b;obtain⟨rfl,rfl,rfl,rfl⟩:=b;exact⟨yR.nil,λst' _ _ B=>.nil _ _ _⟩
 |own g v L q=>
  simp only[W.toP]at b;split at b
  rotate_left
  cases b;rename_i J K M l d;cases b;refine⟨wZ d,λst' j H B=>?_⟩;have z:=H.bI g;rw[j g (by simp),n_ d]at z;rw[q _ _ (Kw d)];exact dH.gV z
 |vw g lo Z v L q=>
  simp only[W.toP]at b;split at b
  rotate_left
  cases b;rename_i J K M l d;cases b;refine⟨wZ d,λst' j H B=>?_⟩;have z:=H.bI g;rw[j g (by simp),n_ d]at z;obtain⟨n,m,c,rfl,rfl,N,T,hc,U⟩:=q _ _ (Kw d);rw[U];have X:(P.int .i64 (n:Int)).nat=n:=by simp[P.nat,P.num]
  have Y:(P.int .i64 (m:Int)).nat=m:=by simp[P.nat,P.num]
  rw[X,Y];exact dH.gV ((dH.sub z N T).ak9 (by simp;omega))
 |_=>simp[W.toP]at b
theorem DU(h:Rel E st gh val w):∀{q:List W} {cs:List Value} {ps:List P} {a i:Bool} {gs:List Nat},q.length=cs.length->(∀(j:Nat) x u,q[j]?=zw x->cs[j]?=zw u->f_ E st gh w x u)->
  yI st.o q=zw (ps,a,i,gs)->ps.length=q.length/\yR st.o gs/\∀st',(∀g∈gs,st'.o g=(Fw.bC st.o g).2)->Rel E st' gh val w->
   Lets E st st' gh gh w w->∀(j:Nat) y u,ps[j]?=zw y->cs[j]?=zw u->dH w (E.ok st' gh w a i) y u
 | [],cs,ps,a,i,gs,J,K,m=>by simp only[yI,Q0,QP]at m;obtain⟨rfl,rfl,rfl,rfl⟩:=m;exact⟨rfl,yR.nil,λst' _ _ _ j y u z=>by simp at z⟩
 |x::q,cs,ps,a,i,gs,J,K,m=>by
  cases cs with
  |nil=>simp at J
  |cons c cs=>
   simp only[yI]at m;split at m
   rotate_left
   cases m;rename_i y1 a1 i1 M ys a2 i2 N T U;cases m;obtain⟨X,Y⟩:=QB h (K 0 x c rfl rfl) T;obtain⟨q0,q1,q2⟩:=DU h (by simpa using J) (λj a b Z B=>K (j+1) a b (by simpa using Z) (by simpa using B)) U;refine⟨by simp[q0],X.append q1,λst' H L d j y u z hu=>?_⟩;cases j with
   |zero=>simp at z hu;subst z hu;exact(Y st' (λg hg=>H g (by simp[hg])) L d).mono λb B=>⟨Env.qC (by simp;exact λh=>.inl h) (by simp;exact λh=>.inl h) B,rfl⟩
   |succ j=>exact(q2 st' (λg hg=>H g (by simp[hg])) L d j y u (by simpa using z) (by simpa using hu)).mono λb B=>⟨Env.qC (by simp;exact λh=>.inr h) (by simp;exact λh=>.inr h) B,rfl⟩
theorem eF{α:Type}(b:List α)(n:Nat):(iI b n).length=n*b.length:=by
 induction n with
 |zero=>simp[iI]
 |succ n c=>simp[iI,c,WK];omega
theorem jD{α:Type}(b:List α):∀(n i:Nat),i<n*b.length->(iI b n)[i]?=b[i % b.length]?
 |0,i,h=>by simp at h
 |n+1,i,h=>by
  simp only[iI,Kj];split
  .rename_i c;rw[Kl c]
  .rename_i d;have g:i-b.length<n*b.length:=by rw[WK]at h;omega
   rw[jD b n _ g];congr 1;have:i=(i-b.length)+b.length:=by omega
   rw[this,Nat.add_mod_right];congr 1;omega
theorem oN(h:u.toList=z)(n:Nat)(q:0<z.length):(Array.range (n*z.length)).map (λi=>u[i % u.size]!)=(iI z n).toArray:=by
 apply Array.ext';apply qn;intro i;have c:u.size=z.length:=by rw[<-h];simp
 simp only[Array.toList_map,Array.toList_range,Z0];by_cases j:i<n*z.length
 .rw [qD j];simp only[W7];rw[jD z n i j];have m:i % z.length<z.length:=Nat.mod_lt _ q;rw[Q2 m];congr 1;have d:i % u.size<u.size:=by rw[c];exact m
  rw[getElem!_pos u _ d];have g:z=u.toList:=h.symm;subst g;simp only[Array.getElem_toList,Array.length_toList]
 .rw [Vv (by simp;omega),Vv (by rw[eF];omega)];rfl
theorem je{α:Type}(sz:Nat):∀(n:Nat) (l:List α),(chunks sz n l).length=n
 |0,_=>rfl
 |n+1,l=>by simp[chunks,je sz n]
theorem rW{α:Type}(sz:Nat):∀(n:Nat) (l:List α) (m:Nat),m<n->(chunks sz n l)[m]?=zw ((l.drop (m*sz)).take sz)
 |0,l,m,h=>by omega
 |n+1,l,0,h=>by simp[chunks]
 |n+1,l,m+1,h=>by simp only[chunks,J0];rw[rW sz n _ m (by omega),List.drop_drop];congr 3;rw[WK];omega
theorem DV(h:Rel E st gh val w)(d:Nat)(hd:st.used d=zv)(a i:Bool)(sz:Nat)(l:List (List P))(c:Array Value)(t:TypeId)(cap:Nat)(m:l.length<=cap/\cap<=9223372036854775807)(H:cap*sz<=c.size)(q :∀x∈l,x.length=sz)
  (J :∀(n:Nat) x,l[n]?=zw x->∀(j:Nat) y,x[j]?=zw y->∃v,c[n*sz+j]?=zw v/\dH w (E.ok st gh w a i) y v) :
  ∃bU,Rel E (st.aJ [(d,.arr zv a i sz l)] [d]) bU val { w with heap:=w.heap.push (.cells c t) }/\Lets E st (st.aJ [(d,.arr zv a i sz l)] [d]) gh bU w { w with heap:=w.heap.push (.cells c t) }/\
   bU d=⟨zw ⟨w.heap.size,0,zz⟩,cap,λ_=>zz⟩ /\(st.aJ [(d,.arr zv a i sz l)] [d]).o d=.arr zv a i sz l:=by
 have B:=Rel.make h d hd (.arr zv a i sz l) c t ⟨zw ⟨w.heap.size,0,zz⟩,cap,λ_=>zz⟩ rfl (λ_=>rfl) (λbU w' b hg K=>by subst K;refine .inr ⟨⟨w.heap.size,0,zz⟩,c,t,rfl,rfl,Bf _ _,by simpa using H,m,q,λn x L j y M=>?_⟩;obtain⟨v,N,z⟩:=J n x L j y M;exact⟨v,by simpa using N,b.lU z⟩) (λg hg=>by simp[O.names]at hg)
 exact⟨_,B.1,B.2,by simp[fZ],by simp[St.aJ,List.lookup]⟩
theorem Lets.trans{d h j:St}{y z q:Nat->Gh}{w1 H:World}(J:Lets E d h y z w1 X)(K:Lets E h j z q X H)(hu :∀g,d.used g=zj->h.used g=zj):
  Lets E d j y q w1 H:=by
 refine⟨λa i b N=>?_,λg hg=>?_⟩
 .have m:=J.ok a i b N;have c:=K.ok a i b m.1;exact⟨c.1,c.2.trans m.2⟩
 .rcases K.names g (hu g hg)with c|⟨L,c⟩;exact .inl c;rcases J.names g hg with m|⟨M,m⟩
  .rw [m]at c;cases T:j.o g with
   |none=>exact .inl rfl
   |_=>rw[T]at c;simp[O.like]at c
  .exact .inr ⟨⟨L.1.trans M.1,L.2.trans M.2⟩,O.like.trans m c⟩
theorem lookup_append{o:Nat->O}{gs:List Nat}{x:O}(hd:g∉gs)(hn:List Nat):
  (st.aJ (gs.map (Fw.bC st.o)) []).aJ [(g,x)] [g]=st.aJ (gs.map (Fw.bC st.o)++[(g,x)]) [g]:=by
 unfold St.aJ;congr 1
 .funext d;have key:((gs.map (Fw.bC st.o))++[(g,x)]).lookup d=if d∈gs then zw (Fw.bC st.o d).2 else if d=g then zw x else zz:=by
   clear hd
   induction gs with
   |nil=>
    by_cases e:d=g
    .subst e;simp
    .have:(d==g)=zv:=by simpa using e
     simp[List.lookup,this,e]
   |cons y gs h=>
    simp only[Qf,Kk];by_cases e:d=y
    .subst e;have:(Fw.bC st.o d)=(d,(Fw.bC st.o d).2):=rfl;rw[this,List.lookup];simp
    .have b:(d==y)=zv:=by simpa using e
     have:(Fw.bC st.o y)=(y,(Fw.bC st.o y).2):=rfl;rw[this,List.lookup,b];simp only[h,Xs,e,false_or]
  rw[key];by_cases e:d=g
  .subst e;simp[List.lookup,hd]
  .have b:(d==g)=zv:=by simpa using e
   have j:[(g,x)].lookup d=zz:=by simp[List.lookup,b]
   rw[j];show (match (gs.map (Fw.bC st.o)).lookup d with|some x=>x|none=>st.o d)=_;rw[nJ];by_cases c:d∈gs
   .simp [c]
   .simp [c,e]
theorem FC(B:jv Pg tt)(t:TypeId)(n:Nat)(parts:Array (Nat×Operand)):gJ Pg tt (.buildSlice t n parts):=by
 intro E st gh val w ρ F o d r ho h hF hFn H hp hd;simp only[kernel]at H;split at H
 rotate_left
 cases H;rename_i e _ _ _ ht;split at H
 rotate_left
 cases H;rename_i b Y;split at H
 rotate_left
 cases H;rename_i ws OL;split at H
 rotate_left
 cases H;rename_i ps a i gs hps;split at H
 rotate_left
 cases H;rename_i hcap0;have hcap:n*b.size<=16777216:=by omega
 cases H;have hu:=(B _ _ ht).kind;simp only[qB]at hu;obtain⟨z,hz,hzc,_⟩:=oL (Pg:=Pg) (w:=w) (B _ _ Y);obtain⟨hone,hl,hr⟩:=vF (E:=E) (st:=st) (gh:=gh) (w:=w) (B _ _ Y);have K:=(B _ _ Y).len;have L:(parts.map λ(p:Nat×Operand)=>(p.1,ρ p.2)).toList=parts.toList.map λp=>(p.1,ρ p.2):=by simp
 obtain⟨M,h1,h2,h3,h4,h5⟩:=DN (E:=E) (st:=st) (gh:=gh) (w:=w) (place':=λi=>zw (i*b.size,b.size)) (λm p T=>by split at T;exact T;cases T) _ (parts.toList.map λp=>(p.1,ρ p.2)) _ _
  (iI b.zero n) (by simp) (λj x v J hv=>FB hF _ j x v J hv) (by rw[eF,eF,hl]) (λc hc=>by
   obtain⟨j,hj⟩:=UX.1 hc;have q:j<n*b.zero.length:=by have:=(Q3.1 hj).1;rwa [eF]at this
   rw[jD _ _ _ q]at hj;exact hone c (Z1 hj)) (λj x u J hu=>by
   have q:j<n*b.zero.length:=by have:=(Q3.1 hu).1;rwa [eF]at this
   rw[jD _ _ _ q]at hu;rw[jD _ _ _ (by rw[hl];exact q),hl]at J;exact hr _ _ _ J hu) OL
 obtain⟨q0,q1,q2⟩:=DU h h2 h4 hps;obtain⟨f1,f2⟩:=Rel.freezes gs h q1;have N:=q2 _ (λg hg=>by rw[ig,QQ hg]) f1 f2;have Jt:st.used d=zv:=hd d (by simp);have hdg:d∉gs:=λhm=>by rw[yR.used h q1 hm]at Jt;cases Jt
 have hws:ws.length=n*b.size:=by rw[h5,eF,hl,K]
 have amE:ps.length=n*b.size:=by rw[q0,hws]
 obtain⟨bU,m1,m2,m3,m4⟩:=DV f1 d (by simpa[St.aJ]using Jt) a i b.size (chunks b.size n ps) M.toArray e n ⟨by rw[je];exact YY _,by omega⟩ (by simp;omega) (λx J=>by
   obtain⟨m,hm⟩:=UX.1 J;have q:m<n:=by have:=(Q3.1 hm).1;rwa [je]at this
   rw[rW _ _ _ _ q]at hm;cases hm;simp[amE];have:(m+1)*b.size<=n*b.size:=W0 _ q;rw[WK]at this;omega) (λm x J j y U=>by
   have q:m<n:=by have:=(Q3.1 J).1;rwa [je]at this
   rw[rW _ _ _ _ q]at J;cases J;rw[ZZ]at U;split at U
   .rename_i hj;rw[Wo]at U;have hlt2:m*b.size+j<M.length:=by have:=(Q3.1 U).1;omega
    exact⟨M[m*b.size+j],by simp,N _ _ _ U (Q2 hlt2)⟩
   .cases U)
 rw[lookup_append (o:=st.o) hdg []]at m1 m2 m4;refine⟨.slice (zw ⟨w.heap.size,0,zz⟩) n n,_,bU,.inl ?_,m1,Lets.trans f2 m2 (λg hg=>by simpa[St.aJ]using hg),dU.Jr (.own d _ rfl λsz' len' ho'=>?_),λg hg=>?_⟩
 .unfold execOp;rw[ho];refine iE ?_;have hle:¬ n*b.size>2 ^ 24:=by omega
  have fin :∀Z:Array Value,(Array.range (n*b.size)).map (λi=>Z[i % Z.size]!)=(iI b.zero n).toArray->
    Instr.fill (λi=>zw (i*b.size,b.size)) ((Array.range (n*b.size)).map λi=>Z[i % Z.size]!) (parts.map λ(p:Nat×Operand)=>(p.1,ρ p.2)).toList=zw M.toArray:=by
   intro Z hZ;rw[hZ,L,h1]
  by_cases X:n*b.size=0
  .have e0:iI b.zero n=[]:=Uv (by rw[eF,K,X]);have e1:=fin #[] (by rw[X,e0];simp);simp only[Instr.buildSlice,Sem.run_bind,fB hu,Result.andThen_ok,eU (B _ _ Y),Qt hle,QQ X,Sem.run_pure];simp only[e1];simp[newRow]
  .have hpos:0<b.zero.length:=by rw[K];rcases qd b.size with h|h;(rw[h]at X;simp at X);exact h
   have e1:=fin z.cells (by have:=oN hzc n hpos;rw[K]at this;exact this);simp only[Instr.buildSlice,Sem.run_bind,fB hu,Result.andThen_ok,eU (B _ _ Y),Qt hle,Qt X,hz,Sem.run_pure];simp only[e1];simp[newRow]
 .have Xn:(O.arr zv a i b.size (chunks b.size n ps)).dim=zw (sz',len'):=(W2 O.dim m4.symm).trans ho';obtain⟨_,rfl⟩:=O.kW Xn;rw[m3,je]
 .have hg:g∈(S.v (.one (.own d))).names:=hg;rw[dZ]at hg;simp only[W.names,X1]at hg;subst hg;simp[St.aJ]
end
end Go.Fw

namespace Go.Fw
variable [fO]
section
variable {E:Env} {st st':St} {gh bU:Nat->Gh} {w w':World} {val:Nat->Value} {Pg:Program} {tt:TT}
theorem Jf(K:jv Pg tt)(t:TypeId)(n c:Operand):gJ Pg tt (.makeSlice t n c):=by
 intro E st gh val w ρ F o d r ho h hF hFn J hp hd;simp only[kernel]at J;split at J
 rotate_left
 cases J;rename_i e _ _ _ _ _ n' _ _ c' ht hn hc;split at J
 rotate_left
 cases J;rename_i B he;split at J
 rotate_left
 cases J;rename_i ps hps;split at J
 rotate_left
 cases J;rename_i N;cases J;obtain⟨m,k,rfl,rfl,hmk,hby,hkm⟩:=hp;have hu:=(K _ _ ht).kind;simp only[qB]at hu;have rn:=hF n;rw[hn]at rn;have rc:=hF c;rw[hc]at rc;obtain⟨x,z,g1,g2,g3,g4,g5,g6⟩:=(K _ _ he).info;obtain⟨hone,hl,hr⟩:=vF (E:=E) (st:=st) (gh:=gh) (w:=w) (K _ _ he);have H:=(K _ _ he).len;obtain⟨q0,q1,q2⟩:=DU h hl hr hps;have L:=q2 st (by simp) h ⟨λa i b hb=>⟨hb,rfl⟩,λg _=>.inr ⟨⟨rfl,rfl⟩,O.gy _⟩⟩;have Jt:st.used d=zv:=hd d (by simp);have hpl:ps.length=B.size:=by rw[q0,hl,H]
 have e1:(P.int .i64 (m:Int)).nat=m:=by simp[P.nat,P.num]
 obtain⟨bU,m1,m2,m3,m4⟩:=DV h d Jt zv zv B.size (List.replicate m ps) (iI B.zero k).toArray e k ⟨by simpa using hmk,by omega⟩ (by simp[eF,H]) (λx M=>by
   rw[List.mem_replicate]at M;rw[M.2,hpl]) (λq x M j y hy=>by
   rw[vB]at M;split at M
   .rename_i hq;cases M;have hj:j<B.size:=by have:=(Q3.1 hy).1;omega
    have hlt:q*B.size+j<k*B.zero.length:=by rw[H];have:(q+1)*B.size<=k*B.size:=W0 _ (by omega);rw[WK]at this;omega
    have T:B.zero[j]?=zw B.zero[j]:=Q2 (by omega);refine⟨B.zero[j],?_,L j y _ hy T⟩;simp only[Kg];have U:(q*B.size+j) % B.zero.length=j:=by rw[H,qf,zg,Kl hj]
    rw[jD _ _ _ hlt,U];exact T
   .cases M)
 refine⟨.slice (zw ⟨w.heap.size,0,zz⟩) m k,_,bU,.inl ?_,by simpa[e1,P.list]using m1,by simpa[e1,P.list]using m2,dU.Jr (.own d _ rfl λsz' X Y=>?_),λg hg=>?_⟩
 .unfold execOp;rw[ho];refine iE ?_;have Z:=run_make (P:=Pg) w t e x z hu g1 g4 .i64 .i64 (m:Int) (k:Int) (by omega) (by omega) (by rw[g3];omega) (by omega);rw[rn.gB.fJ,rc.gB.fJ,Z];have:=oN g5 k (by rw[H];exact N);rw[H]at this;simp only[Q4,g2,madeCells,this]
 .rw [e1]at Y;have Xn:(O.arr zv zv zv B.size (List.replicate m ps)).dim=zw (sz',X):=(W2 O.dim m4.symm).trans Y;obtain⟨_,rfl⟩:=O.kW Xn;rw[m3,Kh]
 .have hg:g∈(S.v (.one (.own d))).names:=hg;rw[dZ]at hg;simp only[W.names,X1]at hg;subst hg;simp[St.aJ]
theorem nS(b o:Nat)(e:TypeId):∀(vs:List Value) (i:Nat) (w:World) (c:Array Value),w.heap[b]?=zw (.cells c e (0,0))->(∀v∈vs,v.oneCell'=zj)->o+i+vs.length<=c.size->
  ∃w' z,(storeCells ⟨b,o,zz⟩ vs i).run Pg w=.ok () w'/\w'.heap[b]?=zw (.cells z e (0,0))/\z.toList=bf c.toList (o+i) vs/\(∀j,j≠b->w'.heap[j]?=w.heap[j]?)/\w'.heap.size=w.heap.size/\
   w'.os=w.os/\w'.tape=w.tape/\w'.output=w.output
 | [],i,w,c,m,_,_=>⟨w,c,rfl,m,by simp[bf],λ_ _=>rfl,rfl,rfl,rfl,rfl⟩
 |v::vs,i,w,c,m,g,d=>by
  have B:o+i<c.size:=by simp at d;omega
  have h:w.cell? ⟨b,o+i,zz⟩=zw c[o+i]:=by simp[World.cell?,m,B]
  have H:w.frozen? ⟨b,o+i,zz⟩=zv:=by simp[World.frozen?,m]
  have q:(store ((⟨b,o,zz⟩:Addr).add i) v).run Pg w=.ok () (w.setCell ⟨b,o+i,zz⟩ v):=by rw[Addr.ji,run_store Pg w _ v .plain (g v (by simp)),h];simp[H]
  have J:(w.setCell ⟨b,o+i,zz⟩ v).heap[b]?=zw (.cells (c.setIfInBounds (o+i) v) e (0,0)):=by simp[World.setCell,vh,m]
  obtain⟨w',z,L,M,N,T,U,X,Y,Z⟩:=nS b o e vs (i+1) (w.setCell ⟨b,o+i,zz⟩ v) _ J (λv hv=>g v (by simp[hv])) (by simp at d ⊢;omega);refine⟨w',z,?_,M,?_,λj y=>(T j y).trans ?_,by rw[U];simp[World.setCell],X,Y,Z⟩
  .unfold storeCells;rw[Sem.run_bind];rw[q];exact L
  .rw [N];have:=foldl_set o (v::vs) i c (by simp at d ⊢;omega);have K:=foldl_set o vs (i+1) (c.setIfInBounds (o+i) v) (by simp at d ⊢;omega);rw[<-this];simp only[List.zipIdx_cons,vn];rw[K]
  .simp only[World.setCell,vh];rw[Qt (λe=>y e.symm)]
theorem uH{i:TI}(h:qQ Pg t i)(b o:Nat)(q:v.cells=z.toArray)(y:z.length=i.size)(d :∀u∈z,u.oneCell'=zj)
  (cs:w.heap[b]?=zw (.cells u e (0,0))) (B:o+i.size<=u.size) :
  ∃w' g,(storeVar t ⟨b,o,zz⟩ v).run Pg w=.ok () w'/\w'.heap[b]?=zw (.cells g e (0,0))/\g.toList=bf u.toList o z/\(∀j,j≠b->w'.heap[j]?=w.heap[j]?)/\w'.heap.size=w.heap.size/\
   w'.os=w.os/\w'.tape=w.tape/\w'.output=w.output:=by
 obtain⟨w',g,H,J,K,L⟩:=nS (Pg:=Pg) b o e z 0 w u cs d (by omega);refine⟨w',g,?_,J,K,L⟩;have m:¬ v.cells.size≠i.size:=by rw[q];simp[y]
 unfold storeVar;simp only[Sem.run_bind,eU h,Result.andThen_ok,Qt m];rw[q];exact H
theorem Ba.block{b:List W}{G:Gh}(h:Ba E st gh w b G){ad:Addr}(d:G.ad=zw ad):ad.spot=zz/\∃c e,w.heap[ad.block]?=zw (.cells c e (0,0))/\ad.off+b.length<=c.size/\
  ∀(j:Nat) x,b[j]?=zw x->∃v,c[ad.off+j]?=zw v/\v.oneCell'=zj/\f_ E st gh w x v:=by
 obtain⟨m,c,e,g,q,y,z,B⟩:=h;rw[d]at g;cases g;exact⟨q,c,e,y,z,B⟩
theorem Xo{F:Operand->S}(b :∀x,∀g∈(F x).names,st.used g=zj){y:Operand}{c:V}(h:F y=.v c):∀x∈c.words,∀g∈x.names,st.used g=zj:=by
 intro x d g hg;have:=b y g;rw[h]at this;refine this ?_;cases c with
 |one z=>simp[V.words]at d;subst d;simpa[S.names,V.names]using hg
 |agg xs=>simp only[S.names,V.names,Z2];exact⟨x,d,hg⟩
theorem QC{α:Type}{l new:List α}{off:Nat}{x:α}(h:x∈bf l off new):x∈l\/x∈new:=by
 unfold bf at h;simp only[Ys]at h;rcases h with(h|h)|h
 .exact .inl (Wl h)
 .exact .inr h
 .exact .inl (UB h)
theorem Ky{o:Nat->O}{gs:List Nat}{x:O}(hd:g∉gs):
  (st.aJ (gs.map (Fw.bC st.o)) []).aJ [(g,x)] []=st.aJ (gs.map (Fw.bC st.o)++[(g,x)]) []:=by
 have:=lookup_append (st:=st) (o:=o) (x:=x) hd [];have b:=W2 St.o this;unfold St.aJ at b ⊢;simp only at b ⊢;rw[b];simp
theorem Um(htt:jv Pg tt)(t:TypeId)(x y:Operand):gJ Pg tt (.store t x y):=by
 intro E st gh val w ρ F o d r ho h hF hFn M hp hd;simp only[kernel]at M;split at M
 .rename_i i g off y' ht hx hy;have rx:=hF x;rw[hx]at rx;have ry:=hF y;rw[hy]at ry;split at M
  rotate_left
  cases M;rename_i ws K;split at M
  rotate_left
  cases M;rename_i hc;cases M;have hO:Ba E st gh w ws (gh g):=by have:=h.bI g;rw[K]at this;exact this
  obtain⟨ad,N,hv⟩:=(by cases rx.dW with|box _ _ _ _ U=>exact U ws K :∃ad,(gh g).ad=zw ad/\ρ x=.pointer (zw ⟨ad.block,ad.off+off,zz⟩));obtain⟨hs,c,e,U,hlt,H⟩:=hO.block N;obtain⟨us,hus,Kv,huo,hur⟩:=ry.Qz.cells hc.2.2;have aeg:us.length=i.size:=by rw[Kv,hc.2.1]
  obtain⟨w',c',h1,h2,h3,h4,h5,h6,h7,h8⟩:=uH (Pg:=Pg) (htt _ _ ht) ad.block (ad.off+off) hus aeg huo U (by omega);have hyu:=Xo hFn hy;have DW:c'.size=c.size:=by have:=W2 List.length h3;rw[fM (by simp;omega)]at this;simpa using this
  have X:=Rel.write h g ad (by rw[K];rfl) N (.box (bf ws off y'.words)) (by rw[K];trivial) w' h4 h5 h6 h7 h8 rfl (λi e=>by cases e) (λ_=>by rw[K];rfl) (λB=>by
   refine⟨ad,c',e,N,hs,h2,by rw[fM (by omega),DW];exact hlt,λj z hz=>?_⟩;rw[fV (by omega)]at hz;have q:c'[ad.off+j]?=(bf c.toList (ad.off+off) us)[ad.off+j]?:=by rw[<-h3];simp
   rw[fV (by simp;omega)]at q;split at hz
   .rename_i hin;rw[QQ (by omega)]at q;have Y:j-off<us.length:=by omega
    have e1:ad.off+j-(ad.off+off)=j-off:=by omega
    rw[e1,Q2 Y]at q;exact⟨_,q,huo _ (X2 Y),B.BM (hyu z (Z1 hz)) (hur _ _ _ hz (Q2 Y))⟩
   .rename_i hin;rw[Qt (by omega)]at q;obtain⟨v,hv,hvo,Z⟩:=H j z hz;refine⟨v,by rw[q];simpa using hv,hvo,B.BM (λg' L=>h.uo g g' ?_) Z⟩;rw[K];simp only[O.names,Z2];exact⟨z,Z1 hz,L⟩) (λg' L=>by
   simp only[O.names,Z2]at L;obtain⟨z,hz,L⟩:=L;rcases QC hz with hz|hz
   .exact h.uo g g' (by rw[K];simp only[O.names,Z2];exact⟨z,hz,L⟩)
   .exact hyu z hz g' L)
  refine⟨undef,w',gh,.inr ⟨?_,rfl⟩,X.1,X.2,.no _,λg hg=>by simp[S.names]at hg⟩;unfold execOp;rw[ho];refine aec ?_;rw[hv];simpa[Instr.storeAt,Instr.sureAddr]using h1
 .rename_i i g n off y' ht hx hy;have rx:=hF x;rw[hx]at rx;have ry:=hF y;rw[hy]at ry;split at M
  rotate_left
  cases M;rename_i a i' J l ps a' i'' gs K hps;split at M
  rotate_left
  cases M;rename_i hc;obtain⟨hc1,hc2,hc3,hc4,hc5⟩:=hc;cases M;have hg:g∉gs:=λX=>by simp[X]at hc5
  obtain⟨us,hus,Kv,huo,hur⟩:=ry.Qz.cells hc4;have aeg:us.length=i.size:=by rw[Kv,hc3]
  obtain⟨q0,q1,q2⟩:=DU h Kv.symm hur hps;obtain⟨f1,f2⟩:=Rel.freezes gs h q1;have hreads:=q2 _ (λg hg=>by rw[ig,QQ hg]) f1 f2;have aeh:(st.aJ (gs.map (Fw.bC st.o)) []).o g=.arr zv a i' J l:=by rw[ig,Qt hg];exact K
  obtain⟨ad,k,N,hn,M,hv⟩:=(by cases rx.dW with|ep _ _ _ _ _ U=>exact U _ _ (O.kZ K) :∃(ad:Addr) (k:Nat),(gh g).ad=zw ad/\n=.int .i64 k/\k<l.length/\ρ x=.pointer (zw ⟨ad.block,ad.off+k*J+off,zz⟩));have hO:jq E (st.aJ (gs.map (Fw.bC st.o)) []) gh w a i' J l (gh g):=by have:=f1.bI g;rw[aeh]at this;exact this
  rcases hO with⟨z1,z2,z3⟩|⟨ad',c,e,z1,hs,U,hlt,hcap,hrow,H⟩
  .subst z3;simp at M
  rw[N]at z1;cases z1;have en:n.nat=k:=by rw[hn];simp[P.nat,P.num]
  have hlk:l[k]?=zw l[k]:=Q2 M;have ak_:l.getD n.nat []=l[k]:=by rw[en,Q1,hlk];rfl
  have hrl:l[k].length=J:=hrow _ (X2 M);have hle:(k+1)*J<=(gh g).cap*J:=W0 _ (by have:=hcap.1;omega);rw[WK,KK]at hle;obtain⟨w',c',h1,h2,h3,h4,h5,h6,h7,h8⟩:=uH (Pg:=Pg) (htt _ _ ht) ad.block (ad.off+k*J+off) hus aeg huo U (by omega);have DW:c'.size=c.size:=by have:=W2 List.length h3;rw[fM (by simp;omega)]at this;simpa using this
  have X:=Rel.write f1 g ad (by rw[aeh];rfl) N (.arr zv (a||a') (i'||i'') J (l.set k (bf l[k] off ps))) (by rw[aeh];exact⟨rfl,by simp⟩) w' h4 h5 h6 h7 h8 rfl (λi1 e1=>by cases e1;exact⟨i',by rw[aeh];rfl,λhi=>by simp[hi]⟩) (λ_=>by rw[aeh];rfl) (λB=>by
   refine .inr ⟨ad,c',e,N,hs,h2,by rw[DW];exact hlt,by simpa using hcap,λz hz=>?_,λm z hz j yy T=>?_⟩
   .obtain ⟨m,X⟩:=UX.1 hz;rw[KS]at X;split at X
    .cases X;rw[fM (by rw[hrl];omega),hrl]
    .exact hrow z (Z1 X)
   .have q:c'[ad.off+m*J+j]?=(bf c.toList (ad.off+k*J+off) us)[ad.off+m*J+j]?:=by rw[<-h3];simp
    rw[fV (by simp;omega)]at q;rw[KS]at hz;split at hz
    .rename_i hkm;subst hkm;cases hz;rw[fV (by rw[hrl];omega)]at T;split at T
     .rename_i hin;have Y:j-off<us.length:=by omega
      rw[QQ (by omega)]at q;have e1:ad.off+k*J+j-(ad.off+k*J+off)=j-off:=by omega
      rw[e1,Q2 Y]at q;refine⟨_,q,(B.lU (hreads _ _ _ T (Q2 Y))).mono λb U=>⟨Env.qC (by simp;exact λh=>.inr h) (by simp;exact λh=>.inr h) U,rfl⟩⟩
     .rename_i hin;have hjs:j<J:=by have:=(Q3.1 T).1;omega
      rw[Qt (by omega)]at q;obtain⟨v,hv,Z⟩:=H k _ hlk j yy T;refine⟨v,by rw[q];simpa using hv,(B.lU Z).mono λb U=>⟨Env.qC (by simp;exact λh=>.inl h) (by simp;exact λh=>.inl h) U,rfl⟩⟩
    .rename_i hkm;have hjs:j<J:=by have:=(Q3.1 T).1;have:=hrow z (Z1 hz);omega
     have hout:¬ (ad.off+k*J+off<=ad.off+m*J+j/\ad.off+m*J+j<ad.off+k*J+off+us.length):=by
      rcases Nat.lt_or_gt_of_ne hkm with hlt'|hgt
      .have:(k+1)*J<=m*J:=W0 _ hlt';rw[WK,KK]at this;omega
      .have:(m+1)*J<=k*J:=W0 _ hgt;rw[WK,KK]at this;omega
     rw[Qt hout]at q;obtain⟨v,hv,Z⟩:=H m z hz j yy T;refine⟨v,by rw[q];simpa using hv,(B.lU Z).mono λb U=>⟨Env.qC (by simp;exact λh=>.inl h) (by simp;exact λh=>.inl h) U,rfl⟩⟩) (λg' L=>by simp[O.names]at L)
  rw[Ky (o:=st.o) hg]at X;refine⟨undef,w',gh,.inr ⟨?_,rfl⟩,by rw[ak_,en];exact X.1,by rw[ak_,en];exact Lets.trans f2 X.2 (λg hg=>by simpa[St.aJ]using hg),.no _,λg hg=>by simp[S.names]at hg⟩;unfold execOp;rw[ho];refine aec ?_;rw[hv];simpa[Instr.storeAt,Instr.sureAddr]using h1
 .cases M
end
end Go.Fw

namespace Go.Fw
variable [fO]
section
variable {E:Env} {st st':St} {gh bU:Nat->Gh} {w w':World} {val:Nat->Value} {Pg:Program} {tt:TT}
def qR(w:World)(ok:Nat->Prop)(sz:Nat)(l:List (List P))(v:Value):Prop:=∃c cap,v=.slice c l.length cap/\(l≠[]->∃b o,c=zw ⟨b,o,zz⟩ /\∀(n:Nat) x,l[n]?=zw x->x.length=sz/\∀(j:Nat) y,x[j]?=zw y->∃u,w.cell? ⟨b,o+n*sz+j,zz⟩=zw u/\dH w ok y u)
variable{l:List (List P)}
theorem dH.amG{ok:Nat->Prop}(h:dH w ok (.sl g l) v):qR w ok g l v:=by obtain⟨z,cap,B,M,H⟩:=h.BP;refine⟨z,cap,B,λd=>?_⟩;obtain⟨ad,rfl,m,J,c,f,K,L⟩:=H d;obtain⟨b,o,sp⟩:=ad;simp only at m;subst m;exact⟨b,o,rfl,λn x sz=>⟨c x (Z1 sz),λj y q=>⟨_,K n x sz j y q,L n x sz j y q⟩⟩⟩
theorem Un{G:Gh}(h:nG E st gh w (.arr i a c g l) G)(d:l≠[]):∃b o,G.ad=zw ⟨b,o,zz⟩:=by
 cases i with
 |false=>rcases h with⟨fz,z,j⟩|⟨ad,sz,e,q1,q2,_⟩;exact absurd j d;exact⟨ad.block,ad.off,by rw[q1,<-q2]⟩
 |true=>have h:dH w (E.ok st gh w a c) (.sl g l) (.slice G.ad l.length G.cap):=h;obtain⟨B,cap,m,H,q⟩:=h.BP;cases m;obtain⟨ad,fz,y,_⟩:=q d;exact⟨ad.block,ad.off,by rw[fz,<-y]⟩
variable{sz:Nat}
theorem Kz{G:Gh}(h:nG E st gh w (.arr i a c sz l) G)(m:Nat)(y:m<=l.length):qR w (E.ok st gh w a c) sz (l.take m) (.slice G.ad m G.cap):=by
 refine⟨_,_,by rw[VV,vo y],λj=>?_⟩;have fz:l≠[]:=λe=>j (by rw[e];simp);obtain⟨b,o,d⟩:=Un h fz;refine⟨b,o,d,λn x g=>?_⟩;have q:l[n]?=zw x:=by rw[ZZ]at g;split at g;exact g;cases g
 exact Fv h q d
theorem DX(h:Rel E st gh val w){x:W}(r:f_ E st gh w x v){ask:Prop}(c:x.rows st.o g=zw (ask,l,i,a))(X:ask):qR w (E.ok st gh w i a) g l v:=by
 cases r with
 |p Y Z x v B=>
  simp only[W.rows,Q0,QP]at c;obtain⟨rfl,rfl,rfl,rfl⟩:=c;cases x with
  |sl d L=>
   by_cases e:L=[]
   .subst e;obtain⟨ao,cap,U,hc,_⟩:=B.BP;exact⟨ao,cap,U,λz=>absurd rfl z⟩
   .have:d=g:=by rcases X with h|h;exact h;exact absurd h e
    subst this;exact B.amG
  |_=>exact X.elim
 |dD=>simp only[W.rows,Q0,QP]at c;obtain⟨rfl,rfl,rfl,rfl⟩:=c;exact⟨zz,0,rfl,λz=>absurd rfl z⟩
 |own sz v hv B=>
  simp only[W.rows]at c;split at c
  rotate_left
  cases c;rename_i fz Y Z d L M;split at c
  rotate_left
  cases c;rename_i J;subst J;simp only[Q0,QP]at c;obtain⟨rfl,rfl,rfl,rfl⟩:=c;have K:=h.bI sz;rw[M]at K;have:=Kz K L.length (YY _);rw[K7]at this;rw[B _ _ (O.kZ M)];exact this
 |vw sz lo hi v hv B=>
  simp only[W.rows]at c;split at c
  rotate_left
  cases c;rename_i fz Y Z d L M;split at c
  rotate_left
  cases c;rename_i J;subst J;cases c;obtain⟨n,m,vc,rfl,rfl,h1,h2,NZ,U⟩:=B _ _ (O.kZ M);have K:=h.bI sz;rw[M]at K;have e1:(P.int .i64 (n:Int)).nat=n:=by simp[P.nat,P.num]
  have e2:(P.int .i64 (m:Int)).nat=m:=by simp[P.nat,P.num]
  rw[e1,e2,U];have H:((L.take m).drop n).length=m-n:=by simp;omega
  refine⟨_,_,by rw[H],λz=>?_⟩;have N:L≠[]:=λe=>z (by rw[e];simp);have hcap:=Qx K;have hmn:0<m-n:=by rw[<-H];exact vm.2 z
  obtain⟨b,o,T⟩:=Un K N;refine⟨b,o+n*d,by rw[Qt (by omega),T,W7,Addr.ji],λq x B=>?_⟩;rw[Wo,ZZ]at B;split at B
  rotate_left
  cases B;obtain⟨k1,k2⟩:=Fv K B T;refine⟨k1,λj y hy=>?_⟩;obtain⟨u,hu,Uo⟩:=k2 j y hy;refine⟨u,?_,Uo⟩;rw[<-hu];have:o+n*d+q*d+j=o+(n+q)*d+j:=by rw[WK];omega
  rw[this]
 |_=>simp[W.rows]at c
theorem qR.cells{ok:Nat->Prop}(h:qR w ok sz l v):∃cs:List Value,(Builtin.firstCells sz l.length v).run Pg w=.ok cs.toArray w/\cs.length=l.length*sz/\
  (∀c∈cs,c.oneCell'=zj)/\(∀x∈l,x.length=sz)/\∀(n:Nat) x,l[n]?=zw x->∀(j:Nat) y,x[j]?=zw y->∃u,cs[n*sz+j]?=zw u/\dH w ok y u:=by
 obtain⟨U,cap,rfl,X⟩:=h;by_cases g:l=[]
 .subst g;refine⟨[],?_,by simp,by simp,by simp,by simp⟩;cases U with
  |none=>simp[Builtin.firstCells]
  |some a=>simp[Builtin.firstCells,loadCells,loadCellsFrom]
 .obtain ⟨b,o,rfl,d⟩:=X g;have key :∀k,k<l.length*sz->∃u,w.cell? ⟨b,o+k,zz⟩=zw u/\u.oneCell'=zj:=by
   intro k B;have m:0<sz:=by rcases qd sz with e|e;(subst e;simp at B);exact e
   have Y:k/sz<l.length:=(Nat.div_lt_iff_lt_mul m).2 B;obtain⟨M,J⟩:=d (k/sz) _ (Q2 Y);have Z:k % sz<(l[k/sz]).length:=by rw[M];exact Nat.mod_lt _ m
   obtain⟨u,hu,K⟩:=J (k % sz) _ (Q2 Z);refine⟨u,?_,K.oneCell⟩;rw[<-hu];have:o+k/sz*sz+k % sz=o+k:=by have:=Nat.div_add_mod k sz;rw[qf]at this;omega
   rw[this]
  have q :∀j,j<l.length*sz->w.cell? ⟨b,o+j,zz⟩=((List.range (l.length*sz)).map λk=>(w.cell? ⟨b,o+k,zz⟩).getD undef)[j]?:=by intro j z;obtain⟨u,hu,_⟩:=key j z;simp[Z0,qD z,hu]
  refine⟨(List.range (l.length*sz)).map λk=>(w.cell? ⟨b,o+k,zz⟩).getD undef,?_,by simp,λc N=>?_,λx H=>?_,λn x H j y T=>?_⟩
  .have:=nV (Pg:=Pg) (w:=w) ⟨b,o,zz⟩ ((List.range (l.length*sz)).map λk=>(w.cell? ⟨b,o+k,zz⟩).getD undef) (l.length*sz) 0 #[] (λj z=>by rw[Addr.ji,Vi];exact q j z) (by simp)
   simp only[Builtin.firstCells,loadCells];rw[this];congr 1;rw[WN (by simp)];simp
  .simp only[XN,Uq]at N;obtain⟨k,B,rfl⟩:=N;obtain⟨u,hu,ho⟩:=key k B;rw[hu];exact ho
  .obtain ⟨n,hn⟩:=UX.1 H;exact(d n x hn).1
  .obtain ⟨M,J⟩:=d n x H;obtain⟨u,hu,K⟩:=J j y T;have L:n*sz+j<l.length*sz:=by
    have hn:n<l.length:=(Q3.1 H).1;have z:j<sz:=by have:=(Q3.1 T).1;omega
    have:(n+1)*sz<=l.length*sz:=W0 _ hn;rw[WK,KK]at this;omega
   exact⟨u,by rw[<-q _ L,<-J1];exact hu,K⟩
theorem foldl_push(ns:List Int):∀(s:ByteArray),ns.foldl (λr n=>r.push (UInt8.ofNat n.toNat)) s=⟨(s.data.toList++ns.map λn=>UInt8.ofNat n.toNat).toArray⟩:=by
 induction ns with
 |nil=>intro s;simp
 |cons n ns b=>intro s;rw[vn,b];congr 1;simp[ByteArray.push]
theorem qR.bytes{ok:Nat->Prop}(h:qR w ok 1 l v)(j:isBytes l):
  ∃c len cap,v=.slice c len cap/\(Conv.bytesToString (.slice c len cap)).run Pg w=.ok (.string ⟨(l.map λr=>UInt8.ofNat ((r.getD 0 default).num.toNat)).toArray⟩) w:=by
 obtain⟨m,q,K,L,M,y⟩:=h.cells (Pg:=Pg);obtain⟨c,cap,rfl,z⟩:=h;refine⟨c,_,cap,rfl,?_⟩;cases c with
 |none=>
  have:l=[]:=by rcases l with _|⟨x,l⟩;rfl;obtain⟨b,o,B,_⟩:=z (by simp);cases B
  subst this;rfl
 |some a=>
  have d:m=(l.map λr=>(r.getD 0 default).num).map (Value.int .u8):=by
   apply qn;intro n;rw[UP,Z0];cases g:l[n]? with
   |none=>have:l.length<=n:=List.getElem?_eq_none_iff.1 g;rw[KM,List.getElem?_eq_none_iff];omega
   |some x=>
    obtain⟨k,rfl⟩:=j x (Z1 g);obtain⟨u,hu,H⟩:=y n _ g 0 (.int .u8 k) rfl;have e:n*1+0=n:=by omega
    rw[e]at hu;rw[hu,H.fJ];rfl
  have J:(loadCells a l.length).run Pg w=.ok ((l.map λr=>(r.getD 0 default).num).map (Value.int .u8)).toArray w:=by rw[<-d];simpa[Builtin.firstCells]using q
  rw[run_bytesToString w a l.length cap _ J,foldl_push];simp
theorem Ur{ok1 ok2 ok:Nat->Prop}{l1 l2:List (List P)}{c1 c2:List Value}(d:c1.length=l1.length*sz)
  (B :∀(n:Nat) x,l1[n]?=zw x->∀(j:Nat) y,x[j]?=zw y->∃u,c1[n*sz+j]?=zw u/\dH w ok1 y u) (H :∀(n:Nat) x,l2[n]?=zw x->∀(j:Nat) y,x[j]?=zw y->∃u,c2[n*sz+j]?=zw u/\dH w ok2 y u)
  (k1 :∀b,ok1 b->ok b) (J :∀b,ok2 b->ok b) (q :∀x∈l1,x.length=sz) :
  ∀(n:Nat) x,(l1++l2)[n]?=zw x->∀(j:Nat) y,x[j]?=zw y->∃u,(c1++c2)[n*sz+j]?=zw u/\dH w ok y u:=by
 intro n x c j y z;rw[Kj]at c;split at c
 .rename_i hn;obtain⟨u,hu,g⟩:=B n x c j y z;have h:=(Q3.1 hu).1;exact⟨u,by rw[Wf h];exact hu,g.mono λb m=>⟨k1 b m,rfl⟩⟩
 .rename_i hn;obtain⟨u,hu,g⟩:=H _ x c j y z;refine⟨u,?_,g.mono λb m=>⟨J b m,rfl⟩⟩;have e:n*sz+j=c1.length+((n-l1.length)*sz+j):=by
   rw[d];have:n*sz=l1.length*sz+(n-l1.length)*sz:=by rw[<-WK];congr 1;omega
   omega
  rw[e,Wc (by omega),qS];exact hu
variable{ty:TypeId}
theorem lG{ts:Array TypeId}{g d j:TypeId}{n:TI}(m:ts[0]?=zw e)(q:ts[1]?=zw g)(hs:Pg.underlying e=zw (.slice d))(y:Pg.underlying g=zw (.slice j))(z:qQ Pg d n)
  {base:Option Addr} {sLen sCap:Nat} {h:Option Addr} {cap:Nat} {c2:Array Value} (B:(Builtin.firstCells n.size b (.slice h b cap)).run Pg w=.ok c2 w) (H:sLen+b<=sCap)
  (c :∀a,base=zw a->(storeCells (a.add (sLen*n.size)) c2.toList).run Pg w=.ok () w') (hn:base=zz->w'=w) :
  (Builtin.append_ ts ty #[.slice base sLen sCap,.slice h b cap]).run Pg w=.ok (.slice base (sLen+b) sCap) w':=by
 unfold Builtin.append_;simp only[m,q,Sem.run_bind,fB hs,fB y,eU z,Result.andThen_ok,Builtin.lenOf,Kg,K4,J0,Sem.run_pure,Wb,if_false,QQ H,vz,if_true,B];cases base with
 |none=>rw[hn rfl];simp
 |some a=>simp[c a rfl]
theorem rX{ts:Array TypeId}{K J U:TypeId}{c:TI}(X:ts[0]?=zw e)(Y:ts[1]?=zw K)(hs:Pg.underlying e=zw (.slice J))(Z:Pg.underlying K=zw (.slice U))(m:qQ Pg J c)
  {base:Option Addr} {sLen sCap:Nat}  {cap:Nat} {c1 c2:Array Value} (q:(Builtin.firstCells c.size b (.slice L b cap)).run Pg { w with drawn:=w.drawn+1 }=.ok c2 { w with drawn:=w.drawn+1 })
  (y:(Builtin.firstCells c.size sLen (.slice base sLen sCap)).run Pg { w with drawn:=w.drawn+1 }=.ok c1 { w with drawn:=w.drawn+1 }) (M:¬ sLen+b<=sCap) (N:(sLen+b)*c.bytes<=140737488355328) (g:c.bytes≠0) :
  ∃(rest:Array Value) (n:Nat),(sLen+b<=n/\n<=9223372036854775807)/\rest.size=(n-(sLen+b))*c.size/\
  (Builtin.append_ ts ty #[.slice base sLen sCap,.slice L b cap]).run Pg w=.ok (.slice (zw ⟨w.heap.size,0,zz⟩) (sLen+b) n) { w with drawn:=w.drawn+1,heap:=w.heap.push (.cells (c1++c2++rest) J) }:=by
 have B:sLen+b<=140737488355328:=K0 (Nat.le_mul_of_pos_right _ (Nat.pos_of_ne_zero g)) N;obtain⟨xi,z,g1,g2,g3,g4,g5,g6⟩:=m.info;have j:sLen+b<=grownCap w (sLen+b) sCap J:=by unfold grownCap Question.cut;exact Nat.le_add_right _ _
 have H:z.cells.size=c.size:=by rw[<-m.len,<-g5];simp
 refine⟨Builtin.zeroCells z.cells (grownCap w (sLen+b) sCap J-(sLen+b)),grownCap w (sLen+b) sCap J,⟨j,grownCap_le_maxLen w _ _ J (K0 B (by decide))⟩,by simp[Builtin.zeroCells,H],?_⟩;have T:=growslice_fits (bytes:=c.bytes) (Nat.lt_of_not_le M) N;have n1:¬ (((sLen+b:Nat):Int)>IntKind.i64.max/\(False\/c.bytes=0)):=by rintro ⟨_,h|h⟩;exact h;exact g h
 have n2:¬ (Builtin.nextslicecap (sLen+b) sCap*c.bytes>2 ^ 48):=by have:(2:Nat) ^ 48=281474976710656:=rfl;omega
 have d :∀u:World,(typeInfo J).run Pg u=.ok xi u:=λu=>uF g1;unfold Builtin.append_;simp only[X,Y,Sem.run_bind,fB hs,fB Z,eU m,Result.andThen_ok,Builtin.lenOf,Kg,K4,J0,Sem.run_pure,Wb,if_false,Qt M,vz,if_true];simp only[d,Result.andThen_ok,g3];rw[Qt n1];simp only[d,Result.andThen_ok,g3,Sem.run_bind];rw[Qt n2];simp only[Sem.run_bind,run_choose,Question.forced,Wb,if_false,Result.andThen_ok,run_askRoom,y,q,zeroValue,Sem.run_bind,d,g4,Sem.run_pure,newRow,run_newObj];rfl
theorem Rel.FD{st:St}{gh:Nat->Gh}{w:World}(n:Nat):Lets E st st gh gh w { w with drawn:=n }:=⟨λa i b c=>⟨c,rfl⟩,λg _=>.inr ⟨⟨rfl,rfl⟩,O.gy _⟩⟩
theorem Bj(st:St)(g d:Nat)(x:O)(b:g≠d):(st.aJ [(g,.none)] []).aJ [(d,x)] [d]=st.aJ [(g,.none),(d,x)] [d]:=by
 unfold St.aJ;congr 1
 .funext g';by_cases c:g'=g
  .subst c;have:(g'==d)=zv:=by simpa using b
   simp[List.lookup,this]
  .have h:(g'==g)=zv:=by simpa using c
   by_cases j:g'=d
   .subst j;simp[List.lookup,h]
   .have m:(g'==d)=zv:=by simpa using j
    simp[List.lookup,h,m]
theorem yU(sz n:Nat)(a:Option Addr)(l c b:Nat):Builtin.firstCells sz n (.slice a l c)=Builtin.firstCells sz n (.slice a l b):=by cases a<;>rfl
theorem H7(h:Rel E st gh val w)(hd:st.used g=zv){new:List (List P)}(K:st.o n=.arr zv i a sz l)(m:Nat)(hm:m<=l.length)(hx:qR w (E.ok st gh w c J) sz new v)
  {ts:Array TypeId} {xT i' e':TypeId} {q:TI} (h0:ts[0]?=zw e) (h1:ts[1]?=zw xT) (hs:Pg.underlying e=zw (.slice i')) (hxt:Pg.underlying xT=zw (.slice e')) (he:qQ Pg i' q) (hsz:sz=q.size)
  (vx:(m+new.length)*q.bytes<=140737488355328) (hb0:q.bytes≠0) {bc:Nat} (hbc:m<=bc/\bc<=(gh n).cap) :
  ∃a' w' bU,(Builtin.append_ ts ty #[.slice (gh n).ad m bc,v]).run Pg w=.ok a' w'/\Rel E (st.aJ [(n,.none),(g,.arr zv (i||c) (a||J) sz (l.take m++new))] [g]) bU val w'/\
   Lets E st (st.aJ [(n,.none),(g,.arr zv (i||c) (a||J) sz (l.take m++new))] [g]) gh bU w w'/\a'=.slice (bU g).ad (l.take m++new).length (bU g).cap:=by
 subst hsz;have hO:jq E st gh w i a q.size l (gh n):=by have:=h.bI n;rw[K]at this;exact this
 have hgd:n≠g:=by intro i';subst i';rw[h.ul n (by rw[K];simp)]at hd;cases hd
 have H:(l.take m++new).length=m+new.length:=by simp;omega
 obtain⟨ao,cap,rfl,Z⟩:=hx;have hx:qR w (E.ok st gh w c J) q.size new (.slice ao new.length cap):=⟨ao,cap,rfl,Z⟩;by_cases tu:m+new.length<=bc
 .obtain ⟨c2,N,hl2,ho2,hr2,B⟩:=hx.cells (Pg:=Pg);rcases hO with⟨z1,z2,z3⟩|⟨ad,sT,e0,z1,z2,z3,z4,z5,z6,z7⟩
  .subst z3;have hm0:m=0:=by simpa using hm
   subst hm0;have hn0:new=[]:=Uv (by omega);subst hn0;have amH:bc=0:=by omega
   subst amH;have KA:=h.kill n;have hmk:=Rel.Uc KA.1 g (by simpa[St.aJ]using hd) (i||c) (a||J) q.size;rw[Bj st n g _ hgd]at hmk;refine⟨_,w,_,lG h0 h1 hs hxt he (by simpa using N) (by simp) (λi ha=>by rw[z1]at ha;cases ha) (λ_=>rfl),by simpa using hmk.1,
    by simpa using Lets.trans KA.2 hmk.2 (λn hg=>by simpa[St.aJ]using hg),by simp[fZ,Gh.nil,z1]⟩
  .have aua:m*q.size+new.length*q.size<=(gh n).cap*q.size:=by rw[<-WK];exact W0 _ (K0 tu hbc.2)
   have hbz:bc*q.size<=(gh n).cap*q.size:=W0 _ hbc.2;obtain⟨b0,T,sp0⟩:=ad;simp only at z2 z3 z4 z7;subst z2;obtain⟨w',c',s1,s2,s3,s4,s5,s6,s7,s8⟩:=nS (Pg:=Pg) b0 (T+m*q.size) e0 c2 0 w sT z3 ho2 (by omega);have DW:c'.size=sT.size:=by have:=W2 List.length s3;rw[fM (by simp;omega)]at this;simpa using this
   have hsh:=Rel.shift h n g hd ⟨b0,T,zz⟩ (by rw[K];rfl) z1 (.arr zv (i||c) (a||J) q.size (l.take m++new)) ⟨zw ⟨b0,T,zz⟩,bc,λ_=>zz⟩ rfl (λb vx=>by cases vx) (λ_ _ _=>rfl) w' s4 s5 s6 s7 s8
    (λi1 b e1 vx hwr=>by
     cases e1;rcases vx with⟨ad',q1,q2⟩|q1
     .cases q1;subst q2;simp[h.wi n a b0 (by rw[K];rfl) (Gh.kN z1) hwr]
     .cases q1) (λL=>by
     refine .inr ⟨⟨b0,T,zz⟩,c',e0,rfl,rfl,s2,by rw[DW];simp only;omega,⟨by rw[H];exact tu,by simp only;have:=z5.2;omega⟩,λx hx=>?_,λd x hx j y M=>?_⟩
     .rcases Ys.1 hx with hx|hx
      .exact z6 x (Wl hx)
      .exact hr2 x hx
     .have z:c'[T+d*q.size+j]?=(bf sT.toList (T+m*q.size) c2)[T+d*q.size+j]?:=by rw[<-K2,s3,Jn]
      rw[fV (by simp;omega)]at z;rw[Kj]at hx;split at hx
      .rename_i hn;have hnm:d<m:=by simp at hn;omega
       rw[ZZ,QQ hnm]at hx;obtain⟨a',hv,hvr⟩:=z7 d x hx j y M;have hj:j<q.size:=by have:=(Q3.1 M).1;have:=z6 x (Z1 hx);omega
       have:(d+1)*q.size<=m*q.size:=W0 _ hnm;rw[WK,KK]at this;rw[Qt (by omega)]at z;exact⟨a',by rw[z];simpa using hv,(L.lU hvr).mono λb vx=>⟨Env.qC (by simp;exact λh=>.inl h) (by simp;exact λh=>.inl h) vx,rfl⟩⟩
      .rename_i hn;have U:(l.take m).length=m:=by simp;omega
       rw[U]at hx hn;obtain⟨u,hu,hur⟩:=B _ x hx j y M;have Kv:=(Q3.1 hu).1;have hnm:d*q.size=m*q.size+(d-m)*q.size:=by rw[<-WK];congr 1;omega
       rw[QQ (by omega)]at z;have e1:T+d*q.size+j-(T+m*q.size)=(d-m)*q.size+j:=by omega
       rw[e1]at z;exact⟨u,by rw[z];exact hu,(L.lU hur).mono λb vx=>⟨Env.qC (by simp;exact λh=>.inr h) (by simp;exact λh=>.inr h) vx,rfl⟩⟩) (λg' hg'=>by simp[O.names]at hg')
   refine⟨_,w',_,lG h0 h1 hs hxt he N tu (λi ha=>?_) (λhn=>by rw[z1]at hn;cases hn),hsh.1,hsh.2,by rw[H];simp[fZ,z1]⟩;rw[z1]at ha;cases ha;rw[Addr.ji];simpa using s1
 .have hd1:=h.drew (w.drawn+1);have hl1:Lets E st st gh gh w { w with drawn:=w.drawn+1 }:=Rel.FD _;have hO1:nG E st gh { w with drawn:=w.drawn+1 } (.arr zv i a q.size l) (gh n):=by have:=hd1.bI n;rw[K]at this;exact this
  obtain⟨c1,hc1,aei,ho1,hr1,X⟩:=(Kz hO1 m hm).cells (Pg:=Pg);rw[yU _ _ _ _ _ bc]at hc1;have hx1:qR { w with drawn:=w.drawn+1 } (E.ok st gh { w with drawn:=w.drawn+1 } c J) q.size new (.slice ao new.length cap):=⟨ao,cap,rfl,λhne=>let ⟨b,o,e1,e2⟩:=Z hne;⟨b,o,e1,λd x hx=>⟨(e2 d x hx).1,λj y M=>let ⟨u,hu,Uo⟩:=(e2 d x hx).2 j y M;⟨u,hu,hl1.lU Uo⟩⟩⟩⟩
  obtain⟨c2,N,hl2,ho2,hr2,B⟩:=hx1.cells (Pg:=Pg);have U:(l.take m).length=m:=by simp;omega
  rw[U]at hc1 aei;obtain⟨rest,Y,k1,k2,k3⟩:=rX (ty:=ty) h0 h1 hs hxt he N hc1 tu vx hb0;have KA:=hd1.kill n;have hrows:=Ur (w:={ w with drawn:=w.drawn+1 }) (ok1:=E.ok (st.aJ [(n,.none)] []) gh { w with drawn:=w.drawn+1 } i a) (ok2:=E.ok (st.aJ [(n,.none)] []) gh { w with drawn:=w.drawn+1 } c J)
   (ok:=E.ok (st.aJ [(n,.none)] []) gh { w with drawn:=w.drawn+1 } (i||c) (a||J)) (sz:=q.size) (l1:=l.take m) (l2:=new) (c1:=c1) (c2:=c2) (by rw[U];exact aei)
   (λd x hx j y M=>let ⟨u,hu,hr⟩:=X d x hx j y M;⟨u,hu,KA.2.lU hr⟩) (λd x hx j y M=>let ⟨u,hu,hr⟩:=B d x hx j y M;⟨u,hu,KA.2.lU hr⟩)
   (λb vx=>Env.qC (by simp;exact λh=>.inl h) (by simp;exact λh=>.inl h) vx) (λb vx=>Env.qC (by simp;exact λh=>.inr h) (by simp;exact λh=>.inr h) vx) hr1
  obtain⟨bU,m1,m2,m3,m4⟩:=DV KA.1 g (by simpa[St.aJ]using hd) (i||c) (a||J) q.size (l.take m++new) (c1.toArray++c2.toArray++rest) i' Y (by rw[H];exact k1) (by
    simp only[vE,qq,aei,hl2,k2];rw[<-WK,<-WK];exact W0 _ (by omega)) (λx hx=>by
    rcases Ys.1 hx with hx|hx
    .exact hr1 x hx
    .exact hr2 x hx) (λd x hx j y M=>by
    obtain⟨u,hu,hr⟩:=hrows d x hx j y M;refine⟨u,?_,hr⟩;have hlt:=(Q3.1 hu).1;rw[Kd (by simpa using hlt)];rw[List.append_toArray,Kg];exact hu)
  rw[Bj st n g _ hgd]at m1 m2 m4;refine⟨_,_,bU,k3,m1,Lets.trans (Lets.trans hl1 KA.2 (λn hg=>hg)) m2 (λn hg=>by simpa[St.aJ]using hg),by rw[m3,H]⟩
theorem QD(M:jv Pg tt)(args:Array Operand)(ts:Array TypeId):gJ Pg tt (.call { callee:=.builtin .append,args:=args,argTypes:=ts }):=by
 intro E st gh val w ρ F o d r ho h hF hFn q hp hd;simp only[kernel]at q;split at q
 rotate_left
 cases q;rename_i s x sT xT tl ha hts;obtain rfl:=wU ha;have h0:ts[0]?=zw sT:=by rw[<-K2,hts];rfl
 have h1:ts[1]?=zw xT:=by rw[<-K2,hts];rfl
 split at q
 rotate_left
 cases q;rename_i e' _ _ _ s' x' hxt hs hx;have rs:=hF s;rw[hs]at rs;have rx:=hF x;rw[hx]at rx;have U:=(M _ _ hxt).kind;simp only[qB]at U;unfold wR at q;split at q
 rotate_left
 cases q;rename_i e _ _ _ hsT;have X:=(M _ _ hsT).kind;simp only[qB]at X;split at q
 rotate_left
 cases q;rename_i N he;split at q;cases q;rename_i hb0;split at q;cases q;rename_i ask new a' i' J;have K :∀(v:Value) (w':World) (bU:Nat->Gh) (a i:Bool) (B:List (List P)) (kill:List (Nat×O)),(Builtin.append_ ts o.type #[ρ s,ρ x]).run Pg w=.ok v w'->
   Rel E (st.aJ (kill++[(d,.arr zv (a||a') (i||i') N.size (B++new))]) [d]) bU val w'->Lets E st (st.aJ (kill++[(d,.arr zv (a||a') (i||i') N.size (B++new))]) [d]) gh bU w w'->
   ((st.aJ (kill++[(d,.arr zv (a||a') (i||i') N.size (B++new))]) [d]).o d=.arr zv (a||a') (i||i') N.size (B++new))->v=.slice (bU d).ad (B++new).length (bU d).cap->
   ∃v w' bU,Does Pg (execOp ρ o) w v w'/\Rel E (st.aJ (kill++[(d,.arr zv (a||a') (i||i') N.size (B++new))]) [d]) bU val w'/\Lets E st (st.aJ (kill++[(d,.arr zv (a||a') (i||i') N.size (B++new))]) [d]) gh bU w w'/\
    dU E (st.aJ (kill++[(d,.arr zv (a||a') (i||i') N.size (B++new))]) [d]) bU w' (.v (.one (.own d))) v/\
    ∀g∈(S.v (.one (.own d))).names,(st.aJ (kill++[(d,.arr zv (a||a') (i||i') N.size (B++new))]) [d]).used g=zj:=by
  intro v w' bU a i B kill hr h2 h3 hod Y;refine⟨v,w',bU,.inl (kX ho ?_),h2,h3,dU.Jr (.own d v (by rw[Y];rfl) λsz1 len1 ho1=>?_),λg hg=>?_⟩
  .simp [builtin,hr]
  .rw [hod]at ho1;obtain⟨_,rfl⟩:=O.kW ho1;exact Y
  .rw [dZ]at hg;simp only[W.names,X1]at hg;subst hg;simp[St.aJ]
 simp only at q;split at q
 .cases q;obtain⟨H,_,Z⟩:=hp;have hX:=DX h rx.dW J H;have Jt:st.used d=zv:=hd d (by simp);have Y:ρ s=.slice zz 0 0:=by generalize hz:ρ s=z at rs;cases rs.dW;rfl
  by_cases hn:new=[]
  .subst hn;obtain⟨ao,cap,hvx,_⟩:=hX;have hX:qR w (E.ok st gh w a' i') N.size [] (ρ x):=⟨ao,cap,hvx,λhne=>absurd rfl hne⟩;obtain⟨c2,hc2,hl2,ho2,hr2,L⟩:=hX.cells (Pg:=Pg);have aub:c2=[]:=Uv (by simpa using hl2);subst aub;have hmk:=Rel.Uc h d Jt (zv||a') (zv||i') N.size;refine K (.slice zz (0+0) 0) w _ zv zv [] [] ?_ (by simpa using hmk.1) (by simpa using hmk.2) (by simp[St.aJ,List.lookup]) (by simp[fZ,Gh.nil]);rw[Y,hvx];rw[hvx]at hc2;exact lG h0 h1 X U (M _ _ he) (by simpa using hc2) (by simp) (λa ha=>by cases ha) (λ_=>rfl)
  .obtain ⟨ao,cap,hvx,hnew⟩:=hX;have hl1:Lets E st st gh gh w { w with drawn:=w.drawn+1 }:=Rel.FD _;have hd1:=h.drew (w.drawn+1);have hx1:qR { w with drawn:=w.drawn+1 } (E.ok st gh { w with drawn:=w.drawn+1 } a' i') N.size new (.slice ao new.length cap):=⟨ao,cap,rfl,λhne=>let ⟨b,o,e1,e2⟩:=hnew hne;⟨b,o,e1,λn x hx=>⟨(e2 n x hx).1,λj y hy=>let ⟨u,hu,Uo⟩:=(e2 n x hx).2 j y hy;⟨u,hu,hl1.lU Uo⟩⟩⟩⟩
   obtain⟨c2,hc2,hl2,ho2,hr2,L⟩:=hx1.cells (Pg:=Pg);have hpos:0<new.length:=vm.2 hn;obtain⟨rest,newCap,k1,k2,k3⟩:=rX (w:=w) (ts:=ts) (ty:=o.type) h0 h1 X U (M _ _ he) (base:=zz) (sLen:=0) (sCap:=0) (c1:=#[]) hc2 (by simp[Builtin.firstCells]) (by omega) (by simpa using Z) hb0;obtain⟨bU,m1,m2,m3,m4⟩:=DV hd1 d Jt (zv||a') (zv||i') N.size ([]++new) (#[]++c2.toArray++rest) e newCap (by simpa using k1) (by
     simp only[vE,qq,hl2,k2,qq,Ke,Vi];rw[<-WK];exact W0 _ (by omega)) (λx hx=>hr2 x (by simpa using hx)) (λn x hx j y hy=>by
     obtain⟨u,hu,hr⟩:=L n x (by simpa using hx) j y hy;have hlt:=(Q3.1 hu).1;refine⟨u,?_,by simpa using hr⟩;rw[Kd (by simpa using hlt)];simpa using hu)
   refine K _ _ bU zv zv [] [] (by rw[Y,hvx];exact k3) (by simpa using m1) (Lets.trans hl1 (by simpa using m2) (λg hg=>hg)) (by simpa using m4) (by rw[m3];simp)
 .rename_i g;split at q
  rotate_left
  cases q;rename_i a i sz l T;split at q
  rotate_left
  cases q;rename_i hc;cases q;obtain⟨H,_,Z⟩:=hp;have hX:=DX h rx.dW J H;have Jt:st.used d=zv:=hd d (by simp);have Y:=(by cases rs.dW with|own _ _ _ Z=>exact Z _ _ (O.kZ T):ρ s=.slice (gh g).ad l.length (gh g).cap);obtain⟨v,w',bU,q1,q2,q3,q4⟩:=H7 (ty:=o.type) h Jt T l.length (YY _) (by rw[hc.1];exact hX) h0 h1 X U (M _ _ he) hc.1 Z hb0 (bc:=(gh g).cap) ⟨(wW (h.bI g) (O.kZ T)).1,YY _⟩;rw[K7,hc.1]at q2 q3;rw[K7]at q4;have hgd:(d==g)=zv:=by simpa using (λe:d=g=>hc.2 e.symm)
  exact K v w' bU a i l [(g,.none)] (by rw[Y];exact q1) q2 q3 (by simp[St.aJ,List.lookup,hgd]) q4
 .rename_i g lo hi;split at q
  rotate_left
  cases q;rename_i a i sz l T;split at q
  rotate_left
  cases q;rename_i hc;cases q;obtain⟨H,hlo,Z⟩:=hp;have hX:=DX h rx.dW J H;have Jt:st.used d=zv:=hd d (by simp);obtain⟨n,m,vc,h4,rfl,h5,h6,NZ,Y⟩:=(by cases rs.dW with|vw _ _ _ _ _ Z=>exact Z _ _ (O.kZ T) :∃n m c:Nat,lo=.int .i64 n/\hi=.int .i64 m/\n<=m/\m<=l.length/\(m-n<=c/\n+c<=(gh g).cap)/\
   ρ s=.slice (if(gh g).cap=n then(gh g).ad else(gh g).ad.map (·.add (n*sz))) (m-n) c)
  have hn0:n=0:=by rw[hlo]at h4;simp[lV]at h4;omega
  subst hn0;have hadd:(gh g).ad.map (·.add (0*sz))=(gh g).ad:=by
   cases (gh g).ad with
   |none=>rfl
   |some a=>simp[Addr.add]
  rw[hadd]at Y;simp only[ite_self,Nat.sub_zero]at Y;have e2:(P.int .i64 (m:Int)).nat=m:=by simp[P.nat,P.num]
  rw[e2]at Z ⊢;have hb':(m+new.length)*N.bytes<=140737488355328:=by rw[VV,vo h6]at Z;exact Z
  obtain⟨v,w',bU,q1,q2,q3,q4⟩:=H7 (ty:=o.type) h Jt T m h6 (by rw[hc.1];exact hX) h0 h1 X U (M _ _ he) hc.1 hb' hb0 (bc:=vc) (by omega);rw[hc.1]at q2 q3;have hgd:(d==g)=zv:=by simpa using (λe:d=g=>hc.2 e.symm)
  exact K v w' bU a i (l.take m) [(g,.none)] (by rw[Y];exact q1) q2 q3 (by simp[St.aJ,List.lookup,hgd]) q4
 .cases q
theorem yV{α:Type}{x:α}{b:List α}:∀{n:Nat},x∈iI b n->x∈b
 |0,h=>by simp[iI]at h
 |n+1,h=>by
  simp only[iI,Ys]at h;rcases h with h|h
  .exact h
  .exact yV h
theorem aiq(d:u.toList=z)(n:Nat)(g:0<z.length):Builtin.zeroCells u n=(iI z n).toArray:=by
 have:=oN d n g;have b:u.size=z.length:=by rw[<-d];simp
 unfold Builtin.zeroCells;rw[b];rw[b]at this;exact this
theorem N7{Pg:Program}{tt:TT}(m:jv Pg tt)(s t:TypeId)(x:Operand):gJ Pg tt (.convert s t x):=by
 intro E st gh val w ρ F o d r M h hF hFn B hp hd;simp only[kernel]at B;split at B
 .rename_i k1 _ _ _ k2 _ _ _ a i x' N T q;cases B;have rx:=hF x;rw[q]at rx;have rx:=rx.gB;have us:=(m _ _ N).kind;have J:=(m _ _ T).kind;simp only[qB]at us J;cases x' with
  |int k n=>
   have e:=rx.fJ;have L:(convert s t (ρ x)).run Pg w=.ok (.int k2 (k2.wrap n)) w:=by rw[e];simp[convert,fB us,fB J,Conv.intToInt]
   exact iy (tt:=tt) h (by unfold execOp;rw[M];exact iE L) λok=>.int _ _
  |_=>exact hp.elim
 .rename_i e _ _ _ _ _ _ x' N T q;split at B
  rotate_left
  cases B;rename_i _ _ _ he;split at B
  rotate_left
  cases B;rename_i ask l a1 i1 L;cases B;obtain⟨U,hby⟩:=hp;have rx:=hF x;rw[q]at rx;have hX:=DX h rx.dW L U;have us:=(m _ _ N).kind;have J:=(m _ _ T).kind;have X:=(m _ _ he).kind;simp only[qB]at us J X;obtain⟨ao,len,cap,hv,H⟩:=hX.bytes (Pg:=Pg) hby;have L:(convert s t (ρ x)).run Pg w=.ok (.string ⟨(l.map λr=>UInt8.ofNat ((r.getD 0 default).num.toNat)).toArray⟩) w:=by rw[hv,run_convert_bytes_string w s t e ao len cap us X J];exact H
  exact iy (tt:=tt) h (by unfold execOp;rw[M];exact iE L) λok=>.str _
 .rename_i e _ _ _ _ _ x' N T q;split at B
  rotate_left
  cases B;rename_i _ _ _ he;cases B;have rx:=hF x;rw[q]at rx;have us:=(m _ _ N).kind;have J:=(m _ _ T).kind;have X:=(m _ _ he).kind;simp only[qB]at us J X;cases x' with
  |str c=>
   have hv:ρ x=.string c:=by have:=rx.gB;generalize ρ x=z at this;cases this;rfl
   have L:(convert s t (ρ x)).run Pg w=.ok (.slice (zw ⟨w.heap.size,0,zz⟩) c.size (grownCap w c.size 0 e)) (Lib.bytesWorld w e c):=by rw[hv];exact Lib.run_convert_string_bytes w s t e c us J X
   have K:=h.fresh (Lib.bytesWorld w e c) (Lib.bytesWorld_at_old w e c) (by rw[Lib.bytesWorld_size];omega) rfl rfl rfl;have hl:c.data.toList.length=c.size:=rfl;refine⟨_,_,gh,.inl (by unfold execOp;rw[M];exact iE L),K.1,K.2,dU.ofP ?_,λg hg=>by simp[Fj.calc,scalar,S.names,V.names,W.names]at hg⟩;show dH _ _ (P.gV 1 (c.data.toList.map λb=>[P.int .u8 b.toNat])) _;have Y:c.size=(c.data.toList.map λb=>[P.int .u8 (b.toNat:Int)]).length:=by rw[We];rfl
   have key:=dH.sl (w:=Lib.bytesWorld w e c) (ok:=E.ok st gh (Lib.bytesWorld w e c) zv zv) 1 (c.data.toList.map λb=>[P.int .u8 (b.toNat:Int)]) ⟨w.heap.size,0,zz⟩ (grownCap w c.size 0 e)
    (λi _=>.int .u8 (c.data.toList.getD i 0).toNat) rfl (λ_=>⟨.inr (.inr (.inl h.size)),by rw[Lib.bytesWorld_size];exact Nat.lt_succ_self _,λg M hb=>KV _ (h.wr g _ M hb).2⟩) (by rw[<-Y];exact grownCap_ge _ _ _ _) (λx q=>by
     obtain⟨b,_,rfl⟩:=XN.1 q;rfl) (λi x q j y Z=>by
     have hi:i<c.size:=by have:=(Q3.1 q).1;simpa using this
     have hj:j=0:=by
      simp only[Z0,Wg]at q;obtain⟨b,_,rfl⟩:=q;cases j with
      |zero=>rfl
      |succ j=>simp at Z
     subst hj;have:=Lib.bytesWorld_cell w e c i hi;simpa using this) (λi x q j y Z=>by
     simp only[Z0,Wg]at q;obtain⟨b,hb,rfl⟩:=q;cases j with
     |zero=>
      simp only[K4,Q0]at Z;subst Z;have:c.data.toList.getD i 0=b:=by rw[Q1,hb];rfl
      rw[this];exact .int _ _
     |succ j=>simp at Z)
   rw[<-Y]at key;exact dH.gV key
  |_=>exact hp.elim
 .cases B
theorem QE(j:jv Pg tt)(op:Op):gJ Pg tt op:=by
 cases op with
 |move x=>exact Xi x
 |assign x=>exact Qv x
 |pick c a b=>exact Xj c a b
 |alloc t=>exact Uj j t
 |box t x=>exact abN j t x
 |build t L=>exact Ul j t L
 |buildSlice t n L=>exact FC j t n L
 |load t x=>exact Xk j t x
 |store t x y=>exact Um j t x y
 |nilCheck x=>exact Ko x
 |binOp op t x y u=>exact abG j op t x y u
 |unOp op t x=>exact aee op t x
 |convert s t x=>exact N7 j s t x
 |makeSlice t n c=>exact Jf j t n c
 |slice t x lo K N=>
  cases N with
  |none=>exact Uh j t x lo K
  |some m=>cases lo with
   |some l=>intro E st gh val w ρ F o d r B h H q z;simp[kernel]at z
   |none=>cases K with
    |none=>intro E st gh val w ρ F o d r B h H q z;simp[kernel]at z
    |some K=>exact Qy j t x K m
 |fieldAddr t x n=>exact Jd j t x n
 |field t x n=>exact Ug j t x n
 |indexAddr t x M=>exact Je j t x M
 |index t x M=>exact Ue j t x M
 |range t x=>exact Uk j t x
 |extract t n=>exact NY t n
 |makeFunc fn first J=>
  cases fn with
  |func g=>exact Kt g first J
  |_=>intro E st gh val w ρ F o d r B h H q z;simp[kernel]at z
 |call c=>
  obtain⟨callee,args,ts⟩:=c;cases callee with
  |builtin b=>
   cases b with
   |append=>exact QD j args ts
   |len=>exact abI j args ts
   |min=>exact abJ args ts
   |max=>exact abK args ts
   |_=>intro E st gh val w ρ F o d r B h H q z;simp[kernel]at z
  |_=>intro E st gh val w ρ F o d r B h H q z;simp[kernel]at z
 |_=>intro E st gh val w ρ F o d r B h H q z;simp[kernel]at z
end
end Go.Fw

namespace Go.Fw
variable [fO]
def lD(o:Nat->O)(g:Nat):List (Nat×O):=match o g with
 |.aO a i h j l (zw (n,c,d))=>match o d with
  |.arr zv a' i' b m=>if j.lookup c=zw b/\c<h then[(g,.aO (a||a') (i||i') h j (jM l n c (P.gV b m)) zz),(d,.none)]else[]
  |_=>[]
 |_=>[]
section
variable {E:Env} {st st':St} {gh bU:Nat->Gh} {w w':World} {val:Nat->Value}
variable{d:Bool}
theorem dH.cls(g:a=zj->c=zj)(hi:i=zj->d=zj){x:P}(h:dH w (E.ok st gh w a i) x v):dH w (E.ok st gh w c d) x v:=h.mono λb j=>⟨Env.qC g hi j,rfl⟩
variable{l:List (List P)}{G:Gh}
theorem jq.cls(g:a=zj->c=zj)(hi:i=zj->d=zj){sz:Nat}(h:jq E st gh w a i sz l G):jq E st gh w c d sz l G:=by rcases h with h|⟨ad,b,e,m,q,z,B,H,J,K⟩;exact .inl h;exact .inr ⟨ad,b,e,m,q,z,B,H,J,λn x L j y M=>let ⟨v,N,T⟩:=K n x L j y M;⟨v,N,T.cls g hi⟩⟩
theorem jq.sub{b:Gh}(c:b.ad=G.ad)(d:b.cap=G.cap)(h:jq E st gh w i a g l G):jq E st gh w i a g l b:=by unfold jq at *;rw[c,d];exact h
variable{y:P}
theorem Bc.cls(g:a=zj->c=zj)(hi:i=zj->d=zj)(h:Bc E st gh w a i G j n b y v):Bc E st gh w c d G j n b y v:=by obtain⟨m,q,k,z,B,H,J⟩:=h;exact⟨m,q,k,z,B,H.cls g hi,J⟩
theorem Rel.shut(h:Rel E st gh val w){T:List (List P)}{au i':Nat}(ho:st.o g=.aO i a b q l (zw (au,i',n)))(hd:st.o n=.arr zv c J j T)
  (hc:q.lookup i'=zw j) (hcs:i'<b) :
  ∃bU,Rel E (st.aJ [(g,.aO (i||c) (a||J) b q (jM l au i' (P.gV j T)) zz),(n,.none)] []) bU val w/\
   Lets E st (st.aJ [(g,.aO (i||c) (a||J) b q (jM l au i' (P.gV j T)) zz),(n,.none)] []) gh bU w w/\∀x,(bU x).ad=(gh x).ad/\(bU x).cap=(gh x).cap:=by
 have hgd:g≠n:=by intro e;subst e;rw[ho]at hd;cases hd
 have X:(st.o g).cO=zj:=by rw[ho];rfl
 have hdo:(st.o n).cO=zj:=by rw[hd];rfl
 have hgu:st.used g=zj:=h.ul g (O.qA X);have hD:lT E st gh w i a b q l (zw (au,i',n)) (gh g):=by have:=h.bI g;rw[ho]at this;exact this
 have hA:jq E st gh w c J j T (gh n):=by have:=h.bI n;rw[hd]at this;exact this
 generalize H:st.aJ [(g,.aO (i||c) (a||J) b q (jM l au i' (P.gV j T)) zz),(n,.none)] []=st';have z:(n==g)=zv:=by simpa using hgd.symm
 have hog:st'.o g=.aO (i||c) (a||J) b q (jM l au i' (P.gV j T)) zz:=by subst H;simp[St.aJ,List.lookup]
 have hod:st'.o n=.none:=by subst H;simp[St.aJ,List.lookup,z]
 have BN :∀g',g'≠n->g'≠g->st'.o g'=st.o g':=by
  intro g' e2 z;subst H;have z:(g'==g)=zv:=by simpa using z
  have e2:(g'==n)=zv:=by simpa using e2
  simp[St.aJ,List.lookup,z,e2]
 have U :∀sz,(gh g).has sz->(gh n).has sz->False:=λsz h1 h2=>hgd (h.inj g n sz X hdo h1 h2)
 let G:Gh:=⟨(gh g).ad,(gh g).cap,λsz=>if(gh n).ad.map (·.block)=zw sz then(if au<l.length then zw (au,i')else zz)else(gh g).sub sz⟩
 have hGs :∀sz,(G.sub sz).isSome=zj->((gh n).ad.map (·.block)=zw sz)\/((gh g).sub sz).isSome=zj:=by intro sz M;by_cases e:(gh n).ad.map (·.block)=zw sz;exact .inl e;simp only[G,Qt e]at M;exact .inr M
 have Y :∀sz,(gh n).ad.map (·.block)=zw sz->(gh n).has sz:=by
  intro sz e;cases hx:(gh n).ad with
  |none=>rw[hx]at e;cases e
  |some ad=>rw[hx]at e;simp at e;exact .inl ⟨ad,hx,e⟩
 have hGb :∀sz,G.has sz->(gh g).has sz\/(gh n).has sz:=by
  rintro sz (⟨ad,k1,Z⟩|k1);exact .inl (.inl ⟨ad,k1,Z⟩);rcases hGs sz k1 with a'|a'
  .exact .inr (Y sz a')
  .exact .inl (.inr a')
 obtain⟨m1,m2⟩:=h.merge (λg'=>g'=n) g (.aO (i||c) (a||J) b q (jM l au i' (P.gV j T)) zz) G st' w (by subst H;rfl) hog (λg' e _=>by subst e;exact hod) (λg' z e2=>BN g' z e2)
  (λg' hg'=>by subst H;simp[St.aJ,hg']) (by subst H;simp[St.aJ,hgu]) (λ_=>⟨⟨rfl,rfl⟩,by rw[ho];exact⟨rfl,jG.symm⟩⟩)
  (λsz M=>.inl (by
   rcases hGb sz M with a'|a'
   .exact ⟨g,.inr rfl,X,a'⟩
   .exact ⟨n,.inl rfl,hdo,a'⟩))
  (λ_ _ _=>rfl) (YY _) rfl rfl rfl (λi1 sz z M hw=>by
   cases z;rcases hGb sz M with a'|a'
   .have:=h.wi g a sz (by rw[ho];rfl) a' hw;simp[this]
   .have:=h.wi n J sz (by rw[hd];rfl) a' hw;simp[this])
  (λ_ e=>by cases e) (λhl=>by
   rcases hD with⟨k1,Z,k3,k4⟩|⟨ad,cs,e,k1,Z,k3,k4,k5,k6,⟨k7,k7'⟩,k8⟩
   .subst k3;refine .inl ⟨k1,Z,by simp[jM],λsz=>?_⟩;by_cases e:(gh n).ad.map (·.block)=zw sz
    .show (if(gh n).ad.map (·.block)=zw sz then(if au<([]:List (List P)).length then zw (au,i')else zz)else(gh g).sub sz)=zz;rw[QQ e];rfl
    .simp only[G,Qt e];exact k4 sz
   .refine .inr ⟨ad,cs,e,k1,Z,k3,k4,by rw[jG];exact k5,DR k6 hcs,⟨?_,λsz M=>?_⟩,λm x hx d y hy=>?_⟩
    .have:¬ (gh n).ad.map (·.block)=zw ad.block:=λe=>U _ (Gh.kN k1) (Y _ e);simp only[G,Qt this];exact k7
    .rcases hGs sz M with a'|a'
     .rcases hA with⟨q1,_⟩|⟨ad',c',e',q1,_,q3,_⟩
      .rw [q1]at a';cases a'
      .rw [q1]at a';simp at a';subst a';exact⟨_,_,_,q3⟩
     .exact k7' sz a'
    .have ca:i=zj->(i||c)=zj:=by simp;exact λh=>.inl h
     have ci:a=zj->(a||J)=zj:=by simp;exact λh=>.inl h
     have ca':c=zj->(i||c)=zj:=by simp;exact λh=>.inr h
     have ci':J=zj->(a||J)=zj:=by simp;exact λh=>.inr h
     have old :∀N,l[m]?=zw N->N[d]?=zw y->¬ (au=m/\i'=d)->∃v,cs[ad.off+m*b+d]?=zw v/\jr E st' (fZ gh g G) w (i||c) (a||J) G q zz m d y v:=by
      intro N B hy0 hne;obtain⟨v,hv,L⟩:=k8 m N B d y hy0;refine⟨v,hv,?_⟩;unfold jr at L ⊢;cases K:q.lookup d with
      |none=>rw[K]at L;exact(hl.lU L).cls ca ci
      |some sz2=>rw[K]at L;simp only[iT,Qt hne]at L ⊢;obtain⟨l2,ao2,Z,q1,q2,q3,q4⟩:=L;refine⟨l2,ao2,Z,q1,q2,(hl.Dy (λ_ _=>rfl) q3).cls ca ci,λDJ uD=>?_⟩;have hs:=q4 DJ uD;have:¬ (gh n).ad.map (·.block)=zw DJ.block:=λe=>U _ (.inr (by rw[hs];rfl)) (Y _ e);simp only[G,Qt this];exact hs
     rcases yT hx with⟨z,B⟩|⟨z,N,B,rfl⟩
     .exact old x B hy λe=>z e.1.symm
     .subst z;have hlen:=k6 N (Z1 B);rw[fV (by simp;omega)]at hy;split at hy
      .rename_i K;have:d=i':=by simp at K;omega
       subst this;simp at hy;subst hy;have hyc:N[d]?=zw N[d]:=Q2 (by omega);obtain⟨v,hv,L⟩:=k8 m N B d _ hyc;simp only[jr,hc,iT,and_self,if_true]at L;obtain⟨hone,L⟩:=L;have hv':v=.slice (gh n).ad T.length (gh n).cap:=by cases L with|own _ _ _ M=>exact M _ _ (O.kZ hd)
       refine⟨v,hv,?_⟩;simp only[jr,hc,iT];refine⟨T,(gh n).ad,(gh n).cap,rfl,hv',((hl.Dy (λ_ _=>rfl) hA).cls ca' ci').sub rfl rfl,λDJ uD=>?_⟩;have hml:m<l.length:=(Q3.1 B).1;simp[G,uD,hml]
      .rename_i K;exact old N B hy λe=>K (by simp;omega))
  (λg' hg'=>by simp[O.names,dN]at hg')
 refine⟨_,m1,m2,λx=>?_⟩;unfold fZ;split
 .rename_i e;subst e;exact⟨rfl,rfl⟩
 .exact ⟨rfl,rfl⟩
theorem Rel.lD(h:Rel E st gh val w)(g:Nat):∃bU,Rel E (st.aJ (Fw.lD st.o g) []) bU val w/\Lets E st (st.aJ (Fw.lD st.o g) []) gh bU w w/\∀x,(bU x).ad=(gh x).ad/\(bU x).cap=(gh x).cap:=by
 have j :∃bU,Rel E (st.aJ [] []) bU val w/\Lets E st (st.aJ [] []) gh bU w w/\∀x,(bU x).ad=(gh x).ad/\(bU x).cap=(gh x).cap:=by rw[Js];exact⟨gh,h,⟨λa i b q=>⟨q,rfl⟩,λg _=>.inr ⟨⟨rfl,rfl⟩,O.gy _⟩⟩,λ_=>⟨rfl,rfl⟩⟩
 unfold Fw.lD;split
 rotate_left
 exact j;rename_i a i B H l n c d y;split
 .rename_i J K z L hd;split
  .rename_i m;exact h.shut y hd m.1 m.2
  .exact j
 .exact j
def shuts:List Nat->St->St
 | [],st=>st
 |g::gs,st=>shuts gs (st.aJ (lD st.o g) [])
theorem Ju:∀(gs:List Nat) (st:St),(Fw.shuts gs st).s=st.s
 | [],_=>rfl
 |g::gs,st=>Ju gs _
theorem w_:∀(gs:List Nat) (st:St),(Fw.shuts gs st).used=st.used
 | [],_=>rfl
 |g::gs,st=>(w_ gs _).trans (by funext x;simp[St.aJ])
theorem Rel.shuts:∀(gs:List Nat) {st:St} {gh:Nat->Gh},Rel E st gh val w->∃bU,Rel E (Fw.shuts gs st) bU val w/\Lets E st (Fw.shuts gs st) gh bU w w/\∀x,(bU x).ad=(gh x).ad/\(bU x).cap=(gh x).cap
 | [],st,gh,h=>⟨gh,h,⟨λa i b m=>⟨m,rfl⟩,λg _=>.inr ⟨⟨rfl,rfl⟩,O.gy _⟩⟩,λ_=>⟨rfl,rfl⟩⟩
 |g::gs,st,gh,h=>by obtain⟨J,q,y,d⟩:=h.lD g;obtain⟨z,B,H,j⟩:=Rel.shuts gs q;refine⟨z,B,Lets.trans y H (λg' c=>by simp[St.aJ,c]),λx=>⟨(j x).1.trans (d x).1,(j x).2.trans (d x).2⟩⟩
theorem Xp{st:St}(h:st.o n=.none):(st.aJ (Fw.lD st.o g) []).o n=.none:=by
 unfold Fw.lD;split
 .rename_i a i q y l g' c d b;split
  .rename_i hd;split
   .have j:(n==g)=zv:=by simp;intro e;subst e;rw[h]at b;cases b
    have m:(n==d)=zv:=by simp;intro e;subst e;rw[h]at hd;cases hd
    simp[St.aJ,List.lookup,j,m,h]
   .simpa [St.aJ]using h
  .simpa [St.aJ]using h
 .simpa [St.aJ]using h
theorem KC:∀(gs:List Nat) {st:St} {g':Nat},st.o g'=.none->(Fw.shuts gs st).o g'=.none
 | [],_,_,h=>h
 |g::gs,st,g',h=>KC gs (Xp h)
def PartOf(st:St)(gh:Nat->Gh)(a i:Bool)(es:List (Nat×Nat))(s j:Nat)(y:P)(u:Value):Prop:=∃b,y=P.gV s b/\((u=.slice zz 0 0/\b=[])\/∃e c i1,(j,e)∈es/\st.o e=.arr zv c i1 s b/\(c=zj->a=zj)/\(i1=zj->i=zj)/\u=.slice (gh e).ad b.length (gh e).cap)
def whose(gh:Nat->Gh)(es:List (Nat×Nat))(b:Nat):Option (Nat×Nat):=es.find? λp=>(gh p.2).ad.map (·.block)==zw b
theorem xg{es:List (Nat×Nat)}(h:whose gh es g=zw p):p∈es/\∃ad,(gh p.2).ad=zw ad/\ad.block=g:=by
 unfold whose at h;have c:=vp h;simp only[beq_iff_eq]at c;refine⟨Kx h,?_⟩;cases d:(gh p.2).ad with
 |none=>rw[d]at c;cases c
 |some ad=>rw[d]at c;simp at c;exact⟨ad,rfl,c⟩
theorem abO{es:List (Nat×Nat)}(b:(es.map (·.2)).Nodup){q:Nat×Nat}(c:p∈es)(d:q∈es)(e:p.2=q.2):p=q:=by
 induction es with
 |nil=>cases c
 |cons x es g=>
  simp only[Qf,K5]at b;rcases Xs.1 c with h1|h1<;>rcases Xs.1 d with h2|h2
  .rw [h1,h2]
  .exact absurd (XN.2 ⟨q,h2,by rw[<-e,h1]⟩) b.1
  .exact absurd (XN.2 ⟨p,h1,by rw[e,h2]⟩) b.1
  .exact g b.2 h1 h2
theorem OM(h:Rel E st gh val w){es:List (Nat×Nat)}(d:(es.map (·.2)).Nodup)(b :∀p∈es,(st.o p.2).cO=zj)(g:p∈es){ad:Addr}(c:(gh p.2).ad=zw ad):whose gh es ad.block=zw p:=by
 cases m:whose gh es ad.block with
 |none=>have:=vr.1 m p g;simp[c]at this
 |some q=>obtain⟨y,j,z,B⟩:=xg m;have:=h.inj q.2 p.2 ad.block (b q y) (b p g) (.inl ⟨j,z,B⟩) (Gh.kN c);rw[abO d y g this]
theorem QF{es:List (Nat×Nat)}:((es.map λp=>(p.2,O.none)).lookup g)=if g∈es.map (·.2)then zw O.none else zz:=by
 induction es with
 |nil=>rfl
 |cons x es b=>
  simp only[Qf,List.lookup,Xs];by_cases e:g=x.2
  .subst e;simp
  .have:(g==x.2)=zv:=by simpa using e
   rw[this];simp only[e,false_or];exact b
theorem Rel.amI(h:Rel E st gh val w)(K:st.o g=.aO i a n q l s){ad:Addr}(L:(gh g).ad=zw ad)
   (hn:b<l.length) {off:Nat} {ps:List P} {us:List Value} (hlen:ps.length=us.length) (hoff:off+ps.length<=n) (a' i':Bool) (es:List (Nat×Nat)) (iG:Option (Nat×Nat×Nat))
  (hnd:(es.map (·.2)).Nodup) (hes :∀p∈es,∃a1 i1 au l',st.o p.2=.arr zv a1 i1 au l'/\(i1=zj->i'=zj))
  (hcell :∀(j:Nat) y u,ps[j]?=zw y->us[j]?=zw u->match q.lookup (off+j)with
   |none=>dH w (E.ok st gh w a' i') y u
   |some au=>PartOf st gh a' i' es au (off+j) y u)
  (hh1 :∀m j,¬ (m=b/\off<=j/\j<off+ps.length)->∀au,q.lookup j=zw au->iT iG m j=iT s m j) (hh2 :∀j au,off<=j->j<off+ps.length->q.lookup j=zw au->iT iG b j=zz) (hh3 :∀d∈dN iG,d∈dN s)
  (w':World) (hw :∀sz,sz≠ad.block->w'.heap[sz]?=w.heap[sz]?) (hsz:w'.heap.size=w.heap.size) (hos:w'.os=w.os) (htape:w'.tape=w.tape) (Y:w'.output=w.output)
  (hst :∀c e,w.heap[ad.block]?=zw (.cells c e (0,0))->∃c',w'.heap[ad.block]?=zw (.cells c' e (0,0))/\c'.toList=bf c.toList (ad.off+b*n+off) us) :
  ∃bU,Rel E (st.aJ ((g,.aO (i||a') (a||i') n q (l.set b (bf (l.getD b []) off ps)) iG)::es.map λp=>(p.2,.none)) []) bU val w'/\
   Lets E st (st.aJ ((g,.aO (i||a') (a||i') n q (l.set b (bf (l.getD b []) off ps)) iG)::es.map λp=>(p.2,.none)) []) gh bU w w':=by
 have hgo:(st.o g).cO=zj:=by rw[K];rfl
 have hgu:st.used g=zj:=h.ul g (O.qA hgo);have heo :∀p∈es,(st.o p.2).cO=zj:=λp J=>by obtain⟨_,_,_,_,e,_⟩:=hes p J;rw[e];rfl
 have heg :∀p∈es,p.2≠g:=λp J e=>by obtain⟨_,_,_,_,e',_⟩:=hes p J;rw[e,K]at e';cases e'
 have hD:lT E st gh w i a n q l s (gh g):=by have:=h.bI g;rw[K]at this;exact this
 rcases hD with⟨k1,_⟩|⟨ad0,cs,ty,k1,k2,k3,k4,k5,k6,⟨k7,k7'⟩,k8⟩
 .rw [L]at k1;cases k1
 rw[L]at k1;cases k1;obtain⟨c',s1,s2⟩:=hst cs ty k3;generalize hX:O.aO (i||a') (a||i') n q (l.set b (bf (l.getD b []) off ps)) iG=X;generalize T:st.aJ ((g,X)::es.map λp=>(p.2,.none)) []=st';have aud:st'.o g=X:=by subst T;simp[St.aJ,List.lookup]
 have BN :∀g',g'≠g->st'.o g'=if g'∈es.map (·.2)then .none else st.o g':=by
  intro g' e;subst T;have e1:(g'==g)=zv:=by simpa using e
  simp only[St.aJ,List.lookup,e1,QF];by_cases U:g'∈es.map (·.2)
  .rw [QQ U,QQ U]
  .rw [Qt U,Qt U]
 let G:Gh:=⟨(gh g).ad,(gh g).cap,λsz=>match whose gh es sz with
  |some p=>zw (b,p.1)
  |none=>(gh g).sub sz⟩
 have hGs :∀sz,(G.sub sz).isSome=zj->(∃p∈es,∃ad,(gh p.2).ad=zw ad/\ad.block=sz)\/((gh g).sub sz).isSome=zj:=by
  intro sz M;cases hx:whose gh es sz with
  |some p=>exact .inl ⟨p,xg hx⟩
  |none=>simp only[G,hx]at M;exact .inr M
 have hGb :∀sz,G.has sz->(gh g).has sz\/∃p∈es,(gh p.2).has sz:=by
  rintro sz (⟨ad,q1,q2⟩|q1);exact .inl (.inl ⟨ad,q1,q2⟩);rcases hGs sz q1 with⟨p,J,hole⟩|hole
  .exact .inr ⟨p,J,.inl hole⟩
  .exact .inl (.inr hole)
 have Z :∀sz,∀p∈es,(gh g).has sz->(gh p.2).has sz->False:=λsz p J h1 h2=>heg p J (h.inj g p.2 sz hgo (heo p J) h1 h2).symm;have hnw :∀sz,(gh g).has sz->whose gh es sz=zz:=λsz M=>by
  cases hx:whose gh es sz with
  |none=>rfl
  |some p=>obtain⟨q1,q2⟩:=xg hx;exact(Z sz p q1 M (.inl q2)).elim
 obtain⟨m1,m2⟩:=h.merge (λg'=>g'∈es.map (·.2)) g X G st' w' (by subst T;rfl) aud (λg' U e=>by rw[BN g' e,QQ U]) (λg' U e=>by rw[BN g' e,Qt U])
  (λg' hg'=>by subst T;simp[St.aJ,hg']) (by subst T;simp[St.aJ,hgu]) (λ_=>⟨⟨rfl,rfl⟩,by rw[K,<-hX];exact⟨rfl,by simp⟩⟩)
  (λsz M=>.inl (by
   rcases hGb sz M with hole|⟨p,J,hole⟩
   .exact ⟨g,.inr rfl,hgo,hole⟩
   .exact ⟨p.2,.inl (XN.2 ⟨p,J,rfl⟩),heo p J,hole⟩))
  (λsz _ M=>hw sz λe=>M g (.inr rfl) hgo (e▸Gh.kN L)) (by omega) hos htape Y (λi1 sz e1 M hwr=>by
   subst hX;cases e1;rcases hGb sz M with hole|⟨p,J,hole⟩
   .have:=h.wi g a sz (by rw[K];rfl) hole hwr;simp[this]
   .obtain ⟨_,i1,_,_,e,hi⟩:=hes p J;have:=h.wi p.2 i1 sz (by rw[e];rfl) hole hwr;simp[hi this])
  (λ_ e=>by subst hX;cases e) (λhl=>by
   subst hX;have ca:i=zj->(i||a')=zj:=by simp;exact λh=>.inl h
   have ci:a=zj->(a||i')=zj:=by simp;exact λh=>.inl h
   have ca':a'=zj->(i||a')=zj:=by simp;exact λh=>.inr h
   have ci':i'=zj->(a||i')=zj:=by simp;exact λh=>.inr h
   have hle:(b+1)*n<=(gh g).cap*n:=W0 _ (by have:=k5.1;omega);rw[WK,KK]at hle;have DW:c'.size=cs.size:=by have:=W2 List.length s2;rw[fM (by simp;omega)]at this;simpa using this
   have hln:l[b]?=zw l[b]:=Q2 hn;have hrl:l[b].length=n:=k6 _ (X2 hn);have hgD:l.getD b []=l[b]:=by rw[Q1,hln];rfl
   rw[hgD];have hget :∀hole:Nat,c'[hole]?=(bf cs.toList (ad.off+b*n+off) us)[hole]?:=λhole=>by rw[<-s2,K2]
   have aek :∀sz,((gh g).sub sz).isSome=zj->sz≠ad.block:=λsz M e=>by rw[e,k7]at M;cases M
   refine .inr ⟨ad,c',ty,L,k2,s1,by rw[DW];exact k4,by simpa using k5,λz hz=>?_,⟨?_,λsz M=>?_⟩,λm z hz j y hy=>?_⟩
   .obtain ⟨m,U⟩:=UX.1 hz;rw[KS]at U;split at U
    .cases U;rw[fM (by rw[hrl];omega),hrl]
    .exact k6 z (Z1 U)
   .simp only[G,hnw _ (Gh.kN L)];exact k7
   .rcases hGs sz M with⟨p,J,ad1,q1,q2⟩|hole
    .have hne:sz≠ad.block:=λe=>Z ad.block p J (Gh.kN L) (.inl ⟨ad1,q1,by rw[q2,e]⟩);rw[hw sz hne];obtain⟨_,_,_,_,e,_⟩:=hes p J;have hA:=h.bI p.2;rw[e]at hA;rcases hA with⟨q3,_⟩|⟨DJ,c2,e2,q3,_,q4,_⟩
     .rw [q1]at q3;cases q3
     .rw [q1]at q3;cases q3;rw[<-q2];exact⟨_,_,_,q4⟩
    .rw [hw sz (aek sz hole)];exact k7' sz hole
   .-- an old cell
    have old :∀x0,l[m]?=zw x0->x0[j]?=zw y->¬ (m=b/\off<=j/\j<off+ps.length)->∃v,c'[ad.off+m*n+j]?=zw v/\jr E st' (fZ gh g G) w' (i||a') (a||i') G q iG m j y v:=by
     intro x0 hx0 hy0 hne;have hjs:j<n:=by have:=(Q3.1 hy0).1;have:=k6 x0 (Z1 hx0);omega
     have Y:¬ (ad.off+b*n+off<=ad.off+m*n+j/\ad.off+m*n+j<ad.off+b*n+off+us.length):=by
      rintro ⟨q1,q2⟩;rcases Nat.lt_trichotomy m b with hlt|heq|hgt
      .have:(m+1)*n<=b*n:=W0 _ hlt;rw[WK,KK]at this;omega
      .subst heq;exact hne ⟨rfl,by omega,by omega⟩
      .have:(b+1)*n<=m*n:=W0 _ hgt;rw[WK,KK]at this;omega
     obtain⟨v,hv,hr⟩:=k8 m x0 hx0 j y hy0;refine⟨v,by rw[hget,fV (by simp;omega),Qt Y];simpa using hv,?_⟩;unfold jr at hr ⊢;cases N:q.lookup j with
     |none=>rw[N]at hr;exact(hl.lU hr).cls ca ci
     |some au=>
      rw[N]at hr;simp only at hr ⊢;rw[hh1 m j hne au N];cases B:iT s m j with
      |some d=>
       rw[B]at hr;refine⟨hr.1,hl.BM (λg0 hg0=>?_) hr.2⟩;have:g0=d:=by simpa[W.names]using hg0
       subst this;refine h.uo g g0 ?_;rw[K];unfold iT at B;rcases s with _|⟨n',j',d'⟩;cases B;simp only at B;split at B
       .cases B;simp[O.names,dN]
       .cases B
      |none=>rw[B]at hr;obtain⟨l2,ao2,hole,q1,q2,q3,q4⟩:=hr;refine⟨l2,ao2,hole,q1,q2,(hl.Dy (λDJ uD=>hw _ (aek _ (by rw[q4 DJ uD];rfl))) q3).cls ca ci,λDJ uD=>?_⟩;have hs:=q4 DJ uD;show (match whose gh es DJ.block with|some p=>zw (b,p.1)|none=>(gh g).sub DJ.block)=zw (m,j);rw[hnw DJ.block (.inr (by rw[hs];rfl))];exact hs
    rw[KS]at hz;split at hz
    .rename_i hkm;subst hkm;cases hz;rw[fV (by rw[hrl];omega)]at hy;split at hy
     .rename_i hin;have hj':j-off<us.length:=by omega
      have hu:us[j-off]?=zw us[j-off]:=Q2 hj';have H:=hcell (j-off) y _ hy hu;have e1:off+(j-off)=j:=by omega
      rw[e1]at H;refine⟨us[j-off],?_,?_⟩
      .rw [hget,fV (by simp;omega),QQ (by omega)];have e2:ad.off+b*n+j-(ad.off+b*n+off)=j-off:=by omega
       rw[e2];exact hu
      .unfold jr;cases N:q.lookup j with
       |none=>rw[N]at H;exact(hl.lU H).cls ca' ci'
       |some au=>
        rw[N]at H;simp only at H ⊢;rw[hh2 j au hin.1 hin.2 N];obtain⟨l',rfl,H⟩:=H;rcases H with⟨q1,rfl⟩|⟨e,a1,i1,q1,q2,q3,q4,q5⟩
        .exact ⟨[],zz,0,rfl,q1,.inl ⟨rfl,rfl,rfl⟩,λDJ uD=>by cases uD⟩
        .have hA:jq E st gh w a1 i1 au l' (gh e):=by have:=h.bI e;rw[q2]at this;exact this
         refine⟨l',(gh e).ad,(gh e).cap,rfl,q5,(((hl.Dy (λDJ uD=>hw _ λe3=>?_) hA).cls q3 q4).cls ca' ci').sub rfl rfl,λDJ uD=>?_⟩;exact Z ad.block (j,e) q1 (Gh.kN L) (.inl ⟨DJ,uD,e3⟩);have:=OM h hnd heo q1 uD;simp only[G,this]
     .rename_i hin;exact old l[b] hln hy λe=>hin ⟨e.2.1,e.2.2⟩
    .rename_i hkm;exact old z hz hy λe=>hkm e.1.symm)
  (λd hd=>by subst hX T;simp only[O.names]at hd;simp only[St.aJ,List.contains_nil,Ka];exact h.uo g d (by rw[K];exact hh3 d hd))
 exact⟨_,m1,m2⟩
theorem Rel.gather(h:Rel E st gh val w)(S:Nat->Prop)(hd:st.used g=zv)(a i:Bool)(sz:Nat)(au:List (Nat×Nat))(l:List (List P))(G:Gh)(st':St)(w':World)
  (hs:st'.s=st.s) (hod:st'.o g=.aO a i sz au l zz) (hoS :∀d,S d->d≠g->st'.o d=.none) (BN :∀d,¬ S d->d≠g->st'.o d=st.o d) (hus :∀d,st.used d=zj->st'.used d=zj) (hud:st'.used g=zj)
  {ad:Addr} {c:Array Value} {ty:TypeId} (L:G.ad=zw ad) (hsp:ad.spot=zz) (hc:w'.heap[ad.block]?=zw (.cells c ty (0,0))) (hcs:ad.off+G.cap*sz<=c.size) (M:l.length<=G.cap/\G.cap<=9223372036854775807) (N :∀x∈l,x.length=sz)
  (z:G.sub ad.block=zz) (B :∀b,(G.sub b).isSome=zj->(∃d,S d/\(st.o d).cO=zj/\(gh d).has b)/\∃c e f,w.heap[b]?=zw (.cells c e f))
  (T:(∃d,S d/\(st.o d).cO=zj/\(gh d).has ad.block)\/(w.heap.size<=ad.block/\ad.block<w'.heap.size))
  (hw :∀b,b<w.heap.size->b≠ad.block->w'.heap[b]?=w.heap[b]?) (hsz:w.heap.size<=w'.heap.size) (hos:w'.os=w.os) (J:w'.tape=w.tape) (U:w'.output=w.output)
  (hwi :∀d i1,S d->(st.o d).inner=zw i1->i1=zj->i=zj) (hSi :∀d,S d->(st.o d).cO=zj->∃i1,(st.o d).inner=zw i1)
  (K :∀(n:Nat) x,l[n]?=zw x->∀(j:Nat) y,x[j]?=zw y->∃v,c[ad.off+n*sz+j]?=zw v/\match au.lookup j with
   |none=>dH w (E.ok st gh w a i) y v
   |some s=>Bc E st gh w a i G s n j y v) :
  Rel E st' (fZ gh g G) val w'/\Lets E st st' gh (fZ gh g G) w w':=by
 have X :∀b,(∃d,S d/\(st.o d).cO=zj/\(gh d).has b)->b<w.heap.size:=λb ⟨d,_,h1,h2⟩=>(h.wr d b h1 h2).2;have H :∀b,G.has b->(∃d,S d/\(st.o d).cO=zj/\(gh d).has b)\/(w.heap.size<=b/\b<w'.heap.size):=by
  rintro b (⟨ad',q1,q2⟩|q1)
  .rw [L]at q1;cases q1;rw[<-q2];exact T
  .exact .inl (B b q1).1
 refine h.merge S g (.aO a i sz au l zz) G st' w' hs hod hoS BN hus hud (λhu=>by rw[hd]at hu;cases hu)
  (λb m=>(H b m).imp (λ⟨d,q1,q2⟩=>⟨d,.inl q1,q2⟩) id)
  (λb m hno=>hw b m λe=>by rcases T with⟨d,q1,q2,q3⟩|q;exact hno d (.inl q1) q2 (e▸q3);omega)
  hsz hos J U (λi1 b e1 m Y=>by
   cases e1;rcases H b m with⟨d,q1,q2,q3⟩|q
   .obtain ⟨i1,e1⟩:=hSi d q1 q2;exact hwi d i1 q1 e1 (h.wi d i1 b e1 q3 Y)
   .have:=h.wb _ Y;have:=h.size;omega)
  (λ_ e=>by cases e) (λhl=>?_) (λd hg=>by simp[O.names,dN]at hg)
 have Z :∀b,(G.sub b).isSome=zj->w'.heap[b]?=w.heap[b]?:=λb m=>hw b (X b (B b m).1) λe=>by rw[e,z]at m;cases m
 refine .inr ⟨ad,c,ty,L,hsp,hc,hcs,M,N,⟨z,λb m=>by rw[Z b m];exact(B b m).2⟩,λn x hx j y hy=>?_⟩;obtain⟨v,hv,hr⟩:=K n x hx j y hy;refine⟨v,hv,?_⟩;unfold jr;cases hcj:au.lookup j with
 |none=>rw[hcj]at hr;exact hl.lU hr
 |some s=>rw[hcj]at hr;obtain⟨l',ao,k,q1,q2,q3,q4⟩:=hr;exact⟨l',ao,k,q1,q2,hl.Dy (λDJ uD=>Z _ (by rw[q4 DJ uD];rfl)) q3,q4⟩
theorem PartOf.apD(h:Rel E st gh val w){es:List (Nat×Nat)}(u:PartOf st gh i a es g n y v)(m :∀p∈es,p.1=n->∀ad,(gh p.2).ad=zw ad->G.sub ad.block=zw (b,j)):Bc E st gh w i a G g b j y v:=by
 obtain⟨d,rfl,u⟩:=u;rcases u with⟨q1,rfl⟩|⟨e,z,i1,q1,q2,q3,q4,q5⟩
 .exact ⟨[],zz,0,rfl,q1,.inl ⟨rfl,rfl,rfl⟩,λs c=>by cases c⟩
 .have B:jq E st gh w z i1 g d (gh e):=by have:=h.bI e;rw[q2]at this;exact this
  exact⟨d,(gh e).ad,(gh e).cap,rfl,q5,(B.cls q3 q4).sub rfl rfl,λs c=>m (n,e) q1 rfl s c⟩
theorem jr.oneCell(h:jr E st gh w i a G q s g n y v):v.oneCell'=zj:=by unfold jr at h;split at h;exact h.oneCell;split at h;exact h.1;obtain⟨b,c,k,_,rfl,_⟩:=h;rfl
theorem BQ{Pg:Program}(h:lT E st gh w i a g q l s G)(m:Nat)(hm:m<=l.length):
  ∃cs:List Value,(Builtin.firstCells g m (.slice G.ad m G.cap)).run Pg w=.ok cs.toArray w/\cs.length=m*g/\(∀c∈cs,c.oneCell'=zj)/\(∀x∈l,x.length=g)/\
   ∀(n:Nat) x,n<m->l[n]?=zw x->∀(j:Nat) y,x[j]?=zw y->∃u,cs[n*g+j]?=zw u/\jr E st gh w i a G q s n j y u:=by
 rcases h with⟨J,_,B,_⟩|⟨ad,c,e,J,X,B,h4,h5,K,h7,L⟩
 .subst B;have:m=0:=by simpa using hm
  subst this;exact⟨[],by rw[J];simp[Builtin.firstCells],by simp,by simp,by simp,by simp⟩
 .obtain ⟨b,o,sp⟩:=ad;simp only at X B h4 L;subst X;have hle:m*g<=G.cap*g:=W0 _ (by omega);have key :∀k,k<m*g->∃u,c[o+k]?=zw u/\u.oneCell'=zj:=by
   intro k H;have sz:0<g:=by rcases qd g with e|e;(subst e;simp at H);exact e
   have hq:k/g<m:=(Nat.div_lt_iff_lt_mul sz).2 H;have hr:=Q2 (show k/g<l.length by omega);have M:k % g<(l[k/g]).length:=by rw[K _ (X2 _)];exact Nat.mod_lt _ sz
   obtain⟨u,hu,N⟩:=L (k/g) _ hr (k % g) _ (Q2 M);refine⟨u,?_,N.oneCell⟩;rw[<-hu];have:o+k/g*g+k % g=o+k:=by have:=Nat.div_add_mod k g;rw[qf]at this;omega
   rw[this]
  have d :∀k,w.cell? ⟨b,o+k,zz⟩=c[o+k]?:=λk=>by simp[World.cell?,B]
  have hole :∀j,j<m*g->w.cell? ⟨b,o+j,zz⟩=((List.range (m*g)).map λk=>(w.cell? ⟨b,o+k,zz⟩).getD undef)[j]?:=by intro j z;obtain⟨u,hu,_⟩:=key j z;simp[Z0,qD z,d,hu]
  refine⟨(List.range (m*g)).map λk=>(w.cell? ⟨b,o+k,zz⟩).getD undef,?_,by simp,λu hu=>?_,K,λn x T Y j y Z=>?_⟩
  .have:=nV (Pg:=Pg) (w:=w) ⟨b,o,zz⟩ ((List.range (m*g)).map λk=>(w.cell? ⟨b,o+k,zz⟩).getD undef) (m*g) 0 #[] (λj z=>by rw[Addr.ji,Vi];exact hole j z) (by simp)
   rw[J];simp only[Builtin.firstCells,loadCells];rw[this];congr 1;rw[WN (by simp)];simp
  .simp only[XN,Uq]at hu;obtain⟨k,H,rfl⟩:=hu;obtain⟨u,hu,ho⟩:=key k H;rw[d,hu];exact ho
  .obtain ⟨u,hu,N⟩:=L n x Y j y Z;have U:n*g+j<m*g:=by
    have z:j<g:=by have:=(Q3.1 Z).1;have:=K x (Z1 Y);omega
    have:(n+1)*g<=m*g:=W0 _ T;rw[WK,KK]at this;omega
   exact⟨u,by rw[<-hole _ U,d,<-J1];exact hu,N⟩
end
end Go.Fw

