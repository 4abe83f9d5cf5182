/-
  LinkFinds: the law returns true for every input, and changes no input. No condition.
  (The frame of this text follows the kit's template.)
-/
import Derived.Test.YtoipcimfapppmaaGreatDoorCards
import Derived.Test.YtoipcimfapppmaaGreatDoorTie
import Derived.Test.YtoipcimfapppmaaGreatDoorLb
import Derived.Test.YtoipcimfapppmaaGreatDoorZd
import Derived.WalkKit
import Derived.ProofKit
import Derived.OpenShut
import Derived.ShutString
import Derived.ChangeOld
import Derived.Below
import Derived.Lay
import Derived.LaidMore
import Derived.SevenTiedAt
import Derived.Stop.Joined
namespace Go.Proofs.YtoipcimfapppmaaGreatDoor.linkFinds
open Go.Fg Go.Fg.YtoipcimfapppmaaGreatDoor
open Go.ChangeShapes Go.WideShapes Go.ChangeAt Go.RowKit
open Go.ChangeMaps (open_string shut_string)
set_option linter.unusedVariables false
theorem own:ownKnob Tryz.prog.godebug=none:=by kernel_rfl
theorem laidOut:laidOutB Tryz.prog=true:=by kernel_rfl
def Qq(k:IntKind)(w:World)(a:Option Addr)(len cap:Nat)(zs:List Int):Prop:=
 (a=none/\len=0/\cap=0/\zs=[])\/
 ∃x,a=some x/\len<=cap/\cap<=maxLen/\zs.length=cap/\(∀i,i<zs.length->w.cell? (x.add i)=some (.int k (zs.getD i 0)))/\∀n∈zs,(Lit.int k n).wf=true
theorem Qq.row{k:IntKind}{w:World}{a:Option Addr}{len cap:Nat}{zs:List Int}(h:Qq k w a len cap zs):
  (a=none/\len=0/\cap=0/\zs=[])\/∃x,a=some x/\len<=cap/\zs.length=cap/\∀i,i<zs.length->w.cell? (x.add i)=some (.int k (zs.getD i 0)):=by
 rcases h with h|⟨x,h0,h1,h2,h3,h4,h5⟩
 .exact .inl h
 .exact .inr ⟨x,h0,h1,h3,h4⟩
theorem Qq.nums{k:IntKind}{w:World}{a:Option Addr}{len cap:Nat}{zs:List Int}(h:Qq k w a len cap zs):(zs.take len).length<=9223372036854775807/\∀n∈zs.take len,(Lit.int k n).wf=true:=by
 rcases h with⟨_,_,_,rfl⟩|⟨x,h0,h1,h2,h3,h4,h5⟩
 .exact ⟨by simp,by simp⟩
 .refine ⟨?_,λy hy=>h5 y (List.mem_of_mem_take hy)⟩
  have:maxLen=9223372036854775807:=rfl
  simp;omega
theorem walk(w:World)(hw:Fw.GV w)(a0:Option Addr)(len0 cap0:Nat)(z0:List Int)(a1:Int)(w1:(Lit.int .i64 a1).wf=true)(a2:Int)(w2:(Lit.int .i64 a2).wf=true)(a3:Int)(w3:(Lit.int .i64 a3).wf=true)(w0:Qq .u8 w a0 len0 cap0 z0):
  Calls Tryz.prog 5 #[.slice a0 len0 cap0,.int .i64 a1,.int .i64 a2,.int .i64 a3] w λe w'=>e=.returned (.bool true)/\Below w.heap.size w w':=by
 have hb0:Bytes (z0.take len0):=by
  refine⟨w0.nums.1,λy hy=>?_⟩
  have:=w0.nums.2 y hy
  simpa[Lit.wf,IntKind.min,IntKind.max,IntKind.signed,IntKind.bits]using this
 refine Fw.acY (vals:=[.slice a0 len0 cap0,.int .i64 a1,.int .i64 a2,.int .i64 a3]) (sp:=sp5.er) (ins:=(Tup.mQ sp5.sig.pin.tys ((z0.take len0,(a1,(a2,a3))):Tup sp5.sig.pin.tys)).map dL) aoI rfl rfl rfl rfl hw ⟨(z0.take len0,(a1,(a2,a3))),true,ahV hb0,rfl,rfl⟩ λt=>?_
 match t with
 |0=>exact Fw.dU.ofP (ajg (aqf rfl _ _ _) w0.row)
 |1=>exact Fw.dU.ofP (Nk .i64 a1)
 |2=>exact Fw.dU.ofP (Nk .i64 a2)
 |3=>exact Fw.dU.ofP (Nk .i64 a3)
 |_+4=>exact .no _
theorem glob{w:World}(h:laidMetH Tryz.prog [("warmpath/machine.rows",Rows.laid_warmpath_machine_rows)] w):Fw.GV w:=by
 rw[MakeChecks.laidMetH_plain _ _ _ (by kernel_rfl)]at h
 refine Nl (bs:=Np) (g:=0) (t:=111) (n:=19) (e:=9) (by kernel_rfl) (by kernel_rfl) Tryz.underlying111 Tryz.underlying9 (by kernel_rfl) rfl (λg' sz rows hg=>?_) h
 match g',hg with
 |0,hg=>
  obtain⟨rfl,rfl⟩:=Prod.mk.inj (Option.some.inj hg)
  exact⟨rfl,rfl,rfl⟩
 |k+1,hg=>cases hg
set_option maxRecDepth 100000 in
theorem lifted(os:Os)(started:os.Started)(H:Type)(enc:TypeId×Value->H):
  ReturnsInHanded {} Tryz.checked os 5 .any (λw args=>(Rows.linkFindsSpec.pre enc Tryz.prog Tryz.f5 Rows.linkFindsRow.domain false w args/\laidMetH Tryz.prog [("warmpath/machine.rows",Rows.laid_warmpath_machine_rows)] w)/\sizedMet enc Tryz.prog Tryz.f5 (OpenSpec.ofChange Rows.linkFindsSpec) false w args) (Rows.linkFindsSpec.post enc Tryz.prog Tryz.f5 false true false false):=by
 refine returnsInHanded_of_change_and (C:=Tryz.checked) (X:=λw _=>laidMetH Tryz.prog [("warmpath/machine.rows",Rows.laid_warmpath_machine_rows)] w) (λ_ _ _ hh h=>h.of_heap hh) own started (by kernel_rfl) Tryz.func5
  (ChangeSpec.witness_shaped (enc:=enc) (C:=Tryz.checked) (os:=os) (X:=λw _=>laidMetH Tryz.prog [("warmpath/machine.rows",Rows.laid_warmpath_machine_rows)] w) false (World.laidAll Tryz.prog os [("warmpath/machine.rows",Rows.laid_warmpath_machine_rows)]) #[.slice none 0 0,.int .i64 0,.int .i64 0,.int .i64 0] 8 (World.laidAll_os _ _ _)
   (World.shaped_of_ZipB (by kernel_rfl) (by kernel_rfl)) (by kernel_rfl) (by kernel_rfl) (by kernel_rfl)
   (by rw[MakeChecks.laidMetH_plain _ _ _ (by kernel_rfl)];exact laidMet_laidAll _ (by kernel_rfl) (by kernel_rfl))) ?_
 intro W base args ds gs before hval0 hW hcnd _ hL _
 have hval :∀(j:Nat) t v,Tryz.f5.params[j]?=some t->args[j]?=some v->Value.okWide Tryz.prog W .any base t v:=hval0
 have hW':=hW
 obtain⟨p,q,hA0,hV,rfl,hfz,hnd⟩:=hW
 have hA:DataW.TrodAll enc Tryz.prog W 0 (λ_=>true) true Tryz.f5.params.toList args.toList ds p:=hA0
 rw[Tryz.params5]at hA hval
 obtain⟨v0,vs0,d0,ds0,p0,q0,hargs,rfl,rfl,h0,r0⟩:=trodAll_cons hA
 obtain⟨v1,vs1,d1,ds1,p1,q1,rfl,rfl,rfl,h1,r1⟩:=trodAll_cons r0
 obtain⟨v2,vs2,d2,ds2,p2,q2,rfl,rfl,rfl,h2,r2⟩:=trodAll_cons r1
 obtain⟨v3,vs3,d3,ds3,p3,q3,rfl,rfl,rfl,h3,r3⟩:=trodAll_cons r2
 obtain⟨rfl,rfl,rfl⟩:=trodAll_nil r3
 obtain rfl:args=#[v0,v1,v2,v3]:=by cases args;exact congrArg Array.mk hargs
 obtain⟨rfl,rfl⟩:=trodVars_none hV
 obtain⟨a0,len0,cap0,rfl⟩:=okWide_slice Tryz.underlying22 (hval 0 22 v0 rfl rfl)
 have k0:=h0
 have lt0 :∀x∈p0,x.block<W.heap.size:=by obtain⟨m,hm⟩:=k0;exact DataW.trod_lt m _ _ _ hm
 obtain⟨z0,w0⟩ :∃zs,Qq .u8 W a0 len0 cap0 zs:=by
  obtain⟨fuel,hf⟩:=h0
  rcases open_ints Tryz.underlying22 Tryz.underlying5 (by kernel_rfl) hf with⟨hcs,_⟩|⟨x,l,c,zs,hcs,_,hl,hm,hz,_,hcell,hwz⟩
  .simp [Value.cells]at hcs
   obtain⟨rfl,rfl,rfl⟩:=hcs
   exact⟨[],.inl ⟨rfl,rfl,rfl,rfl⟩⟩
  .simp [Value.cells]at hcs
   obtain⟨rfl,rfl,rfl⟩:=hcs
   exact⟨zs,.inr ⟨_,rfl,hl,hm,by simpa using hz,hcell,hwz⟩⟩
 obtain⟨a1,rfl,rfl,rfl,w1⟩:=open_int Tryz.underlying3 (hval 1 3 v1 rfl rfl) h1
 obtain⟨a2,rfl,rfl,rfl,w2⟩:=open_int Tryz.underlying3 (hval 2 3 v2 rfl rfl) h2
 obtain⟨a3,rfl,rfl,rfl,w3⟩:=open_int Tryz.underlying3 (hval 3 3 v3 rfl rfl) h3
 clear hA0 hval0
 refine(walk W (glob hL) a0 len0 cap0 z0 a1 w1 a2 w2 a3 w3 w0).mono λe W' ⟨he,bel⟩=>?_
 subst he
 exact⟨_,rfl,_,_,_,[],_,[],hW',trodAll_mk1 (shut_bool Tryz.underlying4 _),(trodAll_cons_mk (Below.trod laidOut (by kernel_rfl) (of_decide_eq_true (by kernel_rfl)) k0 bel lt0) (trodAll_cons_mk (shut_int Tryz.underlying3 w1) (trodAll_cons_mk (shut_int Tryz.underlying3 w2) (trodAll_cons_mk (shut_int Tryz.underlying3 w3) trodAll_mk0)))),rfl,bel.frame _,λh=>by cases h⟩
theorem over:Rows.linkFindsRow.holds Tryz.pinned (OpenSpec.ofChange Rows.linkFindsSpec):=
 OpenClaim.holds_of_wide 5 Tryz.f5 rfl rfl rfl rfl rfl rfl rfl ⟨rfl,rfl,rfl,rfl,rfl⟩ rfl rfl rfl rfl rfl (by kernel_rfl) Tryz.func5 (by kernel_rfl)
  (of_decide_eq_true (by kernel_rfl)) (by unfold Func.isWrapper;first|(rw[if_pos (by decide +kernel)];kernel_rfl)|(rw[if_neg (by decide +kernel)];exact⟨rfl,rfl⟩))
  (λos started H enc _=>lifted os started H enc)
theorem proved:Rows.LinkFindsCardSaid:=
 Claim7.holds_tied_plain_at .later [] [.data] true (true, "f3bd2cef84a5642b5b7429277e0b655e4946e79fe77072a69549d28571a62d4f") false over (λ_ h=>by cases h) (by kernel_rfl) (λ_ h=>by cases h) linkFinds_row_tie rfl ⟨rfl,rfl⟩ (by kernel_rfl) rfl
  (λf fn hf hfn=>by
   obtain rfl:f=5:=Option.some.inj ((show Tryz.prog.funcNamed "warmpath/warmpathlaw14.LinkFinds" = some 5 by kernel_rfl).symm.trans hf) |>.symm
   obtain rfl:fn=Tryz.f5:=(Option.some.inj (Tryz.func5.symm.trans hfn)).symm
   exact⟨by kernel_rfl,λj t ht=>by
    rw[Tryz.params5]at ht
    have hm:t∈[22,3,3,3]:=by simpa using Array.mem_of_getElem? ht
    have hall:([22,3,3,3].all λu=>!Tryz.prog.wantsStandIn u)=true:=by kernel_rfl
    exact(show Tryz.prog.wantsStandIn t=false by simpa using List.all_eq_true.1 hall t hm)⟩)
  (by kernel_rfl)
#print axioms proved
end Go.Proofs.YtoipcimfapppmaaGreatDoor.linkFinds

