/-
  LinkOrders: the law returns true for every input, and changes no input. No condition.
  (The frame of this text follows the kit's template.)
-/
import Derived.Test.YtoipcimfapppmaaGreatDoorCards
import Derived.Test.YtoipcimfapppmaaGreatDoorTie
import Derived.Test.YtoipcimfapppmaaGreatDoorLb
import Derived.Test.YtoipcimfapppmaaGreatDoorZd
import Derived.WalkKit
import Derived.ProofKit
import Derived.OpenShut
import Derived.ShutString
import Derived.ChangeOld
import Derived.Below
import Derived.Lay
import Derived.LaidMore
import Derived.SevenTiedAt
import Derived.Stop.Joined
namespace Go.Proofs.YtoipcimfapppmaaGreatDoor.linkOrders
open Go.Fg Go.Fg.YtoipcimfapppmaaGreatDoor
open Go.ChangeShapes Go.WideShapes Go.ChangeAt Go.RowKit
open Go.ChangeMaps (open_string shut_string)
set_option linter.unusedVariables false

theorem own: ownKnob Tryz.prog.godebug = none :=by kernel_rfl
theorem laidOut: laidOutB Tryz.prog = true :=by kernel_rfl

/-- A slice of integers that came in. -/
def Qc(k : IntKind)(w : World)(a : Option Addr)(len cap : Nat)(zs : List Int): Prop :=
  (a = none /\ len = 0 /\ cap = 0 /\ zs = []) \/
  ∃ x, a = some x /\ len <= cap /\ cap <= maxLen /\ zs.length = cap /\ (∀ i, i < zs.length -> w.cell? (x.add i) = some (.int k (zs.getD i 0))) /\ ∀ n ∈ zs, (Lit.int k n).wf = true
theorem Qc.row{k : IntKind}{w : World}{a : Option Addr}{len cap : Nat}{zs : List Int}(h : Qc k w a len cap zs):
    (a = none /\ len = 0 /\ cap = 0 /\ zs = []) \/ ∃ x, a = some x /\ len <= cap /\ zs.length = cap /\ ∀ i, i < zs.length -> w.cell? (x.add i) = some (.int k (zs.getD i 0)) :=by
  rcases h with h|⟨x, h0, h1, h2, h3, h4, h5⟩
  · exact .inl h
  · exact .inr ⟨x, h0, h1, h3, h4⟩
theorem Qc.nums{k : IntKind}{w : World}{a : Option Addr}{len cap : Nat}{zs : List Int}(h : Qc k w a len cap zs): (zs.take len).length <= 9223372036854775807 /\ ∀ n ∈ zs.take len, (Lit.int k n).wf = true :=by
  rcases h with⟨_, _, _, rfl⟩|⟨x, h0, h1, h2, h3, h4, h5⟩
  · exact⟨by simp, by simp⟩
  · refine⟨?_, λy hy=>h5 y (List.mem_of_mem_take hy)⟩
    have : maxLen = 9223372036854775807 :=rfl
    simp; omega

theorem walk(w : World)(hw : Fw.Gv w)(a0 : Option Addr)(len0 cap0 : Nat)(z0 : List Int)(w0 : Qc .u8 w a0 len0 cap0 z0):
    Calls Tryz.prog 4 #[.slice a0 len0 cap0] w λe w'=>e = .returned (.bool true) /\ Below w.heap.size w w' :=by
  have hb0 : Bytes (z0.take len0) :=by
    refine⟨w0.nums.1, λy hy=>?_⟩
    have :=w0.nums.2 y hy
    simpa[Lit.wf, IntKind.min, IntKind.max, IntKind.signed, IntKind.bits]using this
  refine Fw.acF (vals :=[.slice a0 len0 cap0]) (sp :=sp4.er) (ins :=(Tup.m_ sp4.sig.pin.tys (z0.take len0 : Tup sp4.sig.pin.tys)).map dH) anY rfl rfl rfl rfl hw ⟨z0.take len0, true, adv hb0, rfl, rfl⟩ λt=>?_
  match t with
  | 0=>exact Fw.dR.ofP (aiP (apB rfl _ _ _) w0.row)
  | _ + 1=>exact .no _

/-- What the row lists, as the table of the texts. -/
theorem glob{w : World}(h : laidMetH Tryz.prog [("warmpath/machine.rows", Rows.laid_warmpath_machine_rows)] w): Fw.Gv w :=by
  rw[MakeChecks.laidMetH_plain _ _ _ (by kernel_rfl)]at h
  refine MZ (bs :=M_) (g :=0) (t :=111) (n :=19) (e :=9) (by kernel_rfl) (by kernel_rfl) Tryz.underlying111 Tryz.underlying9 (by kernel_rfl) rfl (λg' sz rows hg=>?_) h
  match g', hg with
  | 0, hg=>
    obtain⟨rfl, rfl⟩ :=Prod.mk.inj (Option.some.inj hg)
    exact⟨rfl, rfl, rfl⟩
  | k + 1, hg=>cases hg

set_option maxRecDepth 100000 in
theorem lifted(os : Os)(started : os.Started)(H : Type)(enc : TypeId × Value -> H):
    ReturnsInHanded {} Tryz.checked os 4 .any (λw args=>(Rows.linkOrdersSpec.pre enc Tryz.prog Tryz.f4 Rows.linkOrdersRow.domain false w args /\ laidMetH Tryz.prog [("warmpath/machine.rows", Rows.laid_warmpath_machine_rows)] w) /\ sizedMet enc Tryz.prog Tryz.f4 (OpenSpec.ofChange Rows.linkOrdersSpec) false w args) (Rows.linkOrdersSpec.post enc Tryz.prog Tryz.f4 false true false false) :=by
  refine returnsInHanded_of_change_and (C :=Tryz.checked) (X :=λw _=>laidMetH Tryz.prog [("warmpath/machine.rows", Rows.laid_warmpath_machine_rows)] w) (λ_ _ _ hh h=>h.of_heap hh) own started (by kernel_rfl) Tryz.func4
    (ChangeSpec.witness_shaped (enc :=enc) (C :=Tryz.checked) (os :=os) (X :=λw _=>laidMetH Tryz.prog [("warmpath/machine.rows", Rows.laid_warmpath_machine_rows)] w) false (World.laidAll Tryz.prog os [("warmpath/machine.rows", Rows.laid_warmpath_machine_rows)]) #[.slice none 0 0] 8 (World.laidAll_os _ _ _)
      (World.shaped_of_ZipB (by kernel_rfl) (by kernel_rfl)) (by kernel_rfl) (by kernel_rfl) (by kernel_rfl)
      (by rw[MakeChecks.laidMetH_plain _ _ _ (by kernel_rfl)]; exact laidMet_laidAll _ (by kernel_rfl) (by kernel_rfl))) ?_
  intro W base args ds gs before hval0 hW hcnd _ hL _
  have hval : ∀ (j : Nat) t v, Tryz.f4.params[j]? = some t -> args[j]? = some v -> Value.okWide Tryz.prog W .any base t v :=hval0
  have hW' :=hW
  obtain⟨p, q, hA0, hV, rfl, hfz, hnd⟩ :=hW
  have hA : DataW.TrodAll enc Tryz.prog W 0 (λ_=>true) true Tryz.f4.params.toList args.toList ds p :=hA0
  rw[Tryz.params4]at hA hval
  obtain⟨v0, vs0, d0, ds0, p0, q0, hargs, rfl, rfl, h0, r0⟩ :=trodAll_cons hA
  obtain⟨rfl, rfl, rfl⟩ :=trodAll_nil r0
  obtain rfl : args = #[v0] :=by cases args; exact congrArg Array.mk hargs
  obtain⟨rfl, rfl⟩ :=trodVars_none hV
  obtain⟨a0, len0, cap0, rfl⟩ :=okWide_slice Tryz.underlying22 (hval 0 22 v0 rfl rfl)
  have k0 :=h0
  have lt0 : ∀ x ∈ p0, x.block < W.heap.size :=by obtain⟨m, hm⟩ :=k0; exact DataW.trod_lt m _ _ _ hm
  obtain⟨z0, w0⟩ : ∃ zs, Qc .u8 W a0 len0 cap0 zs :=by
    obtain⟨fuel, hf⟩ :=h0
    rcases open_ints Tryz.underlying22 Tryz.underlying5 (by kernel_rfl) hf with⟨hcs, _⟩|⟨x, l, c, zs, hcs, _, hl, hm, hz, _, hcell, hwz⟩
    · simp[Value.cells]at hcs
      obtain⟨rfl, rfl, rfl⟩ :=hcs
      exact⟨[], .inl ⟨rfl, rfl, rfl, rfl⟩⟩
    · simp[Value.cells]at hcs
      obtain⟨rfl, rfl, rfl⟩ :=hcs
      exact⟨zs, .inr ⟨_, rfl, hl, hm, by simpa using hz, hcell, hwz⟩⟩
  clear hA0 hval0
  refine(walk W (glob hL) a0 len0 cap0 z0 w0).mono λe W' ⟨he, bel⟩=>?_
  subst he
  exact⟨_, rfl, _, _, _, [], _, [], hW', trodAll_mk1 (shut_bool Tryz.underlying4 _), (trodAll_cons_mk (Below.trod laidOut (by kernel_rfl) (of_decide_eq_true (by kernel_rfl)) k0 bel lt0) trodAll_mk0), rfl, bel.frame _, λh=>by cases h⟩

theorem over: Rows.linkOrdersRow.holds Tryz.pinned (OpenSpec.ofChange Rows.linkOrdersSpec) :=
  OpenClaim.holds_of_wide 4 Tryz.f4 rfl rfl rfl rfl rfl rfl rfl ⟨rfl, rfl, rfl, rfl, rfl⟩ rfl rfl rfl rfl rfl (by kernel_rfl) Tryz.func4 (by kernel_rfl)
    (of_decide_eq_true (by kernel_rfl)) (by unfold Func.isWrapper; first|(rw[if_pos (by decide +kernel)]; kernel_rfl)|(rw[if_neg (by decide +kernel)]; exact⟨rfl, rfl⟩))
    (λos started H enc _=>lifted os started H enc)

/-- THE STATEMENT: the tied card. -/
theorem proved: Rows.LinkOrdersCardSaid :=
  Claim7.holds_tied_plain_at .later [] [.data] true (true, "f3bd2cef84a5642b5b7429277e0b655e4946e79fe77072a69549d28571a62d4f") false over (λ_ h=>by cases h) (by kernel_rfl) (λ_ h=>by cases h) linkOrders_row_tie rfl ⟨rfl, rfl⟩ (by kernel_rfl) rfl
    (λf fn hf hfn=>by
      obtain rfl : f = 4 :=Option.some.inj ((show Tryz.prog.funcNamed "warmpath/warmpathlaw14.LinkOrders" = some 4 by kernel_rfl).symm.trans hf) |>.symm
      obtain rfl : fn = Tryz.f4 :=(Option.some.inj (Tryz.func4.symm.trans hfn)).symm
      exact⟨by kernel_rfl, λj t ht=>by
        rw[Tryz.params4]at ht
        have hm : t ∈ [22] :=by simpa using Array.mem_of_getElem? ht
        have hall : ([22].all λu=> !Tryz.prog.wantsStandIn u) = true :=by kernel_rfl
        exact(show Tryz.prog.wantsStandIn t = false by simpa using List.all_eq_true.1 hall t hm)⟩)
    (by kernel_rfl)
#print axioms proved
end Go.Proofs.YtoipcimfapppmaaGreatDoor.linkOrders

