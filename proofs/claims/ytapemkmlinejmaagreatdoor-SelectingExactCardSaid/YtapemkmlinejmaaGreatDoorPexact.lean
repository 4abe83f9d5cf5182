/-
  SelectingExact: the law returns true for every input, and changes no input. No condition.
  (The frame of this text follows the kit's template.)
-/
import Derived.Test.YtapemkmlinejmaaGreatDoorCards
import Derived.Test.YtapemkmlinejmaaGreatDoorTie
import Derived.Test.YtapemkmlinejmaaGreatDoorLb
import Derived.Test.YtapemkmlinejmaaGreatDoorZd
import Derived.WalkKit
import Derived.ProofKit
import Derived.OpenShut
import Derived.ShutString
import Derived.ChangeOld
import Derived.Below
import Derived.Lay
import Derived.LaidMore
import Derived.SevenTiedAt
import Derived.Stop.Joined
namespace Go.Proofs.YtapemkmlinejmaaGreatDoor.selectingExact
open Go.Fg Go.Fg.YtapemkmlinejmaaGreatDoor
open Go.ChangeShapes Go.WideShapes Go.ChangeAt Go.RowKit
open Go.ChangeMaps (open_string shut_string)
set_option linter.unusedVariables false

theorem own : ownKnob Tryz.prog.godebug = none := by kernel_rfl
theorem laidOut : laidOutB Tryz.prog = true := by kernel_rfl

/-- A slice of integers that came in. -/
def Gu (k : IntKind) (w : World) (a : Option Addr) (len cap : Nat) (zs : List Int) : Prop :=
  (a = none /\ len = 0 /\ cap = 0 /\ zs = []) \/
  ∃ x, a = some x /\ len <= cap /\ cap <= maxLen /\ zs.length = cap /\ (∀ i, i < zs.length -> w.cell? (x.add i) = some (.int k (zs.getD i 0))) /\ ∀ n ∈ zs, (Lit.int k n).wf = true
theorem Gu.row {k : IntKind} {w : World} {a : Option Addr} {len cap : Nat} {zs : List Int} (h : Gu k w a len cap zs) :
    (a = none /\ len = 0 /\ cap = 0 /\ zs = []) \/ ∃ x, a = some x /\ len <= cap /\ zs.length = cap /\ ∀ i, i < zs.length -> w.cell? (x.add i) = some (.int k (zs.getD i 0)) := by
  rcases h with h | ⟨x, h0, h1, h2, h3, h4, h5⟩
  · exact .inl h
  · exact .inr ⟨x, h0, h1, h3, h4⟩
theorem Gu.nums {k : IntKind} {w : World} {a : Option Addr} {len cap : Nat} {zs : List Int} (h : Gu k w a len cap zs) : (zs.take len).length <= 9223372036854775807 /\ ∀ n ∈ zs.take len, (Lit.int k n).wf = true := by
  rcases h with ⟨_, _, _, rfl⟩ | ⟨x, h0, h1, h2, h3, h4, h5⟩
  · exact ⟨by simp, by simp⟩
  · refine ⟨?_, fun y hy => h5 y (List.mem_of_mem_take hy)⟩
    have : maxLen = 9223372036854775807 := rfl
    simp; omega

theorem walk (w : World) (hw : Fw.EI w) (a0 : Option Addr) (len0 cap0 : Nat) (z0 : List Int) (a1 : Option Addr) (len1 cap1 : Nat) (z1 : List Int) (w0 : Gu .u8 w a0 len0 cap0 z0) (w1 : Gu .i64 w a1 len1 cap1 z1) :
    Calls Tryz.prog 4 #[.slice a0 len0 cap0, .slice a1 len1 cap1] w fun e w' => e = .returned (.bool true) /\ Below w.heap.size w w' := by
  have hb0 : Bytes (z0.take len0) := by
    refine ⟨w0.nums.1, fun y hy => ?_⟩
    have := w0.nums.2 y hy
    simpa [Lit.wf, IntKind.min, IntKind.max, IntKind.signed, IntKind.bits] using this
  refine Fw.aac (vals := [.slice a0 len0 cap0, .slice a1 len1 cap1]) (sp := sp4.er) (ins := (Tup.lW sp4.sig.pin.tys ((z0.take len0, z1.take len1) : Tup sp4.sig.pin.tys)).map dB) akx rfl rfl rfl rfl hw ⟨(z0.take len0, z1.take len1), true, aeQ hb0, rfl, rfl⟩ fun t => ?_
  match t with
  | 0 => exact Fw.dL.ofP (XV (ahS rfl _ _ _) w0.row)
  | 1 => exact Fw.dL.ofP (XV (ahS rfl _ _ _) w1.row)
  | _ + 2 => exact .no _

/-- What the row lists, as the table of the texts. -/
theorem glob {w : World} (h : laidMetH Tryz.prog [("warmpath/machine.rows", Rows.laid_warmpath_machine_rows)] w) : Fw.EI w := by
  rw [MakeChecks.laidMetH_plain _ _ _ (by kernel_rfl)] at h
  refine J9 (bs := Lj) (g := 0) (t := 105) (n := 19) (e := 9) (by kernel_rfl) (by kernel_rfl) Tryz.underlying105 Tryz.underlying9 (by kernel_rfl) rfl (fun g' sz rows hg => ?_) h
  match g', hg with
  | 0, hg =>
    obtain ⟨rfl, rfl⟩ := Prod.mk.inj (Option.some.inj hg)
    exact ⟨rfl, rfl, rfl⟩
  | k + 1, hg => cases hg

set_option maxRecDepth 100000 in
theorem lifted (os : Os) (started : os.Started) (H : Type) (enc : TypeId × Value -> H) :
    ReturnsInHanded {} Tryz.checked os 4 .any (fun w args => (Rows.selectingExactSpec.pre enc Tryz.prog Tryz.f4 Rows.selectingExactRow.domain false w args /\ laidMetH Tryz.prog [("warmpath/machine.rows", Rows.laid_warmpath_machine_rows)] w) /\ sizedMet enc Tryz.prog Tryz.f4 (OpenSpec.ofChange Rows.selectingExactSpec) false w args) (Rows.selectingExactSpec.post enc Tryz.prog Tryz.f4 false true false false) := by
  refine returnsInHanded_of_change_and (C := Tryz.checked) (X := fun w _ => laidMetH Tryz.prog [("warmpath/machine.rows", Rows.laid_warmpath_machine_rows)] w) (fun _ _ _ hh h => h.of_heap hh) own started (by kernel_rfl) Tryz.func4
    (ChangeSpec.witness_shaped (enc := enc) (C := Tryz.checked) (os := os) (X := fun w _ => laidMetH Tryz.prog [("warmpath/machine.rows", Rows.laid_warmpath_machine_rows)] w) false (World.laidAll Tryz.prog os [("warmpath/machine.rows", Rows.laid_warmpath_machine_rows)]) #[.slice none 0 0, .slice none 0 0] 8 (World.laidAll_os _ _ _)
      (World.shaped_of_ZipB (by kernel_rfl) (by kernel_rfl)) (by kernel_rfl) (by kernel_rfl) (by kernel_rfl)
      (by rw [MakeChecks.laidMetH_plain _ _ _ (by kernel_rfl)]; exact laidMet_laidAll _ (by kernel_rfl) (by kernel_rfl))) ?_
  intro W base args ds gs before hval0 hW hcnd _ hL _
  have hval : ∀ (j : Nat) t v, Tryz.f4.params[j]? = some t -> args[j]? = some v -> Value.okWide Tryz.prog W .any base t v := hval0
  have hW' := hW
  obtain ⟨p, q, hA0, hV, rfl, hfz, hnd⟩ := hW
  have hA : DataW.TrodAll enc Tryz.prog W 0 (fun _ => true) true Tryz.f4.params.toList args.toList ds p := hA0
  rw [Tryz.params4] at hA hval
  obtain ⟨v0, vs0, d0, ds0, p0, q0, hargs, rfl, rfl, h0, r0⟩ := trodAll_cons hA
  obtain ⟨v1, vs1, d1, ds1, p1, q1, rfl, rfl, rfl, h1, r1⟩ := trodAll_cons r0
  obtain ⟨rfl, rfl, rfl⟩ := trodAll_nil r1
  obtain rfl : args = #[v0, v1] := by cases args; exact congrArg Array.mk hargs
  obtain ⟨rfl, rfl⟩ := trodVars_none hV
  obtain ⟨a0, len0, cap0, rfl⟩ := okWide_slice Tryz.underlying22 (hval 0 22 v0 rfl rfl)
  have k0 := h0
  have lt0 : ∀ x ∈ p0, x.block < W.heap.size := by obtain ⟨m, hm⟩ := k0; exact DataW.trod_lt m _ _ _ hm
  obtain ⟨z0, w0⟩ : ∃ zs, Gu .u8 W a0 len0 cap0 zs := by
    obtain ⟨fuel, hf⟩ := h0
    rcases open_ints Tryz.underlying22 Tryz.underlying5 (by kernel_rfl) hf with ⟨hcs, _⟩ | ⟨x, l, c, zs, hcs, _, hl, hm, hz, _, hcell, hwz⟩
    · simp [Value.cells] at hcs
      obtain ⟨rfl, rfl, rfl⟩ := hcs
      exact ⟨[], .inl ⟨rfl, rfl, rfl, rfl⟩⟩
    · simp [Value.cells] at hcs
      obtain ⟨rfl, rfl, rfl⟩ := hcs
      exact ⟨zs, .inr ⟨_, rfl, hl, hm, by simpa using hz, hcell, hwz⟩⟩
  obtain ⟨a1, len1, cap1, rfl⟩ := okWide_slice Tryz.underlying29 (hval 1 29 v1 rfl rfl)
  have k1 := h1
  have lt1 : ∀ x ∈ p1, x.block < W.heap.size := by obtain ⟨m, hm⟩ := k1; exact DataW.trod_lt m _ _ _ hm
  obtain ⟨z1, w1⟩ : ∃ zs, Gu .i64 W a1 len1 cap1 zs := by
    obtain ⟨fuel, hf⟩ := h1
    rcases open_ints Tryz.underlying29 Tryz.underlying3 (by kernel_rfl) hf with ⟨hcs, _⟩ | ⟨x, l, c, zs, hcs, _, hl, hm, hz, _, hcell, hwz⟩
    · simp [Value.cells] at hcs
      obtain ⟨rfl, rfl, rfl⟩ := hcs
      exact ⟨[], .inl ⟨rfl, rfl, rfl, rfl⟩⟩
    · simp [Value.cells] at hcs
      obtain ⟨rfl, rfl, rfl⟩ := hcs
      exact ⟨zs, .inr ⟨_, rfl, hl, hm, by simpa using hz, hcell, hwz⟩⟩
  clear hA0 hval0
  refine (walk W (glob hL) a0 len0 cap0 z0 a1 len1 cap1 z1 w0 w1).mono fun e W' ⟨he, bel⟩ => ?_
  subst he
  exact ⟨_, rfl, _, _, _, [], _, [], hW', trodAll_mk1 (shut_bool Tryz.underlying4 _), (trodAll_cons_mk (Below.trod laidOut (by kernel_rfl) (of_decide_eq_true (by kernel_rfl)) k0 bel lt0) (trodAll_cons_mk (Below.trod laidOut (by kernel_rfl) (of_decide_eq_true (by kernel_rfl)) k1 bel lt1) trodAll_mk0)), rfl, bel.frame _, fun h => by cases h⟩

theorem over : Rows.selectingExactRow.holds Tryz.pinned (OpenSpec.ofChange Rows.selectingExactSpec) :=
  OpenClaim.holds_of_wide 4 Tryz.f4 rfl rfl rfl rfl rfl rfl rfl ⟨rfl, rfl, rfl, rfl, rfl⟩ rfl rfl rfl rfl rfl (by kernel_rfl) Tryz.func4 (by kernel_rfl)
    (of_decide_eq_true (by kernel_rfl)) (by unfold Func.isWrapper; first | (rw [if_pos (by decide +kernel)]; kernel_rfl) | (rw [if_neg (by decide +kernel)]; exact ⟨rfl, rfl⟩))
    (fun os started H enc _ => lifted os started H enc)

/-- THE STATEMENT: the tied card. -/
theorem proved : Rows.SelectingExactCardSaid :=
  Claim7.holds_tied_plain_at .later [] [.data] true (true, "5d1bac01f7af0bfef4a3b659bea37a220ee3904ed430b826ae7ebedd5b38a070") false over (fun _ h => by cases h) (by kernel_rfl) (fun _ h => by cases h) selectingExact_row_tie rfl ⟨rfl, rfl⟩ (by kernel_rfl) rfl
    (fun f fn hf hfn => by
      obtain rfl : f = 4 := Option.some.inj ((show Tryz.prog.funcNamed "warmpath/warmpathlaw13.SelectingExact" = some 4 by kernel_rfl).symm.trans hf) |>.symm
      obtain rfl : fn = Tryz.f4 := (Option.some.inj (Tryz.func4.symm.trans hfn)).symm
      exact ⟨by kernel_rfl, fun j t ht => by
        rw [Tryz.params4] at ht
        have hm : t ∈ [22, 29] := by simpa using Array.mem_of_getElem? ht
        have hall : ([22, 29].all fun u => !Tryz.prog.wantsStandIn u) = true := by kernel_rfl
        exact (show Tryz.prog.wantsStandIn t = false by simpa using List.all_eq_true.1 hall t hm)⟩)
    (by kernel_rfl)
#print axioms proved
end Go.Proofs.YtapemkmlinejmaaGreatDoor.selectingExact

