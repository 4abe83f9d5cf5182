/-
  EvaluateRefines: the law returns true for every input, and changes no input. No condition.
  (The frame of this text follows the kit's template.)
-/
import Derived.Test.YtpbdikcmfgeooaaRows
import Derived.Test.YtpbdikcmfgeooaaLa
import Derived.Test.YtpbdikcmfgeooaaZd
import Derived.WalkKit
import Derived.ProofKit
import Derived.OpenShut
import Derived.ShutString
import Derived.ChangeOld
import Derived.Below
namespace Go.Proofs.Ytpbdikcmfgeooaa.evaluateRefines
open Go.Fg Go.Fg.Ytpbdikcmfgeooaa
open Go.ChangeShapes Go.WideShapes Go.ChangeAt Go.RowKit
open Go.ChangeMaps (open_string shut_string)
set_option linter.unusedVariables false

theorem own : ownKnob Try.prog.godebug = none := by kernel_rfl
theorem laidOut : laidOutB Try.prog = true := by kernel_rfl

/-- A slice of integers that came in. -/
def vV (k : IntKind) (w : World) (a : Option Addr) (len cap : Nat) (zs : List Int) : Prop :=
  (a = none ∧ len = 0 ∧ cap = 0 ∧ zs = []) ∨
  ∃ x, a = some x ∧ len ≤ cap ∧ cap ≤ maxLen ∧ zs.length = cap ∧ (∀ i, i < zs.length → w.cell? (x.add i) = some (.int k (zs.getD i 0))) ∧ ∀ n ∈ zs, (Lit.int k n).wf = true
theorem vV.row {k : IntKind} {w : World} {a : Option Addr} {len cap : Nat} {zs : List Int} (h : vV k w a len cap zs) :
    (a = none ∧ len = 0 ∧ cap = 0 ∧ zs = []) ∨ ∃ x, a = some x ∧ len ≤ cap ∧ zs.length = cap ∧ ∀ i, i < zs.length → w.cell? (x.add i) = some (.int k (zs.getD i 0)) := by
  rcases h with h | ⟨x, h0, h1, h2, h3, h4, h5⟩
  · exact .inl h
  · exact .inr ⟨x, h0, h1, h3, h4⟩
theorem vV.nums {k : IntKind} {w : World} {a : Option Addr} {len cap : Nat} {zs : List Int} (h : vV k w a len cap zs) : (zs.take len).length ≤ 9223372036854775807 ∧ ∀ n ∈ zs.take len, (Lit.int k n).wf = true := by
  rcases h with ⟨_, _, _, rfl⟩ | ⟨x, h0, h1, h2, h3, h4, h5⟩
  · exact ⟨by simp, by simp⟩
  · refine ⟨?_, fun y hy => h5 y (List.mem_of_mem_take hy)⟩
    have : maxLen = 9223372036854775807 := rfl
    simp; omega

theorem walk (w : World) (hw : Fw.Jp w) (yG : Int) (yH : Int) (yI : Int) (FD : Option Addr) (lD oK : Nat) (JZ : List Int) (Yg : vV .i64 w FD lD oK JZ) (yJ : Int) (yK : Int) (yL : Int) (FH : Option Addr) (lF oL : Nat) (J3 : List Int) (Yh : vV .i64 w FH lF oL J3) (a2 : Option Addr) (len2 cap2 : Nat) (z2 : List Int) (w2 : vV .u8 w a2 len2 cap2 z2) :
    Calls Try.prog 6 #[.agg #[.int .i64 yG, .int .i64 yH, .int .i64 yI, .slice FD lD oK], .agg #[.int .i64 yJ, .int .i64 yK, .int .i64 yL, .slice FH lF oL], .slice a2 len2 cap2] w fun e w' => e = .returned (.bool true) ∧ Below w.heap.size w w' := by
  have ag0 (E : Fw.Env) (st : Fw.St) (gh : Nat → Fw.Gh) (hok : ∀ b, b < w.heap.size → E.ok st gh w true false b) : Fw.bD E st gh w (.v (.agg [.p true false (aS ⟨.int .i64, yG⟩), .p true false (aS ⟨.int .i64, yH⟩), .p true false (aS ⟨.int .i64, yI⟩), .p true false (aS ⟨.sl (.int .i64), JZ.take lD⟩)])) (.agg #[.int .i64 yG, .int .i64 yH, .int .i64 yI, .slice FD lD oK]) := by
    refine .v _ _ (.agg _ [.int .i64 yG, .int .i64 yH, .int .i64 yI, .slice FD lD oK] rfl (by simp [Value.oneCell']) fun q x v hx hv => ?_)
    match q, x, v, hx, hv with
      | 0, _, _, hx, hv => cases hx; cases hv; exact .p _ _ _ _ (um .i64 yG)
      | 1, _, _, hx, hv => cases hx; cases hv; exact .p _ _ _ _ (um .i64 yH)
      | 2, _, _, hx, hv => cases hx; cases hv; exact .p _ _ _ _ (um .i64 yI)
      | 3, _, _, hx, hv => cases hx; cases hv; exact .p _ _ _ _ (Oc hok Yg.row)
      | q + 4, _, _, hx, _ => cases hx
  have ag1 (E : Fw.Env) (st : Fw.St) (gh : Nat → Fw.Gh) (hok : ∀ b, b < w.heap.size → E.ok st gh w true false b) : Fw.bD E st gh w (.v (.agg [.p true false (aS ⟨.int .i64, yJ⟩), .p true false (aS ⟨.int .i64, yK⟩), .p true false (aS ⟨.int .i64, yL⟩), .p true false (aS ⟨.sl (.int .i64), J3.take lF⟩)])) (.agg #[.int .i64 yJ, .int .i64 yK, .int .i64 yL, .slice FH lF oL]) := by
    refine .v _ _ (.agg _ [.int .i64 yJ, .int .i64 yK, .int .i64 yL, .slice FH lF oL] rfl (by simp [Value.oneCell']) fun q x v hx hv => ?_)
    match q, x, v, hx, hv with
      | 0, _, _, hx, hv => cases hx; cases hv; exact .p _ _ _ _ (um .i64 yJ)
      | 1, _, _, hx, hv => cases hx; cases hv; exact .p _ _ _ _ (um .i64 yK)
      | 2, _, _, hx, hv => cases hx; cases hv; exact .p _ _ _ _ (um .i64 yL)
      | 3, _, _, hx, hv => cases hx; cases hv; exact .p _ _ _ _ (Oc hok Yh.row)
      | q + 4, _, _, hx, _ => cases hx
  have hb2 : Bytes (z2.take len2) := by
    refine ⟨w2.nums.1, fun y hy => ?_⟩
    have := w2.nums.2 y hy
    simpa [Lit.wf, IntKind.min, IntKind.max, IntKind.signed, IntKind.bits] using this
  refine Fw.X8 (vals := [.agg #[.int .i64 yG, .int .i64 yH, .int .i64 yI, .slice FD lD oK], .agg #[.int .i64 yJ, .int .i64 yK, .int .i64 yL, .slice FH lF oL], .slice a2 len2 cap2]) (sp := sp6.er) (ins := (Tup.ku sp6.sig.pin.tys ((yG, (yH, (yI, (JZ.take lD, (yJ, (yK, (yL, (J3.take lF, z2.take len2)))))))) : Tup sp6.sig.pin.tys)).map aS) afG rfl rfl rfl rfl hw ⟨(yG, (yH, (yI, (JZ.take lD, (yJ, (yK, (yL, (J3.take lF, z2.take len2)))))))), true, Uy hb2 Yg.nums.1 Yh.nums.1, rfl, rfl⟩ fun t => ?_
  match t with
  | 0 => exact ag0 _ _ _ (aav rfl _ _ _)
  | 1 => exact ag1 _ _ _ (aav rfl _ _ _)
  | 2 => exact Fw.bD.ofP (Oc (aav rfl _ _ _) w2.row)
  | _ + 3 => exact .no _

set_option maxRecDepth 100000 in
theorem lifted (os : Os) (started : os.Started) (H : Type) (enc : TypeId × Value → H) :
    ReturnsInHanded {} Try.checked os 6 .any (Rows.evaluateRefinesSpec.pre6 enc Try.prog Try.f6 Rows.evaluateRefinesRow.domain false) (Rows.evaluateRefinesSpec.post enc Try.prog Try.f6 false true false false) := by
  refine returnsInHanded_of_change (C := Try.checked) own started (by kernel_rfl) Try.func6
    (ChangeSpec.witness6 (enc := enc) (C := Try.checked) false ⟨#[], #[.agg #[.int .i64 0, .int .i64 0, .int .i64 0, .slice none 0 0], .agg #[.int .i64 0, .int .i64 0, .int .i64 0, .slice none 0 0], .slice none 0 0], []⟩ 8 (by kernel_rfl) (by kernel_rfl) (by kernel_rfl) (by kernel_rfl)) ?_
  intro W base args ds gs before hval0 hW hcnd _
  have hval : ∀ (j : Nat) t v, Try.f6.params[j]? = some t → args[j]? = some v → Value.okWide Try.prog W .any base t v := hval0
  have hW' := hW
  obtain ⟨p, q, hA0, hV, rfl, hfz, hnd⟩ := hW
  have hA : DataW.TrodAll enc Try.prog W 0 (fun _ => true) true Try.f6.params.toList args.toList ds p := hA0
  rw [Try.params6] at hA hval
  obtain ⟨v0, vs0, d0, ds0, p0, q0, hargs, rfl, rfl, h0, r0⟩ := trodAll_cons hA
  obtain ⟨v1, vs1, d1, ds1, p1, q1, rfl, rfl, rfl, h1, r1⟩ := trodAll_cons r0
  obtain ⟨v2, vs2, d2, ds2, p2, q2, rfl, rfl, rfl, h2, r2⟩ := trodAll_cons r1
  obtain ⟨rfl, rfl, rfl⟩ := trodAll_nil r2
  obtain rfl : args = #[v0, v1, v2] := by cases args; exact congrArg Array.mk hargs
  obtain ⟨rfl, rfl⟩ := trodVars_none hV
  obtain ⟨cs0, rfl, hcs0⟩ := okWide_struct Try.underlying40 (hval 0 40 v0 rfl rfl)
  have k0 := h0
  have lt0 : ∀ x ∈ p0, x.block < W.heap.size := by obtain ⟨m, hm⟩ := k0; exact DataW.trod_lt m _ _ _ hm
  obtain ⟨yG, yH, yI, FD, lD, oK, JZ, Yg, e0⟩ : ∃ (yG : Int) (yH : Int) (yI : Int) (FD : Option Addr) (lD oK : Nat) (JZ : List Int), vV .i64 W FD lD oK JZ ∧ cs0 = #[.int .i64 yG, .int .i64 yH, .int .i64 yI, .slice FD lD oK] := by
    obtain ⟨fuel, hf⟩ := h0
    obtain ⟨hl, fuel', hall⟩ := trod_struct Try.underlying40 hf
    have hl : cs0.toList.length = 4 := hl.trans (by kernel_rfl)
    obtain ⟨m0⟩ := cs0
    have aik : m0.length = 4 := hl
    obtain ⟨c0, aop, rfl, ail⟩ := lN aik
    obtain ⟨c1, aoq, rfl, ain⟩ := lN ail
    obtain ⟨c2, aor, rfl, aio⟩ := lN ain
    obtain ⟨c3, aos, rfl, aip⟩ := lN aio
    obtain rfl := Lu aip
    obtain ⟨yG, amm⟩ := pO hall (i := 0) rfl Try.underlying3 (by kernel_rfl)
    cases Option.some.inj amm
    obtain ⟨yH, amn⟩ := pO hall (i := 1) rfl Try.underlying3 (by kernel_rfl)
    cases Option.some.inj amn
    obtain ⟨yI, amo⟩ := pO hall (i := 2) rfl Try.underlying3 (by kernel_rfl)
    cases Option.some.inj amo
    obtain ⟨FD, lD, oK, JZ, amq, Yg⟩ : ∃ (a : Option Addr) (len cap : Nat) (zs : List Int), c3 = .slice a len cap ∧ vV .i64 W a len cap zs := by
      obtain ⟨y, hy⟩ := hall _ (List.mem_of_getElem? (i := 3) rfl)
      have h1 : Try.prog.cellsOf 23 = 1 := by kernel_rfl
      rcases open_ints Try.underlying23 Try.underlying3 (by kernel_rfl) hy with ⟨hcs, _⟩ | ⟨x, l, c, zs, hcs, _, hl, hm, hz, _, hcell, hwz⟩
      · have hcs : (List.drop 3 [.int .i64 yG, .int .i64 yH, .int .i64 yI, c3]).take (Try.prog.cellsOf 23) = _ := hcs
        rw [h1] at hcs
        exact ⟨none, 0, 0, [], by simpa using hcs, .inl ⟨rfl, rfl, rfl, rfl⟩⟩
      · have hcs : (List.drop 3 [.int .i64 yG, .int .i64 yH, .int .i64 yI, c3]).take (Try.prog.cellsOf 23) = _ := hcs
        rw [h1] at hcs
        exact ⟨some x, l, c, zs, by simpa using hcs, .inr ⟨_, rfl, hl, hm, by simpa using hz, hcell, hwz⟩⟩
    subst amq
    exact ⟨yG, yH, yI, FD, lD, oK, JZ, Yg, rfl⟩
  subst e0
  obtain ⟨cs1, rfl, hcs1⟩ := okWide_struct Try.underlying40 (hval 1 40 v1 rfl rfl)
  have k1 := h1
  have lt1 : ∀ x ∈ p1, x.block < W.heap.size := by obtain ⟨m, hm⟩ := k1; exact DataW.trod_lt m _ _ _ hm
  obtain ⟨yJ, yK, yL, FH, lF, oL, J3, Yh, e1⟩ : ∃ (yJ : Int) (yK : Int) (yL : Int) (FH : Option Addr) (lF oL : Nat) (J3 : List Int), vV .i64 W FH lF oL J3 ∧ cs1 = #[.int .i64 yJ, .int .i64 yK, .int .i64 yL, .slice FH lF oL] := by
    obtain ⟨fuel, hf⟩ := h1
    obtain ⟨hl, fuel', hall⟩ := trod_struct Try.underlying40 hf
    have hl : cs1.toList.length = 4 := hl.trans (by kernel_rfl)
    obtain ⟨m1⟩ := cs1
    have aiq : m1.length = 4 := hl
    obtain ⟨c0, aou, rfl, air⟩ := lN aiq
    obtain ⟨c1, aov, rfl, ais⟩ := lN air
    obtain ⟨c2, aow, rfl, ait⟩ := lN ais
    obtain ⟨c3, aox, rfl, aiu⟩ := lN ait
    obtain rfl := Lu aiu
    obtain ⟨yJ, amr⟩ := pO hall (i := 0) rfl Try.underlying3 (by kernel_rfl)
    cases Option.some.inj amr
    obtain ⟨yK, ams⟩ := pO hall (i := 1) rfl Try.underlying3 (by kernel_rfl)
    cases Option.some.inj ams
    obtain ⟨yL, amu⟩ := pO hall (i := 2) rfl Try.underlying3 (by kernel_rfl)
    cases Option.some.inj amu
    obtain ⟨FH, lF, oL, J3, amv, Yh⟩ : ∃ (a : Option Addr) (len cap : Nat) (zs : List Int), c3 = .slice a len cap ∧ vV .i64 W a len cap zs := by
      obtain ⟨y, hy⟩ := hall _ (List.mem_of_getElem? (i := 3) rfl)
      have h1 : Try.prog.cellsOf 23 = 1 := by kernel_rfl
      rcases open_ints Try.underlying23 Try.underlying3 (by kernel_rfl) hy with ⟨hcs, _⟩ | ⟨x, l, c, zs, hcs, _, hl, hm, hz, _, hcell, hwz⟩
      · have hcs : (List.drop 3 [.int .i64 yJ, .int .i64 yK, .int .i64 yL, c3]).take (Try.prog.cellsOf 23) = _ := hcs
        rw [h1] at hcs
        exact ⟨none, 0, 0, [], by simpa using hcs, .inl ⟨rfl, rfl, rfl, rfl⟩⟩
      · have hcs : (List.drop 3 [.int .i64 yJ, .int .i64 yK, .int .i64 yL, c3]).take (Try.prog.cellsOf 23) = _ := hcs
        rw [h1] at hcs
        exact ⟨some x, l, c, zs, by simpa using hcs, .inr ⟨_, rfl, hl, hm, by simpa using hz, hcell, hwz⟩⟩
    subst amv
    exact ⟨yJ, yK, yL, FH, lF, oL, J3, Yh, rfl⟩
  subst e1
  obtain ⟨a2, len2, cap2, rfl⟩ := okWide_slice Try.underlying28 (hval 2 28 v2 rfl rfl)
  have k2 := h2
  have lt2 : ∀ x ∈ p2, x.block < W.heap.size := by obtain ⟨m, hm⟩ := k2; exact DataW.trod_lt m _ _ _ hm
  obtain ⟨z2, w2⟩ : ∃ zs, vV .u8 W a2 len2 cap2 zs := by
    obtain ⟨fuel, hf⟩ := h2
    rcases open_ints Try.underlying28 Try.underlying5 (by kernel_rfl) hf with ⟨hcs, _⟩ | ⟨x, l, c, zs, hcs, _, hl, hm, hz, _, hcell, hwz⟩
    · simp [Value.cells] at hcs
      obtain ⟨rfl, rfl, rfl⟩ := hcs
      exact ⟨[], .inl ⟨rfl, rfl, rfl, rfl⟩⟩
    · simp [Value.cells] at hcs
      obtain ⟨rfl, rfl, rfl⟩ := hcs
      exact ⟨zs, .inr ⟨_, rfl, hl, hm, by simpa using hz, hcell, hwz⟩⟩
  clear hA0 hval0
  refine (walk W (Fw.QV (fun _ => rfl) W) yG yH yI FD lD oK JZ Yg yJ yK yL FH lF oL J3 Yh a2 len2 cap2 z2 w2).mono fun e W' ⟨he, bel⟩ => ?_
  subst he
  exact ⟨_, rfl, _, _, _, [], _, [], hW', trodAll_mk1 (shut_bool Try.underlying4 _), (trodAll_cons_mk (Below.trod laidOut (by kernel_rfl) (of_decide_eq_true (by kernel_rfl)) k0 bel lt0) (trodAll_cons_mk (Below.trod laidOut (by kernel_rfl) (of_decide_eq_true (by kernel_rfl)) k1 bel lt1) (trodAll_cons_mk (Below.trod laidOut (by kernel_rfl) (of_decide_eq_true (by kernel_rfl)) k2 bel lt2) trodAll_mk0))), rfl, bel.frame _, fun h => by cases h⟩

theorem over : Rows.evaluateRefinesRow.holds Try.pinned (OpenSpec.ofChange Rows.evaluateRefinesSpec) :=
  OpenClaim.holds_of_wide 6 Try.f6 rfl rfl rfl rfl rfl rfl rfl ⟨rfl, rfl, rfl, rfl, rfl⟩ rfl rfl rfl rfl rfl (by kernel_rfl) Try.func6 (by kernel_rfl)
    (of_decide_eq_true (by kernel_rfl)) (by unfold Func.isWrapper; first | (rw [if_pos (by decide +kernel)]; kernel_rfl) | (rw [if_neg (by decide +kernel)]; exact ⟨rfl, rfl⟩))
    (fun os started H enc _ => lifted os started H enc)

/-- THE STATEMENT -/
theorem proved : Rows.EvaluateRefinesSaid := over
#print axioms proved
end Go.Proofs.Ytpbdikcmfgeooaa.evaluateRefines

