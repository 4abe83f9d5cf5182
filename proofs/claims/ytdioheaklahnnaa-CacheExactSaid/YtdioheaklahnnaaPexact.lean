/-
  CacheExact: the law returns true for every input, and changes no input. No condition.
  (The frame of this text follows the kit's template.)
-/
import Derived.Test.YtdioheaklahnnaaRows
import Derived.Test.YtdioheaklahnnaaLf
import Derived.Test.YtdioheaklahnnaaZd
import Derived.WalkKit
import Derived.ProofKit
import Derived.OpenShut
import Derived.ShutString
import Derived.ChangeOld
import Derived.Below
namespace Go.Proofs.Ytdioheaklahnnaa.cacheExact
open Go.Fg Go.Fg.Ytdioheaklahnnaa
open Go.ChangeShapes Go.WideShapes Go.ChangeAt Go.RowKit
open Go.ChangeMaps (open_string shut_string)
set_option linter.unusedVariables false

theorem own : ownKnob Try.prog.godebug = none := by kernel_rfl
theorem laidOut : laidOutB Try.prog = true := by kernel_rfl

/-- A slice of integers that came in. -/
def IsRow (k : IntKind) (w : World) (a : Option Addr) (len cap : Nat) (zs : List Int) : Prop :=
  (a = none ∧ len = 0 ∧ cap = 0 ∧ zs = []) ∨
  ∃ x, a = some x ∧ len ≤ cap ∧ cap ≤ maxLen ∧ zs.length = cap ∧ (∀ i, i < zs.length → w.cell? (x.add i) = some (.int k (zs.getD i 0))) ∧ ∀ n ∈ zs, (Lit.int k n).wf = true
theorem IsRow.row {k : IntKind} {w : World} {a : Option Addr} {len cap : Nat} {zs : List Int} (h : IsRow k w a len cap zs) :
    (a = none ∧ len = 0 ∧ cap = 0 ∧ zs = []) ∨ ∃ x, a = some x ∧ len ≤ cap ∧ zs.length = cap ∧ ∀ i, i < zs.length → w.cell? (x.add i) = some (.int k (zs.getD i 0)) := by
  rcases h with h | ⟨x, h0, h1, h2, h3, h4, h5⟩
  · exact .inl h
  · exact .inr ⟨x, h0, h1, h3, h4⟩
theorem IsRow.nums {k : IntKind} {w : World} {a : Option Addr} {len cap : Nat} {zs : List Int} (h : IsRow k w a len cap zs) : (zs.take len).length ≤ 9223372036854775807 ∧ ∀ n ∈ zs.take len, (Lit.int k n).wf = true := by
  rcases h with ⟨_, _, _, rfl⟩ | ⟨x, h0, h1, h2, h3, h4, h5⟩
  · exact ⟨by simp, by simp⟩
  · refine ⟨?_, fun y hy => h5 y (List.mem_of_mem_take hy)⟩
    have : maxLen = 9223372036854775807 := rfl
    simp; omega

theorem walk (w : World) (a0 : Option Addr) (len0 cap0 : Nat) (z0 : List Int) (a1 : Int) (w1 : (Lit.int .i64 a1).wf = true) (a2 : Int) (w2 : (Lit.int .i64 a2).wf = true) (b3_0 b3_1 b3_2 : Int) (w0 : IsRow .u8 w a0 len0 cap0 z0) :
    Calls Try.prog 4 #[.slice a0 len0 cap0, .int .i64 a1, .int .i64 a2, .agg #[.int .i64 b3_0, .int .i64 b3_1, .int .i64 b3_2]] w fun e w' => e = .returned (.bool true) ∧ Below w.heap.size w w' := by
  have hb0 : Bytes (z0.take len0) := by
    refine ⟨w0.nums.1, fun y hy => ?_⟩
    have := w0.nums.2 y hy
    simpa [Lit.wf, IntKind.min, IntKind.max, IntKind.signed, IntKind.bits] using this
  have ag3 (E : Fw.Env) (st : Fw.St) (gh : Nat → Fw.Gh) : Fw.RepS E st gh w (.v (.agg [.p true false (enc1 ⟨.int .i64, b3_0⟩), .p true false (enc1 ⟨.int .i64, b3_1⟩), .p true false (enc1 ⟨.int .i64, b3_2⟩)])) (.agg #[.int .i64 b3_0, .int .i64 b3_1, .int .i64 b3_2]) := by
    refine .v _ _ (.agg _ [.int .i64 b3_0, .int .i64 b3_1, .int .i64 b3_2] rfl (by simp [Value.oneCell']) fun q x v hx hv => ?_)
    match q, x, v, hx, hv with
      | 0, _, _, hx, hv => cases hx; cases hv; exact .p _ _ _ _ (word_int .i64 b3_0)
      | 1, _, _, hx, hv => cases hx; cases hv; exact .p _ _ _ _ (word_int .i64 b3_1)
      | 2, _, _, hx, hv => cases hx; cases hv; exact .p _ _ _ _ (word_int .i64 b3_2)
      | q + 3, _, _, hx, _ => cases hx
  refine Fw.law_calls (vals := [.slice a0 len0 cap0, .int .i64 a1, .int .i64 a2, .agg #[.int .i64 b3_0, .int .i64 b3_1, .int .i64 b3_2]]) (sp := sp4.er) (ins := (Tup.toL sp4.sig.pin.tys ((z0.take len0, (a1, (a2, (b3_0, (b3_1, b3_2))))) : Tup sp4.sig.pin.tys)).map enc1) sound4 rfl rfl rfl rfl ⟨(z0.take len0, (a1, (a2, (b3_0, (b3_1, b3_2))))), true, exact17 hb0 a1 a2 b3_0 b3_1 b3_2, rfl, rfl⟩ fun t => ?_
  match t with
  | 0 => exact Fw.RepS.ofP (row_enc (E0_ok rfl _ _) w0.row)
  | 1 => exact Fw.RepS.ofP (word_int .i64 a1)
  | 2 => exact Fw.RepS.ofP (word_int .i64 a2)
  | 3 => exact ag3 _ _ _
  | _ + 4 => exact .no _

set_option maxRecDepth 100000 in
theorem lifted (os : Os) (started : os.Started) (H : Type) (enc : TypeId × Value → H) :
    ReturnsInHanded {} Try.checked os 4 .any (Rows.cacheExactSpec.pre6 enc Try.prog Try.f4 Rows.cacheExactRow.domain false) (Rows.cacheExactSpec.post enc Try.prog Try.f4 false true false false) := by
  refine returnsInHanded_of_change (C := Try.checked) own started (by kernel_rfl) Try.func4
    (ChangeSpec.witness6 (enc := enc) (C := Try.checked) false ⟨#[], #[.slice none 0 0, .int .i64 0, .int .i64 0, .agg #[.int .i64 0, .int .i64 0, .int .i64 0]], []⟩ 8 (by kernel_rfl) (by kernel_rfl) (by kernel_rfl) (by kernel_rfl)) ?_
  intro W base args ds gs before hval0 hW hcnd _
  have hval : ∀ (j : Nat) t v, Try.f4.params[j]? = some t → args[j]? = some v → Value.okWide Try.prog W .any base t v := hval0
  have hW' := hW
  obtain ⟨p, q, hA0, hV, rfl, hfz, hnd⟩ := hW
  have hA : DataW.TrodAll enc Try.prog W 0 (fun _ => true) true Try.f4.params.toList args.toList ds p := hA0
  rw [Try.params4] at hA hval
  obtain ⟨v0, vs0, d0, ds0, p0, q0, hargs, rfl, rfl, h0, r0⟩ := trodAll_cons hA
  obtain ⟨v1, vs1, d1, ds1, p1, q1, rfl, rfl, rfl, h1, r1⟩ := trodAll_cons r0
  obtain ⟨v2, vs2, d2, ds2, p2, q2, rfl, rfl, rfl, h2, r2⟩ := trodAll_cons r1
  obtain ⟨v3, vs3, d3, ds3, p3, q3, rfl, rfl, rfl, h3, r3⟩ := trodAll_cons r2
  obtain ⟨rfl, rfl, rfl⟩ := trodAll_nil r3
  obtain rfl : args = #[v0, v1, v2, v3] := by cases args; exact congrArg Array.mk hargs
  obtain ⟨rfl, rfl⟩ := trodVars_none hV
  obtain ⟨a0, len0, cap0, rfl⟩ := okWide_slice Try.underlying22 (hval 0 22 v0 rfl rfl)
  have k0 := h0
  have lt0 : ∀ x ∈ p0, x.block < W.heap.size := by obtain ⟨m, hm⟩ := k0; exact DataW.trod_lt m _ _ _ hm
  obtain ⟨z0, w0⟩ : ∃ zs, IsRow .u8 W a0 len0 cap0 zs := by
    obtain ⟨fuel, hf⟩ := h0
    rcases open_ints Try.underlying22 Try.underlying5 (by kernel_rfl) hf with ⟨hcs, _⟩ | ⟨x, l, c, zs, hcs, _, hl, hm, hz, _, hcell, hwz⟩
    · simp [Value.cells] at hcs
      obtain ⟨rfl, rfl, rfl⟩ := hcs
      exact ⟨[], .inl ⟨rfl, rfl, rfl, rfl⟩⟩
    · simp [Value.cells] at hcs
      obtain ⟨rfl, rfl, rfl⟩ := hcs
      exact ⟨zs, .inr ⟨_, rfl, hl, hm, by simpa using hz, hcell, hwz⟩⟩
  obtain ⟨a1, rfl, rfl, rfl, w1⟩ := open_int Try.underlying3 (hval 1 3 v1 rfl rfl) h1
  obtain ⟨a2, rfl, rfl, rfl, w2⟩ := open_int Try.underlying3 (hval 2 3 v2 rfl rfl) h2
  obtain ⟨cs3, rfl, hcs3⟩ := okWide_struct Try.underlying36 (hval 3 36 v3 rfl rfl)
  have k3 := h3
  have lt3 : ∀ x ∈ p3, x.block < W.heap.size := by obtain ⟨m, hm⟩ := k3; exact DataW.trod_lt m _ _ _ hm
  obtain ⟨b3_0, b3_1, b3_2, e3⟩ : ∃ b3_0 b3_1 b3_2 : Int, cs3 = #[.int .i64 b3_0, .int .i64 b3_1, .int .i64 b3_2] := by
    obtain ⟨fuel, hf⟩ := h3
    obtain ⟨hl, fuel', hall⟩ := trod_struct Try.underlying36 hf
    have hl : cs3.toList.length = 3 := hl.trans (by kernel_rfl)
    obtain ⟨m3⟩ := cs3
    have hl3_0 : m3.length = 3 := hl
    obtain ⟨c0, m3_0, rfl, hl3_1⟩ := list_succ hl3_0
    obtain ⟨c1, m3_1, rfl, hl3_2⟩ := list_succ hl3_1
    obtain ⟨c2, m3_2, rfl, hl3_3⟩ := list_succ hl3_2
    obtain rfl := list_zero hl3_3
    obtain ⟨b3_0, e3_0⟩ := field_int hall (i := 0) rfl Try.underlying3 (by kernel_rfl)
    cases Option.some.inj e3_0
    obtain ⟨b3_1, e3_1⟩ := field_int hall (i := 1) rfl Try.underlying3 (by kernel_rfl)
    cases Option.some.inj e3_1
    obtain ⟨b3_2, e3_2⟩ := field_int hall (i := 2) rfl Try.underlying3 (by kernel_rfl)
    cases Option.some.inj e3_2
    exact ⟨b3_0, b3_1, b3_2, rfl⟩
  subst e3
  clear hA0 hval0
  refine (walk W a0 len0 cap0 z0 a1 w1 a2 w2 b3_0 b3_1 b3_2 w0).mono fun e W' ⟨he, bel⟩ => ?_
  subst he
  exact ⟨_, rfl, _, _, _, [], _, [], hW', trodAll_mk1 (shut_bool Try.underlying4 _), (trodAll_cons_mk (Below.trod laidOut (by kernel_rfl) (of_decide_eq_true (by kernel_rfl)) k0 bel lt0) (trodAll_cons_mk (shut_int Try.underlying3 w1) (trodAll_cons_mk (shut_int Try.underlying3 w2) (trodAll_cons_mk (Below.trod laidOut (by kernel_rfl) (of_decide_eq_true (by kernel_rfl)) k3 bel lt3) trodAll_mk0)))), rfl, bel.frame _, fun h => by cases h⟩

theorem over : Rows.cacheExactRow.holds Try.pinned (OpenSpec.ofChange Rows.cacheExactSpec) :=
  OpenClaim.holds_of_wide 4 Try.f4 rfl rfl rfl rfl rfl rfl rfl ⟨rfl, rfl, rfl, rfl, rfl⟩ rfl rfl rfl rfl rfl (by kernel_rfl) Try.func4 (by kernel_rfl)
    (of_decide_eq_true (by kernel_rfl)) (by unfold Func.isWrapper; first | (rw [if_pos (by decide +kernel)]; kernel_rfl) | (rw [if_neg (by decide +kernel)]; exact ⟨rfl, rfl⟩))
    (fun os started H enc _ => lifted os started H enc)

/-- THE STATEMENT -/
theorem proved : Rows.CacheExactSaid := over
#print axioms proved
end Go.Proofs.Ytdioheaklahnnaa.cacheExact
