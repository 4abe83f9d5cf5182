/-
  Chapter 12, plain: the draws.
-/
import Derived.Test.YtcehajipaclnlaaDoorFgB
import Derived.Test.YtcehajipaclnlaaDoorZd
namespace Go.Fg.YtcehajipaclnlaaDoor
open Go.Fw
set_option linter.unusedVariables false
set_option linter.unusedSimpArgs false

/-! ### Draws -/
def Bytes (l : List Int) : Prop := l.length ≤ 9223372036854775807 ∧ ∀ x ∈ l, 0 ≤ x ∧ x ≤ 255

theorem bytes_at {l : List Int} (h : Bytes l) {n : Int} (h0 : 0 ≤ n) (h1 : n < l.length) : 0 ≤ l.getD n.toNat 0 ∧ l.getD n.toNat 0 ≤ 255 := by
  rw [getD_at 0 (by omega)]
  exact h.2 _ (List.getElem_mem _)

/-- what a draw of n gives -/
def Drawn (n : Int) (l : List Int) (y : Int × (List Int × Int)) : Prop := y.2.1 = l ∧ 0 ≤ y.2.2 ∧ 0 ≤ y.1 ∧ (1 ≤ n → y.1 < n) ∧ (n ≤ 1 → y.1 = 0)
theorem next_step {rec : Int → List Int → Int → Option (Int × (List Int × Int))} {n : Int} {l : List Int} {i : Int} (hl : Bytes l) (hi : 0 ≤ i) (hn : n ≤ 65536)
    (hrec : 256 < n → ∀ j, 0 ≤ j → Ok (rec 256 l j) (Drawn 256 l)) : Ok (f11S rec n l i) (Drawn n l) := by
  unfold f11S
  simp only [ok_bind, ok_bif, ok_some, ok_ck, dec_iff, dec_iff', inB_iff, not_iff]
  have tail : (n ≥ 1) → i < l.length → (0 ≤ i ∧ i < (l.length : Int)) ∧ (256 < n → Ok (rec 256 l (w64 (i + 1))) fun y => ¬ n = 0 ∧ Drawn n l (Int.tmod (w64 (w64 (256 * w64 (l.getD i.toNat 0)) + y.1)) n, y.2.1, y.2.2)) ∧ (¬ 256 < n → ¬ n = 0 ∧ Drawn n l (Int.tmod (w64 (l.getD i.toNat 0)) n, l, w64 (i + 1))) := by
    intro h1 h2
    have hb := bytes_at hl hi h2
    have hl' := hl.1
    rw [w64_of (x := i + 1) (by omega), w64_of (x := l.getD i.toNat 0) (by omega), w64_of (x := 256 * l.getD i.toNat 0) (by omega)]
    refine ⟨⟨hi, h2⟩, fun h3 => ok_mono (hrec h3 (i + 1) (by omega)) fun y hy => ?_, fun h3 => ⟨by omega, ?_⟩⟩
    · obtain ⟨q1, q2, q3, q4, q5⟩ := hy
      have q4 := q4 (by omega)
      rw [w64_of (by omega)]
      refine ⟨by omega, q1, q2, ?_⟩
      have := tmod_lt (a := 256 * l.getD i.toNat 0 + y.1) (b := n) (by omega) (by omega)
      exact ⟨this.1, fun _ => this.2, fun _ => by omega⟩
    · have := tmod_lt (a := l.getD i.toNat 0) (b := n) hb.1 (by omega)
      refine ⟨rfl, by simp; omega, this.1, fun _ => this.2, fun _ => ?_⟩
      have e : n = 1 := by omega
      subst e
      have := this.2
      have := this
      simp only
      omega
  refine ⟨fun h => ⟨fun _ => ⟨rfl, hi, Int.le_refl _, fun h => by simp only; omega, fun _ => rfl⟩, fun h0 => by cases h0⟩, fun h => ⟨fun h1 => ⟨rfl, hi, Int.le_refl _, fun h => by simp only; omega, fun _ => rfl⟩, fun h1 => ?_⟩⟩
  exact tail (by omega) (by omega)
theorem f11N_succ (k : Nat) : f11N (k + 1) = f11S (f11N k) := rfl
theorem next_ok {n : Int} {l : List Int} {i : Int} (hl : Bytes l) (hi : 0 ≤ i) (hn : n ≤ 65536) : Ok (f11 n l i) (Drawn n l) := by
  have e : f11 n l i = f11N (1048574 + 2) n l i := rfl
  rw [e, f11N_succ]
  refine next_step hl hi hn fun _ j hj => ?_
  rw [f11N_succ]
  exact next_step hl hj (by omega) fun h => absurd h (by omega)
theorem new_ok {l : List Int} {n : Int} (hl : Bytes l) (hn : 0 ≤ n) : Ok (f7 l n) fun y => y.2 = 0 ∧ Bytes y.1 := by
  unfold f7
  simp only [ok_bind, ok_bif, ok_some, ok_ck, dec_iff, dec_iff', slOk_iff]
  refine ⟨fun h => ⟨⟨⟨by omega, hn⟩, by omega⟩, trivial, ?_⟩, fun h => ⟨trivial, hl⟩⟩
  simp only [Int.toNat_zero, List.drop_zero]
  exact ⟨by have := hl.1; simp; omega, fun x hx => hl.2 x (List.mem_of_mem_take hx)⟩

theorem draw {n : Int} {l : List Int} {i : Int} {β : Type} {k : Int × (List Int × Int) → Option β} {Q : β → Prop} (hl : Bytes l) (hi : 0 ≤ i) (hn : 1 ≤ n ∧ n ≤ 65536)
    (h : ∀ v j, 0 ≤ v → v < n → 0 ≤ j → Ok (k (v, (l, j))) Q) : Ok (Option.bind (f11 n l i) k) Q := by
  rw [ok_bind]
  refine ok_mono (next_ok hl hi hn.2) ?_
  rintro ⟨v, l', j⟩ ⟨h1, h2, h3, h4, _⟩
  simp only at h1 h2 h3 h4
  subst h1
  exact h v j h3 (h4 hn.1) h2

def I64 (v : Int) : Prop := -9223372036854775808 ≤ v ∧ v ≤ 9223372036854775807
theorem w64_I64 (v : Int) : I64 (w64 v) := by
  show -9223372036854775808 ≤ _ ∧ _ ≤ _
  have h : w64 v = Go.IntKind.wrap .i64 v := rfl
  rw [h]
  have e1 : ((2 : Int) ^ (Go.IntKind.i64).bits) = 18446744073709551616 := by decide
  have e2 : ((2 : Int) ^ ((Go.IntKind.i64).bits - 1)) = 9223372036854775808 := by decide
  unfold Go.IntKind.wrap
  rw [e1, e2]
  dsimp only
  split <;> rename_i h <;> simp [Go.IntKind.signed] at h <;> omega
theorem int_ok {l : List Int} {i : Int} (hl : Bytes l) (hi : 0 ≤ i) : Ok (f15 l i) fun y => I64 y.1 ∧ y.2.1 = l ∧ 0 ≤ y.2.2 := by
  unfold f15
  refine draw hl hi (by decide) fun v0 j0 v0a v0b j0a => ?_
  dsimp only
  refine goI (fun _ => draw hl j0a (by decide) fun v j va vb ja => goR ⟨w64_I64 _, rfl, ja⟩) fun _ => ?_
  refine goI (fun _ => draw hl j0a (by decide) fun v j va vb ja => ?_) fun _ => ?_
  · dsimp only
    refine goC (inB_iff.2 ⟨va, by simpa using vb⟩) (goR ⟨?_, rfl, ja⟩)
    have : ∀ x ∈ [(9223372036854775807 : Int), (-9223372036854775808 : Int), (1048576 : Int), (1048577 : Int), (65535 : Int), (65536 : Int), (255 : Int), (256 : Int), (250 : Int), (249 : Int), (1099511627776 : Int), (1099511627777 : Int), (4294967296 : Int), (1073741824 : Int), (128 : Int), (127 : Int)], I64 x := by
      simp [I64]
    rw [getD_at 0 (by simp; omega)]
    exact this _ (List.getElem_mem _)
  refine goI (fun _ => draw hl j0a (by decide) fun v j va vb ja => ?_) fun _ => ?_
  · dsimp only
    exact draw hl ja (by decide) fun v' j' va' vb' ja' => goR ⟨w64_I64 _, rfl, ja'⟩
  · exact draw hl j0a (by decide) fun v j va vb ja => goR ⟨⟨by show -9223372036854775808 ≤ v; omega, by show v ≤ 9223372036854775807; omega⟩, rfl, ja⟩
end Go.Fg.YtcehajipaclnlaaDoor
