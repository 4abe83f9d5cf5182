/-
  Chapter 17, plain: Touched, Each, Misses.
-/
import Derived.Test.YtdioheaklahnnaaLb
import Derived.Test.YtdioheaklahnnaaZd
namespace Go.Fg.Ytdioheaklahnnaa
open Go.Fw
set_option linter.unusedVariables false
set_option linter.unusedSimpArgs false

/-! ### Touched -/
def badT (size a n : Int) : Prop := size < 1 ∨ 4096 < size ∨ n < 1 ∨ 1048576 < n ∨ a < 0 ∨ 1048576 < a
instance (size a n : Int) : Decidable (badT size a n) := by unfold badT; infer_instance
def span (lo : Int) (n : Nat) : List Int := (List.range n).map fun k => lo + (k : Nat)
def touchedL (size a n : Int) : List Int := if badT size a n then [] else span (a / size) ((a + n - 1) / size - a / size + 1).toNat
theorem span_succ (lo : Int) (n : Nat) : span lo (n + 1) = span lo n ++ [lo + n] := by simp [span, List.range_succ]
theorem span_len (lo : Int) (n : Nat) : (span lo n).length = n := by simp [span]
theorem touched_ok (size a n kind : Int) : f16 size a n kind = some (touchedL size a n) := by
  apply ok_eq
  unfold f16
  simp only [ok_bif, ok_bind, ok_some, ok_ck, dec_iff, dec_iff', not_iff, not_iff']
  have hb : badT size a n → [] = touchedL size a n := fun h => by unfold touchedL; rw [if_pos h]
  have fin : ¬ badT size a n → ¬ size = 0 ∧ Ok (loopM (fun (s13 : (Int × (List Int))) =>
        ck (!(decide (size = (0 : Int)))) <|
        bif (decide (s13.1 ≤ (w64 (Int.tdiv (w64 ((w64 (a + n)) - (1 : Int))) size)))) then
          ck (true && (decide ((((List.length s13.2) + (List.length [s13.1])) * (8 : Nat)) ≤ (140737488355328 : Nat)))) <|
          some (.inl ((w64 (s13.1 + (1 : Int))), (s13.2 ++ [s13.1])))
        else
          some (.inr s13.2)) ((w64 (Int.tdiv a size)), ([] : (List Int)))) (fun y => y = touchedL size a n) := by
    intro h
    unfold badT at h
    refine ⟨by omega, ?_⟩
    have ha : a / size ≤ a ∧ 0 ≤ a / size := ⟨Int.ediv_le_self _ (by omega), Int.ediv_nonneg (by omega) (by omega)⟩
    have hz : (a + n - 1) / size ≤ a + n - 1 ∧ a / size ≤ (a + n - 1) / size := ⟨Int.ediv_le_self _ (by omega), Int.ediv_le_ediv (by omega) (by omega)⟩
    rw [w64_of (x := a + n) (by omega), w64_of (x := a + n - 1) (by omega), Int.tdiv_eq_ediv_of_nonneg (a := a) (by omega), Int.tdiv_eq_ediv_of_nonneg (a := a + n - 1) (by omega), w64_of (x := a / size) (by omega), w64_of (x := (a + n - 1) / size) (by omega)]
    have et : touchedL size a n = span (a / size) ((a + n - 1) / size - a / size + 1).toNat := by unfold touchedL; rw [if_neg (by unfold badT; omega)]
    generalize a / size = lo at *
    generalize (a + n - 1) / size = hi at *
    refine ok_loop (fun s : Int × List Int => lo ≤ s.1 ∧ s.1 ≤ hi + 1 ∧ s.2 = span lo (s.1 - lo).toNat) (fun s => (hi + 1 - s.1).toNat) ⟨Int.le_refl _, by simp only; omega, by simp [span]⟩ ?_
    rintro ⟨i, out⟩ ⟨q0, q1, q2⟩
    simp only at q0 q1 q2
    simp only [ok_bif, ok_bind, ok_some, ok_ck, dec_iff, dec_iff', not_iff, not_iff', sumQ_inl, sumQ_inr]
    have hol : out.length = (i - lo).toNat := by rw [q2, span_len]
    refine ⟨by omega, fun h3 => ⟨by simp [hol]; omega, ?_⟩, fun h3 => ?_⟩
    · rw [w64_of (by omega)]
      refine ⟨⟨by omega, by omega, ?_⟩, by omega⟩
      rw [q2, show (i + 1 - lo).toNat = (i - lo).toNat + 1 by omega, span_succ, show lo + ((i - lo).toNat : Int) = i by omega]
    · rw [q2, et]; congr 1; omega
  refine ⟨fun h1 => ⟨fun _ => hb (.inl h1), fun h => (by cases h)⟩, fun h1 => ⟨fun h2 => ⟨fun _ => hb (.inr (.inl h2)), fun h => (by cases h)⟩, fun h2 => ⟨fun h3 => ⟨fun _ => hb (.inr (.inr (.inl h3))), fun h => (by cases h)⟩, fun h3 =>
    ⟨fun h4 => ⟨fun _ => hb (.inr (.inr (.inr (.inl h4)))), fun h => (by cases h)⟩, fun h4 => ⟨fun h5 => ⟨fun _ => hb (.inr (.inr (.inr (.inr (.inl h5))))), fun h => (by cases h)⟩, fun h5 => ⟨fun h6 => hb (.inr (.inr (.inr (.inr (.inr h6))))), fun h6 => fin (by unfold badT; omega)⟩⟩⟩⟩⟩⟩
theorem touched_len (size a n : Int) : (touchedL size a n).length ≤ 1048576 := by
  unfold touchedL
  split
  · simp
  · rename_i h
    unfold badT at h
    rw [span_len]
    have h1 : (a + n - 1) / size < a / size + n := by
      refine Int.ediv_lt_of_lt_mul (by omega) ?_
      have e1 : a < (a / size + 1) * size := Int.lt_ediv_add_one_mul_self a (by omega)
      have e2 : (n - 1) * 1 ≤ (n - 1) * size := Int.mul_le_mul_of_nonneg_left (by omega) (by omega)
      have e3 : (a / size + n) * size = (a / size + 1) * size + (n - 1) * size := by rw [← Int.add_mul]; congr 1; omega
      omega
    omega
theorem touched_nonneg {size a n : Int} : ∀ x ∈ touchedL size a n, 0 ≤ x := by
  intro x hx
  unfold touchedL at hx
  split at hx
  · cases hx
  · rename_i h
    unfold badT at h
    simp only [span, List.mem_map] at hx
    obtain ⟨k, _, rfl⟩ := hx
    have := Int.ediv_nonneg (a := a) (b := size) (by omega) (by omega)
    omega
/-- The reference's. -/
theorem parts_ok {size a n kind : Int} : f17 size a n kind = some (touchedL size a n) := by
  have h := touched_ok size a n kind
  have key : ∀ x : Option (List Int), Option.bind x (fun c => some c) = x := by intro x; cases x <;> rfl
  rw [← h]
  unfold f17 f16 f28
  by_cases h1 : size < 1
  · simp [h1]
  by_cases h2 : 4096 < size
  · simp [h1, h2]
  simp only [h1, h2, decide_false, cond_false, Option.bind_some]
  exact key _
end Go.Fg.Ytdioheaklahnnaa
