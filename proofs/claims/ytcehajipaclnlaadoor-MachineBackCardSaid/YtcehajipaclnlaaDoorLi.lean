/-
  Chapter 12, plain: the laws.
-/
import Derived.Test.YtcehajipaclnlaaDoorLh
namespace Go.Fg.YtcehajipaclnlaaDoor
open Go.Fw
set_option linter.unusedVariables false
set_option linter.unusedSimpArgs false

theorem encS_lenV (ar d a b v v' : Int) (wd : Bool) (args : List Int) (x : UInt8) : (encS ar d a b v wd args x).length = (encS ar d a b v' wd args x).length := by
  unfold encS
  repeat' split
  all_goals simp only [putL_len]
theorem flat_lenV (ar d a b v v' : Int) (wd : Bool) (args : List Int) (l : List UInt8) : (l.flatMap (encS ar d a b v wd args)).length = (l.flatMap (encS ar d a b v' wd args)).length := by
  induction l with
  | nil => rfl
  | cons x l ih => rw [List.flatMap_cons, List.flatMap_cons, List.length_append, List.length_append, ih, encS_lenV]
theorem encL_lenV (op ar d a b v v' : Int) (wd : Bool) (args : List Int) : (encL op ar d a b v wd args).length = (encL op ar d a b v' wd args).length := by
  unfold encL
  rw [List.length_append, List.length_append, flat_lenV ar d a b v v']
theorem encL_narrow {op ar d a b v : Int} {wd : Bool} {args : List Int} (h : chk op ar d a b v wd args = 0) : ((encL op ar d a b v wd args).length : Int) = (encL op ar d a b 0 false args).length + (if wd then 3 else 0) := by
  cases wd with
  | false => rw [encL_lenV op ar d a b v 0]; simp
  | true =>
    have h1 := (chk_ok.1 h).1
    have : op = 13 ∨ op = 14 ∨ op = 15 := by
      simp only [opL, Bool.and_eq_true, Bool.or_eq_true, Bool.not_true, decide_eq_true_eq, Bool.false_eq_true, false_or] at h1
      omega
    unfold encL
    rcases this with rfl | rfl | rfl
    · rw [row13]; simp [encS, putL_len]
    · rw [row14]; simp [encS, putL_len]
    · rw [row15]; simp [encS, putL_len]
theorem encL_two {op ar d a b v : Int} {wd : Bool} {args : List Int} (h : chk op ar d a b v wd args = 0) : 2 ≤ (encL op ar d a b v wd args).length := by
  have hop := op_cases (opL_in (chk_ok.1 h).1)
  unfold encL
  rw [List.length_append, List.length_singleton]
  have key : ∀ x : UInt8, x.toNat ≠ 48 → 48 ≤ x.toNat → 1 ≤ (encS ar d a b v wd args x).length := by
    intro x h1 h2
    unfold encS
    repeat' split
    all_goals simp only [putL_len, List.length_append]
    all_goals first | omega | (split <;> omega)
  have k : ∀ (x : UInt8) (l : List UInt8), x.toNat ≠ 48 → 48 ≤ x.toNat → 2 ≤ 1 + ((x :: l).flatMap (encS ar d a b v wd args)).length := by
    intro x l h1 h2
    have := key x h1 h2
    rw [List.flatMap_cons, List.length_append]; omega
  rcases hop with rfl | rfl | rfl | rfl | rfl | rfl | rfl | rfl | rfl | rfl | rfl | rfl | rfl | rfl | rfl | rfl | rfl | rfl
  · rw [row1]; exact k _ _ (by decide) (by decide)
  · rw [row2]; exact k _ _ (by decide) (by decide)
  · rw [row3]; exact k _ _ (by decide) (by decide)
  · rw [row4]; exact k _ _ (by decide) (by decide)
  · rw [row5]; exact k _ _ (by decide) (by decide)
  · rw [row6]; exact k _ _ (by decide) (by decide)
  · rw [row7]; exact k _ _ (by decide) (by decide)
  · rw [row8]; exact k _ _ (by decide) (by decide)
  · rw [row9]; exact k _ _ (by decide) (by decide)
  · rw [row10]; exact k _ _ (by decide) (by decide)
  · rw [row11]; exact k _ _ (by decide) (by decide)
  · rw [row12]; exact k _ _ (by decide) (by decide)
  · rw [row13]; exact k _ _ (by decide) (by decide)
  · rw [row14]; exact k _ _ (by decide) (by decide)
  · rw [row15]; exact k _ _ (by decide) (by decide)
  · rw [row16]; exact k _ _ (by decide) (by decide)
  · rw [row17]; exact k _ _ (by decide) (by decide)
  · rw [row18]; exact k _ _ (by decide) (by decide)
theorem chk_narrow {op ar d a b v : Int} {wd : Bool} {args : List Int} (h : chk op ar d a b v wd args = 0) : chk op ar d a b 0 false args = 0 := by
  obtain ⟨h1, h2, h3, h4⟩ := chk_ok.1 h
  refine chk_ok.2 ⟨?_, h2, h3, ?_⟩
  · simp only [opL, Bool.and_eq_true, Bool.or_eq_true, Bool.not_eq_true', decide_eq_true_eq, decide_eq_false_iff_not] at h1 ⊢
    exact ⟨⟨⟨h1.1.1.1, .inl trivial⟩, h1.1.2⟩, h1.2⟩
  · unfold valL
    repeat' split
    all_goals simp
theorem sizes_ok {l : List Int} (hl : Bytes l) (v' : Int) : f3 l v' = some true := by
  apply ok_eq
  unfold f3
  refine goS f6_ok (goF rfl (goB _ (new_ok hl (by decide)) ?_))
  rintro ⟨l0, i0⟩ ⟨hi, hl0⟩
  simp only at hi hl0
  subst hi
  refine goB _ (code_ok hl0 (by simp)) ?_
  rintro ⟨op, ar, d, a, b, v, wd, l1, i1, args⟩ ⟨q1, q2, q3, q4⟩
  simp only at q1 q2 q3 q4
  dsimp only
  rw [f9_eq op ar d a b v wd args (by omega), f9_eq op ar d a b v' wd args (by omega), f10_eq op ar d a b v wd args (by omega), f10_eq op ar d a b v' wd args (by omega), f10_eq op ar d a b 0 false args (by omega)]
  refine goS rfl (goI (fun h => ?_) fun h => ?_)
  · rw [if_neg (by simpa using h)]
    exact goS rfl (goR rfl)
  have h : chk op ar d a b v wd args = 0 := by simpa using h
  have hn := encL_narrow h
  have h2 := encL_two h
  have hle := encL_len op ar d a b v wd args
  rw [if_pos h, if_pos (chk_narrow h)]
  refine goS rfl (goB (fun y => y = ((encL op ar d a b 0 false args).length : Int)) ?_ fun y hy => ?_)
  · refine goI (fun hw => goR ?_) fun hw => goR ?_
    · subst hw
      rw [if_pos rfl] at hn
      rw [w64_of (by omega)]; omega
    · subst hw
      simpa using hn
  subst hy
  refine goB (fun y => y = true) (goS rfl (goT (by simp; omega) (goS rfl (goI (fun h' => goT rfl (goS rfl (goR (by simp)))) fun h' => ?_)))) fun y hy => goR hy
  have h' : chk op ar d a b v' wd args = 0 := by simpa using h'
  rw [if_pos h']
  refine goS rfl (goS rfl (goT (by rw [encL_lenV op ar d a b v' v]; simp) (goS rfl (goR (by simp)))))
end Go.Fg.YtcehajipaclnlaaDoor
