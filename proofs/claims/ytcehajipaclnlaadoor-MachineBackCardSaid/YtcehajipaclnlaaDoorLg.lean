/-
  Chapter 12, plain: what is encoded is decoded.
-/
import Derived.Test.YtcehajipaclnlaaDoorLf
namespace Go.Fg.YtcehajipaclnlaaDoor
open Go.Fw
set_option linter.unusedVariables false
set_option linter.unusedSimpArgs false

def canon (op ar d a b v : Int) (args : List Int) : F6 := (rowOf op).foldl (setF ar d a b v args) (0, 0, 0, 0, 0, [])
theorem chk_ok {op ar d a b v : Int} {wd : Bool} {args : List Int} : chk op ar d a b v wd args = 0 ↔ opL op ar wd = true ∧ (slotsL op d a b args).all inSlot = true ∧ (args.length ≤ 250 ∨ isN op = false) ∧ valL op v wd = true := by
  unfold chk
  by_cases h1 : opL op ar wd = true
  · rw [if_pos h1]
    by_cases h2 : ((slotsL op d a b args).all inSlot && (decide (args.length ≤ 250) || !isN op)) = true
    · rw [if_pos h2]
      simp only [Bool.and_eq_true, Bool.or_eq_true, decide_eq_true_eq, Bool.not_eq_true'] at h2
      by_cases h3 : valL op v wd = true
      · rw [if_pos h3]; simp [h1, h2, h3]
      · rw [if_neg h3]; simp [h3]
    · rw [if_neg h2]
      simp only [Bool.and_eq_true, Bool.or_eq_true, decide_eq_true_eq, Bool.not_eq_true'] at h2
      simp only [Int.reduceEq, false_iff]
      exact fun h => h2 ⟨h.2.1, h.2.2.1⟩
  · rw [if_neg h1]; simp [h1]
theorem op_cases {op : Int} (h : 1 ≤ op ∧ op ≤ 18) : op = 1 ∨ op = 2 ∨ op = 3 ∨ op = 4 ∨ op = 5 ∨ op = 6 ∨ op = 7 ∨ op = 8 ∨ op = 9 ∨ op = 10 ∨ op = 11 ∨ op = 12 ∨ op = 13 ∨ op = 14 ∨ op = 15 ∨ op = 16 ∨ op = 17 ∨ op = 18 := by omega
theorem row1 : rowOf 1 = [100, 56] := by decide
theorem row2 : rowOf 2 = [100, 97] := by decide
theorem row3 : rowOf 3 = [111, 100, 97] := by decide
theorem row4 : rowOf 4 = [111, 100, 97, 98] := by decide
theorem row5 : rowOf 5 = [100, 49] := by decide
theorem row6 : rowOf 6 = [97, 49] := by decide
theorem row7 : rowOf 7 = [100, 97, 49] := by decide
theorem row8 : rowOf 8 = [97, 98, 49] := by decide
theorem row9 : rowOf 9 = [100] := by decide
theorem row10 : rowOf 10 = [97] := by decide
theorem row11 : rowOf 11 = [100, 52, 110] := by decide
theorem row12 : rowOf 12 = [100, 97, 110] := by decide
theorem row13 : rowOf 13 = [106] := by decide
theorem row14 : rowOf 14 = [97, 106] := by decide
theorem row15 : rowOf 15 = [97, 106] := by decide
theorem row16 : rowOf 16 = [97] := by decide
theorem row17 : rowOf 17 = [50] := by decide
theorem row18 : rowOf 18 = [100, 49] := by decide
theorem inSlot_iff {x : Int} : inSlot x = true ↔ 0 ≤ x ∧ x ≤ 249 := by simp [inSlot]
def lettersB (n : Nat) (x : UInt8) : Bool := (x.toNat != 111 || n == 3 || n == 4) && (x.toNat != 106 || n == 13 || n == 14 || n == 15) && (x.toNat != 110 || n == 11 || n == 12) &&
    (x.toNat != 49 || n == 5 || n == 6 || n == 7 || n == 8 || n == 18) && (x.toNat != 50 || n == 17) && (x.toNat != 52 || n == 11)
theorem lettersB_all : ((List.range 19).all fun n => (tbl0.getD n []).all (lettersB n)) = true := by decide
theorem letters (n : Nat) (hn : n < 19) (x : UInt8) (hx : x ∈ tbl0.getD n []) : (x.toNat = 111 → n = 3 ∨ n = 4) ∧ (x.toNat = 106 → n = 13 ∨ n = 14 ∨ n = 15) ∧ (x.toNat = 110 → n = 11 ∨ n = 12) ∧
    (x.toNat = 49 → n = 5 ∨ n = 6 ∨ n = 7 ∨ n = 8 ∨ n = 18) ∧ (x.toNat = 50 → n = 17) ∧ (x.toNat = 52 → n = 11) := by
  have h := List.all_eq_true.1 (List.all_eq_true.1 lettersB_all n (by simpa using hn)) x hx
  simp only [lettersB, Bool.and_eq_true, Bool.or_eq_true, bne_iff_ne, beq_iff_eq] at h
  omega
theorem good {op ar d a b v : Int} {wd : Bool} {args : List Int} (h : chk op ar d a b v wd args = 0) : ∀ x ∈ rowOf op, LOk ar d a b v wd args x := by
  obtain ⟨h1, h2, h3, h4⟩ := chk_ok.1 h
  have hop := opL_in h1
  have slot : ∀ y ∈ slotsL op d a b args, 0 ≤ y ∧ y ≤ 255 := fun y hy => by
    have := inSlot_iff.1 (List.all_eq_true.1 h2 y hy); omega
  intro x hx
  obtain ⟨q1, q2, q3, q4, q5, q6⟩ := letters op.toNat (by omega) x hx
  have sx : ∀ y ∈ slotL d a b args x, 0 ≤ y ∧ y ≤ 255 := fun y hy => slot y (List.mem_flatMap.2 ⟨x, hx, hy⟩)
  refine ⟨fun e => ?_, fun e => sx d (by simp [slotL, e]), fun e => sx a (by simp [slotL, e]), fun e => sx b (by simp [slotL, e]), fun e => ?_, fun e => ⟨?_, fun y hy => sx y (by simp [slotL, e, hy])⟩, fun e => ?_, fun e => ?_, fun e => ?_⟩
  · simp only [opL, Bool.and_eq_true, Bool.or_eq_true, Bool.not_eq_true', decide_eq_true_eq, decide_eq_false_iff_not] at h1
    have := q1 e
    omega
  · have : op = 13 ∨ op = 14 ∨ op = 15 := by have := q2 e; omega
    unfold valL at h4
    rw [if_neg (by omega), if_neg (by omega), if_neg (by omega), if_neg (by omega), if_pos (by omega)] at h4
    cases wd <;> simpa using h4
  · have : isN op = true := by
      have := q3 e
      have : op = 11 ∨ op = 12 := by omega
      rcases this with rfl | rfl <;> rfl
    rcases h3 with h3 | h3
    · omega
    · rw [this] at h3; cases h3
  · have : (5 ≤ op ∧ op ≤ 8) ∨ op = 18 := by have := q4 e; omega
    unfold valL at h4
    rcases this with h | h
    · rw [if_pos h] at h4; simp at h4; omega
    · rw [if_neg (by omega), if_neg (by omega), if_neg (by omega), if_pos h] at h4; simp at h4; omega
  · have : op = 17 := by have := q5 e; omega
    unfold valL at h4
    rw [if_neg (by omega), if_neg (by omega), if_pos this] at h4; simp at h4; omega
  · have : op = 11 := by have := q6 e; omega
    unfold valL at h4
    rw [if_neg (by omega), if_pos this] at h4; simp at h4; omega
/-- What is decoded is right, and has the same bytes. -/
theorem canon_ok {op ar d a b v : Int} {wd : Bool} {args : List Int} (h : chk op ar d a b v wd args = 0) {s : F6} (hs : s = canon op ar d a b v args) :
    chk op s.1 s.2.1 s.2.2.1 s.2.2.2.1 s.2.2.2.2.1 wd s.2.2.2.2.2 = 0 ∧ encL op s.1 s.2.1 s.2.2.1 s.2.2.2.1 s.2.2.2.2.1 wd s.2.2.2.2.2 = encL op ar d a b v wd args ∧ s.2.2.2.2.2.length ≤ args.length := by
  obtain ⟨h1, h2, h3, h4⟩ := chk_ok.1 h
  rw [chk_ok]
  have hop := op_cases (opL_in h1)
  unfold canon at hs
  unfold encL slotsL at *
  rcases hop with rfl | rfl | rfl | rfl | rfl | rfl | rfl | rfl | rfl | rfl | rfl | rfl | rfl | rfl | rfl | rfl | rfl | rfl
  · rw [row1] at hs h2 ⊢; simp [setF, encS, slotL, opL, valL, isN] at hs h1 h2 h3 h4 ⊢; subst hs; simp_all
  · rw [row2] at hs h2 ⊢; simp [setF, encS, slotL, opL, valL, isN] at hs h1 h2 h3 h4 ⊢; subst hs; simp_all
  · rw [row3] at hs h2 ⊢; simp [setF, encS, slotL, opL, valL, isN] at hs h1 h2 h3 h4 ⊢; subst hs; simp_all
  · rw [row4] at hs h2 ⊢; simp [setF, encS, slotL, opL, valL, isN] at hs h1 h2 h3 h4 ⊢; subst hs; simp_all
  · rw [row5] at hs h2 ⊢; simp [setF, encS, slotL, opL, valL, isN] at hs h1 h2 h3 h4 ⊢; subst hs; simp_all
  · rw [row6] at hs h2 ⊢; simp [setF, encS, slotL, opL, valL, isN] at hs h1 h2 h3 h4 ⊢; subst hs; simp_all
  · rw [row7] at hs h2 ⊢; simp [setF, encS, slotL, opL, valL, isN] at hs h1 h2 h3 h4 ⊢; subst hs; simp_all
  · rw [row8] at hs h2 ⊢; simp [setF, encS, slotL, opL, valL, isN] at hs h1 h2 h3 h4 ⊢; subst hs; simp_all
  · rw [row9] at hs h2 ⊢; simp [setF, encS, slotL, opL, valL, isN] at hs h1 h2 h3 h4 ⊢; subst hs; simp_all
  · rw [row10] at hs h2 ⊢; simp [setF, encS, slotL, opL, valL, isN] at hs h1 h2 h3 h4 ⊢; subst hs; simp_all
  · rw [row11] at hs h2 ⊢; simp [setF, encS, slotL, opL, valL, isN] at hs h1 h2 h3 h4 ⊢; subst hs; simp_all
  · rw [row12] at hs h2 ⊢; simp [setF, encS, slotL, opL, valL, isN] at hs h1 h2 h3 h4 ⊢; subst hs; simp_all
  · rw [row13] at hs h2 ⊢; simp [setF, encS, slotL, opL, valL, isN] at hs h1 h2 h3 h4 ⊢; subst hs; simp_all
  · rw [row14] at hs h2 ⊢; simp [setF, encS, slotL, opL, valL, isN] at hs h1 h2 h3 h4 ⊢; subst hs; simp_all
  · rw [row15] at hs h2 ⊢; simp [setF, encS, slotL, opL, valL, isN] at hs h1 h2 h3 h4 ⊢; subst hs; simp_all
  · rw [row16] at hs h2 ⊢; simp [setF, encS, slotL, opL, valL, isN] at hs h1 h2 h3 h4 ⊢; subst hs; simp_all
  · rw [row17] at hs h2 ⊢; simp [setF, encS, slotL, opL, valL, isN] at hs h1 h2 h3 h4 ⊢; subst hs; simp_all
  · rw [row18] at hs h2 ⊢; simp [setF, encS, slotL, opL, valL, isN] at hs h1 h2 h3 h4 ⊢; subst hs; simp_all
end Go.Fg.YtcehajipaclnlaaDoor
