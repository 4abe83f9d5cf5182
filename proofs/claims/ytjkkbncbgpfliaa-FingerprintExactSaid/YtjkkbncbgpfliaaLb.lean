/-
  Chapter 2, plain: the sort of slices (2): heap sort, medians, the choice of a pivot.
-/
import Derived.Test.YtjkkbncbgpfliaaLa
namespace Go.Fg.Ytjkkbncbgpfliaa
open Go.Fw Go.Sort
set_option linter.unusedVariables false
set_option linter.unusedSimpArgs false

theorem sift_size (hi F : Nat) : ∀ (n root : Nat) (d : Array Int), hi - root ≤ n → (siftDown ltInt hi F root d).size = d.size
  | 0, root, d, h => by rw [siftDown, dif_pos (by omega)]
  | n + 1, root, d, h => by
    rw [siftDown]
    split
    · rfl
    · split
      · split
        · rfl
        · split
          · rw [sift_size hi F n _ _ (by omega), size_swp]
          · rfl
      · split
        · rfl
        · rw [sift_size hi F n _ _ (by omega), size_swp]
/-- heapSortOrdered -/
theorem heap_eq {a b : Nat} {l : List Int} (hab : a ≤ b) (hb : b ≤ l.length) (hl : l.length ≤ 1000000) : f29 a b l = some (heapSort ltInt l.toArray a b).toList := by
  apply ok_eq
  unfold f29
  simp only [ok_bind, ok_ck, ok_some]
  rw [w64_of (x := (b : Int) - a) (by omega), w64_of (x := (b : Int) - a - 1) (by omega)]
  have et : ((b : Int) - a - 1).tdiv 2 = (((b - a - 1) / 2 : Nat) : Int) := by
    rcases Nat.eq_or_lt_of_le hab with e | e
    · subst e
      have : (a : Int) - a - 1 = -1 := by omega
      rw [this, show (a - a - 1) / 2 = 0 from by rw [Nat.sub_self]]; rfl
    · rw [Int.tdiv_eq_ediv_of_nonneg (by omega)]; omega
  rw [et, w64_of (x := (((b - a - 1) / 2 : Nat) : Int)) (by omega)]
  unfold heapSort
  have eh : (b : Int) - a = ((b - a : Nat) : Int) := by omega
  refine ok_mono (Q := fun y => y.length = l.length ∧ y.toArray = heapBuild ltInt (b - a) a ((b - a - 1) / 2 + 1) l.toArray) ?_ fun y hy => ?_
  · refine ok_loop (fun s : Int × List Int => -1 ≤ s.1 ∧ s.1 ≤ (b : Int) - a ∧ s.2.length = l.length ∧ heapBuild ltInt (b - a) a (s.1 + 1).toNat s.2.toArray = heapBuild ltInt (b - a) a ((b - a - 1) / 2 + 1) l.toArray) (fun s => (s.1 + 1).toNat)
      ⟨by simp only; omega, by simp only; omega, rfl, by simp only; congr 1⟩ fun s ⟨h1, h2, h3, h4⟩ => ?_
    obtain ⟨i, m⟩ := s
    simp only at h1 h2 h3 h4
    simp only [ok_bif, ok_bind, ok_some, ok_ck, sumQ_inl, sumQ_inr, dec_iff, dec_iff']
    refine ⟨fun hi => ?_, fun hi => ⟨h3, ?_⟩⟩
    · obtain ⟨i, rfl⟩ : ∃ k : Nat, i = (k : Int) := ⟨i.toNat, by omega⟩
      rw [w64_of (x := (i : Int) - 1) (by omega), eh, sift_eq (by omega) (by omega) (by omega), ok_some]
      have e1 : ((i : Int) + 1).toNat = i + 1 := by omega
      have e2 : ((i : Int) - 1 + 1).toNat = i := by omega
      rw [e1, heapBuild] at h4
      have hlen : (siftDown ltInt (b - a) a i m.toArray).toList.length = l.length := by
        rw [Array.length_toList, sift_size _ _ _ _ _ (Nat.le_refl _)]; simpa using h3
      refine ⟨⟨by omega, by omega, hlen, ?_⟩, by omega⟩
      rw [e2]; exact h4
    · have e : (i + 1).toNat = 0 := by omega
      rw [e] at h4; exact h4
  · obtain ⟨hy1, hy2⟩ := hy
    rw [← hy2]
    refine ok_mono (Q := fun z => z.length = l.length ∧ z.toArray = heapPop ltInt a (b - a) y.toArray) ?_ fun z hz => ⟨by simp [hz.1], by rw [← hz.2]⟩
    refine ok_loop (fun s : Int × List Int => -1 ≤ s.1 ∧ s.1 < (b : Int) - a ∧ s.2.length = l.length ∧ heapPop ltInt a (s.1 + 1).toNat s.2.toArray = heapPop ltInt a (b - a) y.toArray) (fun s => (s.1 + 1).toNat)
      ⟨by simp only; omega, by simp only; omega, hy1, by simp only; congr 1; omega⟩ fun s ⟨h1, h2, h3, h4⟩ => ?_
    obtain ⟨i, m⟩ := s
    simp only at h1 h2 h3 h4
    simp only [ok_bif, ok_bind, ok_some, ok_ck, sumQ_inl, sumQ_inr, dec_iff, dec_iff', inB_iff, nn]
    refine ⟨fun hi => ?_, fun hi => ⟨h3, ?_⟩⟩
    · obtain ⟨i, rfl⟩ : ∃ k : Nat, i = (k : Int) := ⟨i.toNat, by omega⟩
      rw [w64_of (x := (i : Int) - 1) (by omega), w64_of (x := (a : Int) + i) (by omega)]
      have e0 : ((a : Int) + i).toNat = a + i := by omega
      have e1 : ((i : Int) + 1).toNat = i + 1 := by omega
      have e2 : ((i : Int) - 1 + 1).toNat = i := by omega
      have e3 : ((a : Int)).toNat = a := Int.toNat_natCast a
      rw [e1, heapPop, swp_eq] at h4
      rw [e0, e3]
      have hml : ((m.set a (m.getD (a + i) 0)).set (a + i) (m.getD a 0)).length = l.length := by simp [h3]
      have hs := sift_eq (root := 0) (hi := i) (first := a) (l := (m.set a (m.getD (a + i) 0)).set (a + i) (m.getD a 0)) (by omega) (by omega) (by omega)
      rw [show ((0 : Nat) : Int) = 0 from rfl] at hs
      rw [hs, ok_some]
      have hlen : (siftDown ltInt i a 0 ((m.set a (m.getD (a + i) 0)).set (a + i) (m.getD a 0)).toArray).toList.length = l.length := by
        rw [Array.length_toList, sift_size _ _ _ _ _ (Nat.le_refl _)]; simpa using h3
      refine ⟨by omega, by omega, by omega, by rw [List.length_set]; omega, ⟨by omega, by omega, hlen, ?_⟩, by omega⟩
      rw [e2]; exact h4
    · have e : (i + 1).toNat = 0 := by omega
      rw [e] at h4
      exact h4

theorem ord_eq {l : List Int} {i j k : Nat} (hi : i < l.length) (hj : j < l.length) (hk : k ≤ 1000) (hl : l.length ≤ 1000000) :
    f45 l i j k = some (((order2 ltInt l.toArray i j k).1 : Int), (((order2 ltInt l.toArray i j k).2.1 : Int), ((order2 ltInt l.toArray i j k).2.2 : Int))) := by
  apply ok_eq
  unfold f45 order2
  simp only [ok_bind, ok_ck, ok_some, ok_bif, less_eq, inB_iff, get_eq, Int.toNat_natCast]
  refine ⟨by omega, by omega, fun h => ?_, fun h => ?_⟩
  · rw [w64_of (by omega), h, if_pos rfl]; rfl
  · rw [h, if_neg (by simp)]
theorem ord_lt {l : List Int} {i j k : Nat} (hi : i < l.length) (hj : j < l.length) : (order2 ltInt l.toArray i j k).1 < l.length ∧ (order2 ltInt l.toArray i j k).2.1 < l.length ∧ (order2 ltInt l.toArray i j k).2.2 ≤ k + 1 := by
  unfold order2
  split <;> refine ⟨?_, ?_, ?_⟩ <;> simp only <;> omega
theorem med_eq {l : List Int} {a b c k : Nat} (ha : a < l.length) (hb : b < l.length) (hc : c < l.length) (hk : k ≤ 500) (hl : l.length ≤ 1000000) :
    f43 l a b c k = some (((median ltInt l.toArray a b c k).1 : Int), ((median ltInt l.toArray a b c k).2 : Int)) := by
  unfold f43 median
  have h1 := ord_lt (k := k) ha hb
  rw [ord_eq ha hb (by omega) hl]
  simp only [Option.bind_some]
  have h2 := ord_lt (k := (order2 ltInt l.toArray a b k).2.2) h1.2.1 hc
  rw [ord_eq h1.2.1 hc (by omega) hl]
  simp only [Option.bind_some]
  rw [ord_eq h1.1 h2.1 (by omega) hl]
  simp only [Option.bind_some]
theorem med_lt {l : List Int} {a b c k : Nat} (ha : a < l.length) (hb : b < l.length) (hc : c < l.length) : (median ltInt l.toArray a b c k).1 < l.length ∧ (median ltInt l.toArray a b c k).2 ≤ k + 3 := by
  refine ⟨?_, median_count ltInt _ _ _ _ _⟩
  rcases median_mem ltInt l.toArray a b c k with h | h | h <;> rw [h] <;> assumption
theorem adj_eq {l : List Int} {a k : Nat} (h1 : 1 ≤ a) (ha : a + 1 < l.length) (hk : k ≤ 500) (hl : l.length ≤ 1000000) :
    f42 l a k = some (((medianAdjacent ltInt l.toArray a k).1 : Int), ((medianAdjacent ltInt l.toArray a k).2 : Int)) := by
  unfold f42 medianAdjacent
  have e1 : w64 ((a : Int) - 1) = ((a - 1 : Nat) : Int) := by rw [w64_of (by omega)]; omega
  have e2 : w64 ((a : Int) + 1) = ((a + 1 : Nat) : Int) := by rw [w64_of (by omega)]; omega
  simp only [e1, e2]
  rw [med_eq (by omega) (by omega) ha hk hl]
  rfl
theorem adj_lt {l : List Int} {a k : Nat} (h1 : 1 ≤ a) (ha : a + 1 < l.length) : (medianAdjacent ltInt l.toArray a k).1 < l.length ∧ (medianAdjacent ltInt l.toArray a k).2 ≤ k + 3 :=
  med_lt (by omega) (by omega) ha

theorem tdiv_nat (x k : Nat) : Int.tdiv (x : Int) (k : Int) = ((x / k : Nat) : Int) := by
  rw [Int.tdiv_eq_ediv_of_nonneg (by omega)]; rfl
theorem pivot_eq {a b : Nat} {l : List Int} (hab : a < b) (hb : b ≤ l.length) (hl : l.length ≤ 1000000) : f31 l a b = some (((choosePivot ltInt l.toArray a b).1 : Int), hintCode (choosePivot ltInt l.toArray a b).2) := by
  have em : (b : Int) - a = ((b - a : Nat) : Int) := by omega
  have e4 : w64 ((((b - a : Nat) : Int)).tdiv 4) = (((b - a) / 4 : Nat) : Int) := by rw [show (4 : Int) = ((4 : Nat) : Int) from rfl, tdiv_nat, w64_of (by omega)]
  have hq : ∀ c : Nat, c ≤ 3 → w64 ((a : Int) + w64 ((((b - a) / 4 : Nat) : Int) * (c : Int))) = ((a + (b - a) / 4 * c : Nat) : Int) := by
    intro c hc
    have h0 : (b - a) / 4 * c ≤ b - a := by
      have := Nat.mul_le_mul_left ((b - a) / 4) hc
      omega
    have h1 : (((b - a) / 4 : Nat) : Int) * (c : Int) = (((b - a) / 4 * c : Nat) : Int) := by rw [Int.natCast_mul]
    rw [h1, w64_of (x := (((b - a) / 4 * c : Nat) : Int)) (by omega), w64_of (by omega)]
    omega
  have q1 := hq 1 (by omega)
  have q2 := hq 2 (by omega)
  have q3 := hq 3 (by omega)
  have n0 : ∀ c : Nat, c ≤ 3 → a + (b - a) / 4 * c < l.length := by
    intro c hc
    have := Nat.mul_le_mul_left ((b - a) / 4) hc
    omega
  unfold f31
  simp only [em]
  rw [w64_of (x := ((b - a : Nat) : Int)) (by omega)]
  simp only [e4]
  rw [show ((1 : Nat) : Int) = 1 from rfl] at q1
  rw [show ((2 : Nat) : Int) = 2 from rfl] at q2
  rw [show ((3 : Nat) : Int) = 3 from rfl] at q3
  rw [q1, q2, q3]
  unfold choosePivot
  simp only
  have fin : ∀ r : Nat × Nat, (bif decide (((r.2 : Nat) : Int) = 0) then some ((r.1 : Int), (1 : Int)) else bif decide (((r.2 : Nat) : Int) = 12) then some ((r.1 : Int), (2 : Int)) else some ((r.1 : Int), (0 : Int))) =
      some ((r.1 : Int), hintCode (if r.2 = 0 then .increasing else if r.2 = 12 then .decreasing else .unknown)) := by
    intro r
    by_cases h0 : r.2 = 0
    · rw [if_pos h0, show (decide (((r.2 : Nat) : Int) = 0)) = true from by simp [h0]]; rfl
    · rw [if_neg h0, show (decide (((r.2 : Nat) : Int) = 0)) = false from by simp; omega]
      by_cases h1 : r.2 = 12
      · rw [if_pos h1, show (decide (((r.2 : Nat) : Int) = 12)) = true from by simp [h1]]; rfl
      · rw [if_neg h1, show (decide (((r.2 : Nat) : Int) = 12)) = false from by simp; omega]; rfl
  by_cases h8 : b - a ≥ 8
  · rw [show decide ((8 : Int) ≤ ((b - a : Nat) : Int)) = true from by simp; omega, if_pos h8]
    by_cases h50 : b - a ≥ 50
    · rw [show decide ((50 : Int) ≤ ((b - a : Nat) : Int)) = true from by simp; omega, if_pos h50]
      have g : ∀ c : Nat, 1 ≤ c → c ≤ 3 → 1 ≤ a + (b - a) / 4 * c ∧ a + (b - a) / 4 * c + 1 < l.length := by
        intro c h1 h3
        have := Nat.mul_le_mul_left ((b - a) / 4) h3
        have := Nat.mul_le_mul_left ((b - a) / 4) h1
        omega
      have g1 := g 1 (by omega) (by omega)
      have g2 := g 2 (by omega) (by omega)
      have g3 := g 3 (by omega) (by omega)
      simp only [cond_true]
      have a1 := adj_lt (k := 0) g1.1 g1.2
      have z1 := adj_eq (k := 0) g1.1 g1.2 (by omega) hl
      rw [show ((0 : Nat) : Int) = 0 from rfl] at z1
      rw [z1, Option.bind_some]
      have a2 := adj_lt (k := (medianAdjacent ltInt l.toArray (a + (b - a) / 4 * 1) 0).2) g2.1 g2.2
      rw [adj_eq g2.1 g2.2 (by omega) hl, Option.bind_some]
      have a3 := adj_lt (k := (medianAdjacent ltInt l.toArray (a + (b - a) / 4 * 2) (medianAdjacent ltInt l.toArray (a + (b - a) / 4 * 1) 0).2).2) g3.1 g3.2
      rw [adj_eq g3.1 g3.2 (by omega) hl, Option.bind_some, Option.bind_some]
      rw [med_eq a1.1 a2.1 a3.1 (by omega) hl, Option.bind_some, Option.bind_some]
      exact fin (median ltInt l.toArray _ _ _ _)
    · rw [show decide ((50 : Int) ≤ ((b - a : Nat) : Int)) = false from by simp; omega, if_neg h50]
      simp only [cond_true, cond_false, Option.bind_some]
      have z := med_eq (l := l) (k := 0) (n0 1 (by omega)) (n0 2 (by omega)) (n0 3 (by omega)) (by omega) hl
      rw [show ((0 : Nat) : Int) = 0 from rfl] at z
      rw [z, Option.bind_some, Option.bind_some]
      exact fin (median ltInt l.toArray _ _ _ _)
  · rw [show decide ((8 : Int) ≤ ((b - a : Nat) : Int)) = false from by simp; omega, if_neg h8]
    simp only [cond_false, Option.bind_some]
    exact fin (a + (b - a) / 4 * 2, 0)
end Go.Fg.Ytjkkbncbgpfliaa
