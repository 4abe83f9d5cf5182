/-
  Chapter 2, plain: the sort of slices as the kit's functions on arrays (1): comparison, swaps, insertion, heap, reversal.
-/
import Derived.Test.YtjkkbncbgpfliaaFgB
import Derived.Test.YtjkkbncbgpfliaaZe
import Derived.Sort.AssemblyPlain
import Derived.Sort.LotD4
import Derived.Sort.LotD5
import Derived.Sort.LotD6
namespace Go.Fg.Ytjkkbncbgpfliaa
open Go.Fw Go.Sort
set_option linter.unusedVariables false
set_option linter.unusedSimpArgs false

theorem less_eq (a b : Int) : f34 a b = some (ltInt a b) := by
  unfold f34 f44
  simp [ltInt]

theorem get_eq (l : List Int) (i : Nat) : l.toArray[i]! = l.getD i 0 := by
  rw [List.getD_eq_getElem?_getD]
  simp [getElem!_def]
  rfl
theorem swp_eq (l : List Int) (i j : Nat) : swp l.toArray i j = ((l.set i (l.getD j 0)).set j (l.getD i 0)).toArray := by
  unfold swp
  rw [get_eq, get_eq]
  simp
theorem nn (x : Int) : ((x.toNat : Nat) : Int).toNat = x.toNat := rfl

/-- insertionSortOrdered -/
theorem ins_eq {a b : Nat} {l : List Int} (hab : a ≤ b) (hb : b ≤ l.length) (hl : l.length ≤ 1000000) : f28 a b l = some (insertionSort ltInt l.toArray a b).toList := by
  apply ok_eq
  unfold f28
  simp only [ok_bind, ok_ck, ok_some]
  rw [w64_of (x := (a : Int) + 1) (by omega)]
  refine ok_mono (Q := fun y => y.length = l.length ∧ y = (insertionSort ltInt l.toArray a b).toList) ?_ fun y hy => ⟨by simp [hy.1], hy.2⟩
  unfold insertionSort
  refine ok_loop (fun s : Int × List Int => (a : Int) < s.1 ∧ s.1 ≤ max (b : Int) (a + 1) ∧ s.2.length = l.length ∧ insOuter ltInt a b s.1.toNat s.2.toArray = insOuter ltInt a b (a + 1) l.toArray) (fun s => b + 1 - s.1.toNat)
    ⟨by simp only; omega, by simp only; omega, rfl, by simp only; rfl⟩ fun s ⟨h1, h2, h3, h4⟩ => ?_
  obtain ⟨i, m⟩ := s
  simp only at h1 h2 h3 h4
  simp only [ok_bif, ok_bind, ok_some, sumQ_inl, sumQ_inr, dec_iff, dec_iff']
  refine ⟨fun hlt => ?_, fun hge => ⟨h3, ?_⟩⟩
  · rw [insOuter, if_pos (by omega)] at h4
    refine ok_mono (Q := fun y => y.length = l.length ∧ y.toArray = insInner ltInt a i.toNat m.toArray) ?_ fun y hy => ?_
    · refine ok_loop (fun s : Int × List Int => (a : Int) ≤ s.1 ∧ s.1 ≤ i ∧ s.2.length = l.length ∧ insInner ltInt a s.1.toNat s.2.toArray = insInner ltInt a i.toNat m.toArray) (fun s => s.1.toNat)
        ⟨by simp only; omega, by simp only; omega, h3, rfl⟩ fun s ⟨g1, g2, g3, g4⟩ => ?_
      obtain ⟨j, r⟩ := s
      simp only at g1 g2 g3 g4
      simp only [ok_bif, ok_bind, ok_some, ok_ck, sumQ_inl, sumQ_inr, dec_iff, dec_iff', less_eq, inB_iff, nn]
      refine ⟨fun hj => ?_, fun hj => ⟨fun h => (by cases h), fun _ => ?_⟩⟩
      · rw [w64_of (x := j - 1) (by omega)]
        obtain ⟨k, rfl⟩ : ∃ k : Nat, j = (k : Int) + 1 := ⟨(j - 1).toNat, by omega⟩
        have e1 : ((k : Int) + 1 - 1).toNat = k := by omega
        have e2 : ((k : Int) + 1).toNat = k + 1 := by omega
        rw [e2, insInner, get_eq, get_eq] at g4
        rw [e1, e2]
        refine ⟨by omega, by omega, fun hc => ?_, fun hc => ?_⟩
        · rw [if_pos (by rw [hc, Bool.and_true]; exact decide_eq_true (by omega)), swp_eq] at g4
          refine ⟨by omega, by omega, by omega, by rw [List.length_set]; omega, ⟨by omega, by omega, by simp [g3], ?_⟩, by omega⟩
          exact g4
        · rw [if_neg (by rw [hc, Bool.and_false]; exact Bool.false_ne_true)] at g4
          exact ⟨g3, g4⟩
      · have e1 : j.toNat = a := by omega
        rw [e1] at g4
        refine ⟨g3, ?_⟩
        rw [← g4]
        cases a with
        | zero => rfl
        | succ a => rw [insInner, if_neg (by simp)]
    · rw [w64_of (x := i + 1) (by omega)]
      have e : (i + 1).toNat = i.toNat + 1 := by omega
      refine ⟨⟨by omega, by omega, hy.1, ?_⟩, by omega⟩
      simp only [e]; rw [hy.2]; exact h4
  · rw [insOuter, if_neg (by omega)] at h4
    rw [← h4]

/-- reverseRangeOrdered -/
theorem rev_eq {a b : Nat} {l : List Int} (hab : a < b) (hb : b ≤ l.length) (hl : l.length ≤ 1000000) : f32 a b l = some (reverseRange l.toArray a b).toList := by
  apply ok_eq
  unfold f32
  simp only [ok_bind, ok_ck, ok_some]
  rw [w64_of (x := (b : Int) - 1) (by omega)]
  refine ok_mono (Q := fun y => y.length = l.length ∧ y = (reverseRange l.toArray a b).toList) ?_ fun y hy => ⟨by simp [hy.1], hy.2⟩
  unfold reverseRange
  refine ok_loop (fun s : Int × Int × List Int => (a : Int) ≤ s.1 ∧ s.1 ≤ s.2.1 + 2 ∧ s.1 ≤ b ∧ s.2.1 < b ∧ (s.1 ≤ s.2.1 → 0 ≤ s.2.1) ∧ -1 ≤ s.2.1 ∧ s.2.2.length = l.length ∧ reverseLoop s.1.toNat s.2.1.toNat s.2.2.toArray = reverseLoop a (b - 1) l.toArray) (fun s => (s.2.1 + 1 - s.1).toNat)
    ⟨by simp only; omega, by simp only; omega, by simp only; omega, by simp only; omega, by simp only; omega, by simp only; omega, rfl, by simp only; congr 1; omega⟩ fun s ⟨h1, h2, h2', h3, h4, h5, h6, h7⟩ => ?_
  obtain ⟨i, j, m⟩ := s
  simp only at h1 h2 h2' h3 h4 h5 h6 h7
  simp only [ok_bif, ok_bind, ok_some, ok_ck, sumQ_inl, sumQ_inr, dec_iff, dec_iff', inB_iff, nn]
  refine ⟨fun hlt => ?_, fun hge => ⟨h6, ?_⟩⟩
  · rw [reverseLoop, if_pos (by omega), swp_eq] at h7
    rw [w64_of (x := i + 1) (by omega), w64_of (x := j - 1) (by omega)]
    refine ⟨by omega, by omega, by omega, by rw [List.length_set]; omega, ⟨by omega, by omega, by omega, by omega, by omega, by omega, by simp [h6], ?_⟩, by omega⟩
    have e1 : (i + 1).toNat = i.toNat + 1 := by omega
    have e2 : (j - 1).toNat = j.toNat - 1 := by omega
    simp only [e1, e2]; exact h7
  · rw [reverseLoop, if_neg (by omega)] at h7
    rw [← h7]
/-- siftDownOrdered -/
theorem sift_eq {root hi first : Nat} {l : List Int} (hb : first + hi ≤ l.length) (hr : root ≤ hi) (hl : l.length ≤ 1000000) : f39 root hi first l = some (siftDown ltInt hi first root l.toArray).toList := by
  apply ok_eq
  unfold f39
  simp only [ok_bind, ok_ck, ok_some, ok_bindE]
  refine ok_mono (Q := sumQ (fun y => y.length = l.length ∧ y = (siftDown ltInt hi first root l.toArray).toList) (fun y => y.length = l.length ∧ y = (siftDown ltInt hi first root l.toArray).toList)) ?_ fun y hy => ?_
  · refine ok_loop (fun s : Int × List Int => 0 ≤ s.1 ∧ s.1 ≤ hi ∧ s.2.length = l.length ∧ siftDown ltInt hi first s.1.toNat s.2.toArray = siftDown ltInt hi first root l.toArray) (fun s => hi - s.1.toNat)
      ⟨by simp only; omega, by simp only; omega, rfl, rfl⟩ fun s ⟨h1, h2, h3, h4⟩ => ?_
    obtain ⟨i, m⟩ := s
    simp only at h1 h2 h3 h4
    obtain ⟨i, rfl⟩ : ∃ k : Nat, i = (k : Int) := ⟨i.toNat, by omega⟩
    rw [Int.toNat_natCast] at h4
    simp only [ok_bif, ok_bind, ok_some, ok_ck, sumQ_inl, sumQ_inr, dec_iff, dec_iff', less_eq, inB_iff, nn, not_iff, not_iff']
    rw [w64_of (x := 2 * (i : Int)) (by omega), w64_of (x := 2 * (i : Int) + 1) (by omega), w64_of (x := 2 * (i : Int) + 1 + 1) (by omega)]
    rw [siftDown] at h4
    refine ⟨fun h => ⟨h3, ?_⟩, fun h => ?_⟩
    · rw [dif_pos (by omega)] at h4
      rw [← h4]
    · rw [dif_neg (by omega)] at h4
      rw [w64_of (x := (first : Int) + (2 * (i : Int) + 1)) (by omega), w64_of (x := (first : Int) + (2 * (i : Int) + 1) + 1) (by omega), w64_of (x := (first : Int) + i) (by omega)]
      have e1 : ((first : Int) + (2 * (i : Int) + 1)).toNat = first + (2 * i + 1) := by omega
      have e2 : ((first : Int) + (2 * (i : Int) + 1) + 1).toNat = first + (2 * i + 1) + 1 := by omega
      have e3 : ((first : Int) + i).toNat = first + i := by omega
      rw [e1, e2, e3]
      have child : ∀ c : Nat, c < hi → i < c → (siftDown ltInt hi first c (swp m.toArray (first + i) (first + c)) = siftDown ltInt hi first root l.toArray ∨ ltInt (m.getD (first + i) 0) (m.getD (first + c) 0) = false) →
          (ltInt (m.getD (first + i) 0) (m.getD (first + c) 0) = false → m.toArray = siftDown ltInt hi first root l.toArray) →
          (0 ≤ (first : Int) + i ∧ (first : Int) + i < m.length) ∧ (0 ≤ w64 ((first : Int) + c) ∧ w64 ((first : Int) + c) < m.length) ∧
            (ltInt (m.getD (first + i) 0) (m.getD (w64 ((first : Int) + c)).toNat 0) = false → m.length = l.length ∧ m = (siftDown ltInt hi first root l.toArray).toList) ∧
            (ltInt (m.getD (first + i) 0) (m.getD (w64 ((first : Int) + c)).toNat 0) = true → (0 ≤ w64 ((first : Int) + c) ∧ w64 ((first : Int) + c) < m.length) ∧ (0 ≤ (first : Int) + i ∧ (first : Int) + i < m.length) ∧ (0 ≤ (first : Int) + i ∧ (first : Int) + i < m.length) ∧
              (0 ≤ w64 ((first : Int) + c) ∧ w64 ((first : Int) + c) < (m.set (first + i) (m.getD (w64 ((first : Int) + c)).toNat 0)).length) ∧
              ((0 ≤ (c : Int) ∧ (c : Int) ≤ hi ∧ ((m.set (first + i) (m.getD (w64 ((first : Int) + c)).toNat 0)).set (w64 ((first : Int) + c)).toNat (m.getD (first + i) 0)).length = l.length ∧
                siftDown ltInt hi first (c : Int).toNat ((m.set (first + i) (m.getD (w64 ((first : Int) + c)).toNat 0)).set (w64 ((first : Int) + c)).toNat (m.getD (first + i) 0)).toArray = siftDown ltInt hi first root l.toArray) ∧ hi - (c : Int).toNat < hi - (i : Int).toNat)) := by
        intro c hc hic hd hn
        rw [w64_of (x := (first : Int) + c) (by omega)]
        have e4 : ((first : Int) + c).toNat = first + c := by omega
        rw [e4]
        refine ⟨by omega, by omega, fun hf => ⟨h3, by rw [← hn hf]⟩, fun ht => ⟨by omega, by omega, by omega, by rw [List.length_set]; omega, ⟨by omega, by omega, by simp [h3], ?_⟩, by omega⟩⟩
        rw [Int.toNat_natCast, ← swp_eq]
        rcases hd with hd | hd
        · exact hd
        · rw [ht] at hd; cases hd
      rw [get_eq, get_eq, get_eq, get_eq, show first + (2 * i + 2) = first + (2 * i + 1) + 1 from rfl] at h4
      have done1 : ((2 * i + 1 + 1 < hi ∧ ltInt (m.getD (first + (2 * i + 1)) 0) (m.getD (first + (2 * i + 1) + 1) 0) = true) → 
          (siftDown ltInt hi first (2 * i + 1 + 1) (swp m.toArray (first + i) (first + (2 * i + 1 + 1))) = siftDown ltInt hi first root l.toArray ∨ ltInt (m.getD (first + i) 0) (m.getD (first + (2 * i + 1 + 1)) 0) = false) ∧
          (ltInt (m.getD (first + i) 0) (m.getD (first + (2 * i + 1 + 1)) 0) = false → m.toArray = siftDown ltInt hi first root l.toArray)) := by
        intro ⟨k1, k2⟩
        rw [if_pos (by simp only [k2, Bool.and_true]; exact decide_eq_true k1)] at h4
        refine ⟨?_, fun hf => ?_⟩
        · cases hx : ltInt (m.getD (first + i) 0) (m.getD (first + (2 * i + 1 + 1)) 0) with
          | false => exact .inr rfl
          | true =>
            rw [show first + (2 * i + 1) + 1 = first + (2 * i + 1 + 1) from rfl, hx, if_neg (by simp), dif_pos k1] at h4
            exact .inl h4
        · rw [show first + (2 * i + 1) + 1 = first + (2 * i + 1 + 1) from rfl, hf, if_pos (by simp)] at h4
          exact h4
      have done2 : (¬ (2 * i + 1 + 1 < hi ∧ ltInt (m.getD (first + (2 * i + 1)) 0) (m.getD (first + (2 * i + 1) + 1) 0) = true) → 
          (siftDown ltInt hi first (2 * i + 1) (swp m.toArray (first + i) (first + (2 * i + 1))) = siftDown ltInt hi first root l.toArray ∨ ltInt (m.getD (first + i) 0) (m.getD (first + (2 * i + 1)) 0) = false) ∧
          (ltInt (m.getD (first + i) 0) (m.getD (first + (2 * i + 1)) 0) = false → m.toArray = siftDown ltInt hi first root l.toArray)) := by
        intro hk
        rw [if_neg (by simpa using hk)] at h4
        refine ⟨?_, fun hf => ?_⟩
        · cases hx : ltInt (m.getD (first + i) 0) (m.getD (first + (2 * i + 1)) 0) with
          | false => exact .inr rfl
          | true =>
            rw [hx, if_neg (by simp)] at h4
            exact .inl h4
        · rw [hf, if_pos (by simp)] at h4
          exact h4
      have c1 := fun hk => child (2 * i + 1 + 1) (And.left hk) (by omega) (done1 hk).1 (done1 hk).2
      have c2 := fun hk => child (2 * i + 1) (by omega) (by omega) (done2 hk).1 (done2 hk).2
      have ec : (((2 * i + 1 : Nat)) : Int) = 2 * (i : Int) + 1 := by omega
      rw [ec, w64_of (x := (first : Int) + (2 * (i : Int) + 1)) (by omega), e1] at c2
      refine ⟨fun k1 => ⟨by omega, by omega, fun k2 => ?_, fun k2 => ?_⟩, fun k1 => ⟨fun h => (by cases h), fun _ => ?_⟩⟩
      · exact c1 ⟨by omega, k2⟩
      · exact c2 (fun hh => by rw [k2] at hh; cases hh.2)
      · exact c2 (fun hh => by omega)
  · cases y with
    | inl y => exact ⟨by simp [hy.1], hy.2⟩
    | inr y => exact ⟨by simp [hy.1], hy.2⟩
end Go.Fg.Ytjkkbncbgpfliaa
