/-
  Chapter 2, plain: the sort of slices (4): the partitions, the partial insertion sort.
-/
import Derived.Test.YtjkkbncbgpfliaaLc
namespace Go.Fg.Ytjkkbncbgpfliaa
open Go.Fw Go.Sort
set_option linter.unusedVariables false
set_option linter.unusedSimpArgs false

theorem scan_up {d : List Int} {p : Int → Bool} {J i : Nat} {body : Int → Option (Int ⊕ Int)} (hi : i ≤ J + 1)
    (h : ∀ k : Nat, i ≤ k → k ≤ J + 1 → body k = bif decide (k ≤ J) && p (d.getD k 0) then some (.inl ((k + 1 : Nat) : Int)) else some (.inr (k : Int))) :
    loopM body (i : Int) = some ((scanUp p d.toArray J i : Nat) : Int) := by
  apply ok_eq
  refine ok_loop (fun s : Int => ∃ k : Nat, s = k ∧ i ≤ k ∧ k ≤ J + 1 ∧ scanUp p d.toArray J k = scanUp p d.toArray J i) (fun s : Int => J + 1 - s.toNat) ⟨i, rfl, Nat.le_refl _, hi, rfl⟩ fun s ⟨k, h0, h1, h2, h3⟩ => ?_
  subst h0
  rw [h k h1 h2]
  rw [scanUp, get_eq] at h3
  cases hc : (decide (k ≤ J) && p (d.getD k 0)) with
  | true =>
    rw [if_pos hc] at h3
    have hk : k ≤ J := by have := (Bool.and_eq_true _ _).mp hc; simpa using this.1
    exact ok_some.2 ⟨⟨k + 1, rfl, by omega, by omega, h3⟩, by omega⟩
  | false =>
    rw [if_neg (by rw [hc]; simp)] at h3
    exact ok_some.2 (by rw [← h3]; rfl)
theorem scan_down {d : List Int} {p : Int → Bool} {i j : Nat} {body : Int → Option (Int ⊕ Int)} (hi : 1 ≤ i)
    (h : ∀ k : Nat, k ≤ j → body k = bif decide (i ≤ k) && p (d.getD k 0) then some (.inl ((k : Int) - 1)) else some (.inr (k : Int))) :
    loopM body (j : Int) = some ((scanDown p d.toArray i j : Nat) : Int) := by
  apply ok_eq
  refine ok_loop (fun s : Int => ∃ k : Nat, s = k ∧ k ≤ j ∧ scanDown p d.toArray i k = scanDown p d.toArray i j) (fun s : Int => s.toNat) ⟨j, rfl, Nat.le_refl _, rfl⟩ fun s ⟨k, h0, h1, h3⟩ => ?_
  subst h0
  rw [h k h1]
  cases k with
  | zero =>
    rw [show (decide (i ≤ 0)) = false from by simp; omega]
    refine ok_some.2 ?_
    rw [sumQ_inr, ← h3]; rfl
  | succ k =>
    rw [scanDown, get_eq] at h3
    cases hc : (decide (i ≤ k + 1) && p (d.getD (k + 1) 0)) with
    | true =>
      rw [if_pos hc] at h3
      exact ok_some.2 ⟨⟨k, by omega, by omega, h3⟩, by omega⟩
    | false =>
      rw [if_neg (by rw [hc]; simp)] at h3
      exact ok_some.2 (by rw [← h3]; rfl)

theorem ck_true {R : Type} {b : Bool} {x : Option R} (h : b = true) : ck b x = x := by rw [h]; rfl
theorem inB_true {k n : Nat} (h : k < n) : inB (k : Int) n = true := inB_iff.2 (by omega)

/-- partitionEqualOrdered -/
theorem parteq_eq {a b pv : Nat} {l : List Int} (h1 : a ≤ pv) (h2 : pv < b) (hb : b ≤ l.length) (hl : l.length ≤ 1000000) :
    (f35 a b pv l = some (((partitionEqual ltInt l.toArray a b pv).1 : Int), (partitionEqual ltInt l.toArray a b pv).2.toList)) ∧ a < (partitionEqual ltInt l.toArray a b pv).1 ∧ (partitionEqual ltInt l.toArray a b pv).1 ≤ b ∧
      (partitionEqual ltInt l.toArray a b pv).2.size = l.length := by
  suffices h : Ok (f35 a b pv l) fun y => y = (((partitionEqual ltInt l.toArray a b pv).1 : Int), (partitionEqual ltInt l.toArray a b pv).2.toList) ∧ a < (partitionEqual ltInt l.toArray a b pv).1 ∧ (partitionEqual ltInt l.toArray a b pv).1 ≤ b ∧
      (partitionEqual ltInt l.toArray a b pv).2.size = l.length by
    obtain ⟨y, hy, e, h⟩ := h
    exact ⟨by rw [hy, e], h⟩
  unfold f35
  simp only [less_eq, nn, Option.bind_some]
  rw [ok_bind]
  unfold partitionEqual
  rw [swp_eq]
  simp only [ok_ck, Int.toNat_natCast, List.length_set]
  refine ⟨inB_true (by omega), inB_true (by omega), inB_true (by omega), inB_true (by omega), ?_⟩
  rw [w64_of (x := (a : Int) + 1) (by omega), w64_of (x := (b : Int) - 1) (by omega)]
  generalize hm0 : (l.set a (l.getD pv 0)).set pv (l.getD a 0) = m0
  have hm0l : m0.length = l.length := by rw [← hm0]; simp
  generalize hR : partEqLoop ltInt a (a + 1) (b - 1) m0.toArray = R
  rw [ok_bind]
  refine ok_mono (Q := fun y => y = ((R.1 : Int), R.2.toList) ∧ a < R.1 ∧ R.1 ≤ b ∧ R.2.size = l.length) ?_ fun y hy => ?_
  · refine ok_loop (fun s : Int × Int × List Int => ∃ i j : Nat, s.1 = i ∧ s.2.1 = j ∧ a < i ∧ i ≤ j + 1 ∧ j < b ∧ s.2.2.length = l.length ∧ partEqLoop ltInt a i j s.2.2.toArray = R) (fun s => (s.2.1 + 1 - s.1).toNat)
      ⟨a + 1, b - 1, by simp, by simp only; omega, by omega, by omega, by omega, hm0l, hR⟩ fun s ⟨i, j, g1, g2, g3, g4, g5, g6, g7⟩ => ?_
    obtain ⟨i', j', m⟩ := s
    simp only at g1 g2 g6 g7
    subst g1; subst g2
    rw [partEqLoop_eq] at g7
    have up : ∀ body : Int → Option (Int ⊕ Int), (∀ k : Nat, i ≤ k → k ≤ j + 1 → body k = bif decide (k ≤ j) && (fun x => !ltInt m.toArray[a]! x) (m.getD k 0) then some (.inl ((k + 1 : Nat) : Int)) else some (.inr (k : Int))) →
      loopM body (i : Int) = some ((scanUp (fun x => !ltInt m.toArray[a]! x) m.toArray j i : Nat) : Int) := fun body hb => scan_up g4 hb
    have s1 := scanUp_spec (fun x => !ltInt m.toArray[a]! x) m.toArray j _ i rfl
    have s2 := scanDown_spec (fun x => ltInt m.toArray[a]! x) m.toArray (scanUp (fun x => !ltInt m.toArray[a]! x) m.toArray j i) j
    have dn : ∀ (i2 : Nat) (body : Int → Option (Int ⊕ Int)), 1 ≤ i2 → (∀ k : Nat, k ≤ j → body k = bif decide (i2 ≤ k) && (fun x => ltInt m.toArray[a]! x) (m.getD k 0) then some (.inl ((k : Int) - 1)) else some (.inr (k : Int))) →
      loopM body (j : Int) = some ((scanDown (fun x => ltInt m.toArray[a]! x) m.toArray i2 j : Nat) : Int) := fun i2 body h1 hb => scan_down h1 hb
    simp only
    rw [ok_bind, up, ok_some]
    rotate_left
    · intro k k1 k2
      rw [get_eq]
      rcases Nat.lt_or_ge j k with h | h
      · rw [show decide ((k : Int) ≤ j) = false from by simp; omega, show decide (k ≤ j) = false from by simp; omega]; rfl
      · rw [show decide ((k : Int) ≤ j) = true from by simp; omega, show decide (k ≤ j) = true from by simp; omega, ck_true (inB_true (by omega)), ck_true (inB_true (by omega)), w64_of (by omega)]
        simp only [cond_true, Bool.true_and, Option.bind_some, Int.toNat_natCast]; rfl
    generalize scanUp (fun x => !ltInt m.toArray[a]! x) m.toArray j i = i2 at *
    rw [ok_bind, dn i2, ok_some]
    rotate_left
    · omega
    · intro k k2
      rw [get_eq]
      rcases Nat.lt_or_ge k i2 with h | h
      · rw [show decide ((i2 : Int) ≤ k) = false from by simp; omega, show decide (i2 ≤ k) = false from by simp; omega]; rfl
      · rw [show decide ((i2 : Int) ≤ k) = true from by simp; omega, show decide (i2 ≤ k) = true from by simp; omega, ck_true (inB_true (by omega)), ck_true (inB_true (by omega)), w64_of (by omega)]
        simp only [cond_true, Bool.true_and, Option.bind_some, Int.toNat_natCast]
    generalize scanDown (fun x => ltInt m.toArray[a]! x) m.toArray i2 j = j2 at *
    simp only [ok_bif, ok_some, ok_ck, sumQ_inl, sumQ_inr, dec_iff, dec_iff', Int.toNat_natCast, List.length_set]
    have r1 := s1.2.1 g4
    have r2 := s2.2.1 r1
    have r3 : i2 ≤ j2 → i2 < j2 := fun h => Nat.lt_of_le_of_ne h fun e => by
      have a1 := s1.2.2.2 (by omega)
      have a2 := s2.2.2.2 h (by omega)
      rw [← e] at a2
      simp only [a2] at a1
      cases a1
    refine ⟨fun hlt => ?_, fun hge => ⟨inB_true (by omega), inB_true (by omega), inB_true (by omega), inB_true (by omega), ?_, ?_⟩⟩
    · rw [if_pos (by omega)] at g7
      rw [← g7]
      exact ⟨rfl, by simp only; omega, by simp only; omega, by simpa using g6⟩
    · rw [if_neg (by omega), swp_eq] at g7
      exact ⟨i2 + 1, j2 - 1, by rw [w64_of (by omega)]; omega, by rw [w64_of (by omega)]; omega, by omega, by omega, by omega, by simp [g6], g7⟩
    · rw [w64_of (by omega), w64_of (by omega)]
      omega
  · obtain ⟨e, hy⟩ := hy
    rw [e]
    simp only [ok_ck, ok_some]
    exact ⟨by simp [hy.2.2], trivial, hy⟩

/-- partitionOrdered -/
theorem part_eq {a b pv : Nat} {l : List Int} (h1 : a ≤ pv) (h2 : pv < b) (hb : b ≤ l.length) (hl : l.length ≤ 1000000) :
    f36 a b pv l = some (((partition ltInt l.toArray a b pv).1 : Int), ((partition ltInt l.toArray a b pv).2.1, (partition ltInt l.toArray a b pv).2.2.toList)) := by
  apply ok_eq
  have hPm := (partition_holds (lt := ltInt) swo_ltInt l.toArray a b pv h1 h2 (by simpa using hb)).2.2.1.1
  unfold f36
  simp only [less_eq, nn, Option.bind_some]
  rw [ok_bind]
  refine ok_mono (Q := fun y => y = (((partition ltInt l.toArray a b pv).1 : Int), ((partition ltInt l.toArray a b pv).2.1, (partition ltInt l.toArray a b pv).2.2.toList))) ?_ fun y hy => by
    rw [ok_ck, ok_some]
    refine ⟨?_, hy⟩
    rw [hy]
    simp only [Array.length_toList, hPm]
    simp
  clear hPm
  unfold partition
  rw [swp_eq]
  simp only [ok_ck, Int.toNat_natCast, List.length_set]
  refine ⟨inB_true (by omega), inB_true (by omega), inB_true (by omega), inB_true (by omega), ?_⟩
  rw [w64_of (x := (a : Int) + 1) (by omega), w64_of (x := (b : Int) - 1) (by omega)]
  generalize hm0 : (l.set a (l.getD pv 0)).set pv (l.getD a 0) = m0
  have hm0l : m0.length = l.length := by rw [← hm0]; simp
  clear hm0
  have eb : (b : Int) - 1 = ((b - 1 : Nat) : Int) := by omega
  have ea : (a : Int) + 1 = ((a + 1 : Nat) : Int) := by omega
  rw [eb, ea]
  -- the two scans
  have up : ∀ (m : List Int) (i j : Nat) (body : Int → Option (Int ⊕ Int)), i ≤ j + 1 → (∀ k : Nat, i ≤ k → k ≤ j + 1 → body k = bif decide (k ≤ j) && (fun x => ltInt x m.toArray[a]!) (m.getD k 0) then some (.inl ((k + 1 : Nat) : Int)) else some (.inr (k : Int))) →
      loopM body (i : Int) = some ((scanUp (fun x => ltInt x m.toArray[a]!) m.toArray j i : Nat) : Int) := fun m i j body g4 hb => scan_up g4 hb
  have dn : ∀ (m : List Int) (i2 j : Nat) (body : Int → Option (Int ⊕ Int)), 1 ≤ i2 → (∀ k : Nat, k ≤ j → body k = bif decide (i2 ≤ k) && (fun x => !ltInt x m.toArray[a]!) (m.getD k 0) then some (.inl ((k : Int) - 1)) else some (.inr (k : Int))) →
      loopM body (j : Int) = some ((scanDown (fun x => !ltInt x m.toArray[a]!) m.toArray i2 j : Nat) : Int) := fun m i2 j body h1 hb => scan_down h1 hb
  have s1 := scanUp_spec (fun x => ltInt x m0.toArray[a]!) m0.toArray (b - 1) _ (a + 1) rfl
  have s2 := scanDown_spec (fun x => !ltInt x m0.toArray[a]!) m0.toArray (scanUp (fun x => ltInt x m0.toArray[a]!) m0.toArray (b - 1) (a + 1)) (b - 1)
  rw [ok_bind, up m0 (a + 1) (b - 1) _ (by omega), ok_some]
  rotate_left
  · intro k k1 k2
    rw [get_eq]
    rcases Nat.lt_or_ge (b - 1) k with h | h
    · rw [show decide ((k : Int) ≤ ((b - 1 : Nat) : Int)) = false from by simp; omega, show decide (k ≤ b - 1) = false from by simp; omega]; rfl
    · rw [show decide ((k : Int) ≤ ((b - 1 : Nat) : Int)) = true from by simp; omega, show decide (k ≤ b - 1) = true from by simp; omega, ck_true (inB_true (by omega)), ck_true (inB_true (by omega)), w64_of (by omega)]
      simp only [cond_true, Bool.true_and, Option.bind_some, Int.toNat_natCast]; rfl
  generalize scanUp (fun x => ltInt x m0.toArray[a]!) m0.toArray (b - 1) (a + 1) = i2 at *
  rw [ok_bind, dn m0 i2 (b - 1) _ (by omega), ok_some]
  rotate_left
  · intro k k2
    rw [get_eq]
    rcases Nat.lt_or_ge k i2 with h | h
    · rw [show decide ((i2 : Int) ≤ k) = false from by simp; omega, show decide (i2 ≤ k) = false from by simp; omega]; rfl
    · rw [show decide ((i2 : Int) ≤ k) = true from by simp; omega, show decide (i2 ≤ k) = true from by simp; omega, ck_true (inB_true (by omega)), ck_true (inB_true (by omega)), w64_of (by omega)]
      simp only [cond_true, Bool.true_and, Option.bind_some, Int.toNat_natCast]
  generalize scanDown (fun x => !ltInt x m0.toArray[a]!) m0.toArray i2 (b - 1) = j2 at *
  have r1 := s1.2.1 (by omega)
  have r2 := s2.2.1 r1
  have r3 : i2 ≤ j2 → i2 < j2 := fun h => Nat.lt_of_le_of_ne h fun e => by
    have a1 := s1.2.2.2 (by omega)
    have a2 := s2.2.2.2 h (by omega)
    rw [← e] at a2
    simp only [a1] at a2
    cases a2
  rw [ok_bif]
  refine ⟨fun hlt => ?_, fun hge => ?_⟩
  · rw [dec_iff] at hlt
    rw [if_pos (by omega), swp_eq]
    simp only [ok_ck, ok_some, Int.toNat_natCast, List.length_set]
    exact ⟨inB_true (by omega), inB_true (by omega), inB_true (by omega), inB_true (by omega), trivial⟩
  · rw [dec_iff'] at hge
    rw [if_neg (by omega), swp_eq]
    simp only [ok_ck, Int.toNat_natCast, List.length_set]
    refine ⟨inB_true (by omega), inB_true (by omega), inB_true (by omega), inB_true (by omega), ?_⟩
    generalize hm1 : (m0.set i2 (m0.getD j2 0)).set j2 (m0.getD i2 0) = m1
    have hm1l : m1.length = l.length := by rw [← hm1]; simp [hm0l]
    clear hm1
    rw [w64_of (x := (i2 : Int) + 1) (by omega), w64_of (x := (j2 : Int) - 1) (by omega)]
    generalize hR : partLoop ltInt a (i2 + 1) (j2 - 1) m1.toArray = R
    rw [ok_bind]
    refine ok_mono (Q := fun y => y = ((R.1 : Int), R.2.toList) ∧ a ≤ R.1 ∧ R.1 < b ∧ R.2.size = l.length) ?_ fun y hy => ?_
    · refine ok_loop (fun s : Int × Int × List Int => ∃ i j : Nat, s.1 = i ∧ s.2.1 = j ∧ a < i ∧ i ≤ j + 1 ∧ j < b ∧ s.2.2.length = l.length ∧ partLoop ltInt a i j s.2.2.toArray = R) (fun s => (s.2.1 + 1 - s.1).toNat)
        ⟨i2 + 1, j2 - 1, by simp, by simp only; omega, by omega, by omega, by omega, hm1l, hR⟩ fun s ⟨i, j, g1, g2, g3, g4, g5, g6, g7⟩ => ?_
      obtain ⟨i', j', m⟩ := s
      simp only at g1 g2 g6 g7
      subst g1; subst g2
      rw [partLoop_eq] at g7
      have t1 := scanUp_spec (fun x => ltInt x m.toArray[a]!) m.toArray j _ i rfl
      have t2 := scanDown_spec (fun x => !ltInt x m.toArray[a]!) m.toArray (scanUp (fun x => ltInt x m.toArray[a]!) m.toArray j i) j
      simp only
      rw [ok_bind, up m i j _ g4, ok_some]
      rotate_left
      · intro k k1 k2
        rw [get_eq]
        rcases Nat.lt_or_ge j k with h | h
        · rw [show decide ((k : Int) ≤ j) = false from by simp; omega, show decide (k ≤ j) = false from by simp; omega]; rfl
        · rw [show decide ((k : Int) ≤ j) = true from by simp; omega, show decide (k ≤ j) = true from by simp; omega, ck_true (inB_true (by omega)), ck_true (inB_true (by omega)), w64_of (by omega)]
          simp only [cond_true, Bool.true_and, Option.bind_some, Int.toNat_natCast]; rfl
      generalize scanUp (fun x => ltInt x m.toArray[a]!) m.toArray j i = i3 at *
      rw [ok_bind, dn m i3 j _ (by omega), ok_some]
      rotate_left
      · intro k k2
        rw [get_eq]
        rcases Nat.lt_or_ge k i3 with h | h
        · rw [show decide ((i3 : Int) ≤ k) = false from by simp; omega, show decide (i3 ≤ k) = false from by simp; omega]; rfl
        · rw [show decide ((i3 : Int) ≤ k) = true from by simp; omega, show decide (i3 ≤ k) = true from by simp; omega, ck_true (inB_true (by omega)), ck_true (inB_true (by omega)), w64_of (by omega)]
          simp only [cond_true, Bool.true_and, Option.bind_some, Int.toNat_natCast]
      generalize scanDown (fun x => !ltInt x m.toArray[a]!) m.toArray i3 j = j3 at *
      simp only [ok_bif, ok_some, ok_ck, sumQ_inl, sumQ_inr, dec_iff, dec_iff', Int.toNat_natCast, List.length_set]
      have u1 := t1.2.1 g4
      have u2 := t2.2.1 u1
      have u3 : i3 ≤ j3 → i3 < j3 := fun h => Nat.lt_of_le_of_ne h fun e => by
        have a1 := t1.2.2.2 (by omega)
        have a2 := t2.2.2.2 h (by omega)
        rw [← e] at a2
        simp only [a1] at a2
        cases a2
      refine ⟨fun hlt => ?_, fun hge => ⟨inB_true (by omega), inB_true (by omega), inB_true (by omega), inB_true (by omega), ?_, ?_⟩⟩
      · rw [if_pos (by omega)] at g7
        rw [← g7]
        exact ⟨rfl, by simp only; omega, by simp only; omega, by simpa using g6⟩
      · rw [if_neg (by omega), swp_eq] at g7
        exact ⟨i3 + 1, j3 - 1, by rw [w64_of (by omega)]; omega, by rw [w64_of (by omega)]; omega, by omega, by omega, by omega, by simp [g6], g7⟩
      · rw [w64_of (by omega), w64_of (by omega)]
        omega
    · obtain ⟨e, hy1, hy2, hy3⟩ := hy
      obtain ⟨mid, d⟩ := R
      obtain ⟨d⟩ := d
      have hy3 : d.length = l.length := hy3
      simp only at hy1 hy2
      rw [e]
      simp only [ok_ck, ok_some, Int.toNat_natCast, List.length_set]
      refine ⟨inB_true (by omega), inB_true (by omega), inB_true (by omega), inB_true (by omega), ?_⟩
      rw [swp_eq]
end Go.Fg.Ytjkkbncbgpfliaa
