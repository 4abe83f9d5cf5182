/-
  Chapter 2, plain: the sort of slices (5): the partial insertion sort, the recursion.
-/
import Derived.Test.YtjkkbncbgpfliaaLd
namespace Go.Fg.Ytjkkbncbgpfliaa
open Go.Fw Go.Sort
set_option linter.unusedVariables false
set_option linter.unusedSimpArgs false

theorem shiftDown_size : ∀ (j : Nat) (d : Array Int), (shiftDown ltInt j d).size = d.size
  | 0, d => rfl
  | j + 1, d => by
    rw [shiftDown]
    split
    · rfl
    · rw [shiftDown_size j, size_swp]

/-- partialInsertionSortOrdered -/
theorem partial_eq {a b : Nat} {l : List Int} (hab : a < b) (hb : b ≤ l.length) (hl : l.length ≤ 1000000) :
    f33 a b l = some ((partialInsertionSort ltInt l.toArray a b).2, (partialInsertionSort ltInt l.toArray a b).1.toList) ∧ (partialInsertionSort ltInt l.toArray a b).1.size = l.length := by
  suffices h : Ok (f33 a b l) fun y => y = ((partialInsertionSort ltInt l.toArray a b).2, (partialInsertionSort ltInt l.toArray a b).1.toList) ∧ (partialInsertionSort ltInt l.toArray a b).1.size = l.length by
    obtain ⟨y, hy, e, h⟩ := h
    exact ⟨by rw [hy, e], h⟩
  unfold f33 partialInsertionSort
  generalize hR : partialIns ltInt a b 5 (a + 1) l.toArray = R
  simp only [less_eq, nn, Option.bind_some]
  rw [ok_bind]
  refine ok_mono (Q := fun y => y = (R.2, R.1.toList) ∧ R.1.size = l.length) ?_ fun y hy => by
    obtain ⟨e, hy⟩ := hy
    rw [e]
    simp only [ok_ck, ok_some]
    exact ⟨by simp [hy], trivial, hy⟩
  rw [ok_bindE, w64_of (x := (a : Int) + 1) (by omega)]
  refine ok_mono (Q := sumQ (fun y => R.2 = false ∧ y = R.1.toList ∧ R.1.size = l.length) (fun y => y = (R.2, R.1.toList) ∧ R.1.size = l.length)) ?_ fun y hy => ?_
  rotate_left
  · cases y with
    | inl y =>
      obtain ⟨e1, e2, e3⟩ := hy
      exact ok_some.2 ⟨by rw [e1, e2], e3⟩
    | inr y => exact hy
  refine ok_loop (fun s : Int × Int × List Int => ∃ i k : Nat, s.1 = i ∧ s.2.1 = k ∧ a < i ∧ i ≤ b ∧ k ≤ 5 ∧ s.2.2.length = l.length ∧ partialIns ltInt a b (5 - k) i s.2.2.toArray = R) (fun s => 5 - s.2.1.toNat)
    ⟨a + 1, 0, by simp, by simp, by omega, by omega, by omega, rfl, hR⟩ fun s ⟨i, k, g1, g2, g3, g4, g5, g6, g7⟩ => ?_
  obtain ⟨i', k', m⟩ := s
  simp only at g1 g2 g6 g7
  subst g1; subst g2
  simp only
  rw [ok_bif, dec_iff, dec_iff']
  refine ⟨fun hk => ?_, fun hk => ?_⟩
  rotate_left
  · have e : 5 - k = 0 := by omega
    rw [e, partialIns] at g7
    rw [ok_some, sumQ_inr, sumQ_inl, ← g7]
    exact ⟨rfl, rfl, by simpa using g6⟩
  · obtain ⟨t, ht⟩ : ∃ t, 5 - k = t + 1 := ⟨4 - k, by omega⟩
    rw [ht, partialIns] at g7
    -- the scan
    have hscan : ∀ body : Int → Option (Int ⊕ Int), (∀ q : Nat, i ≤ q → q ≤ b → body q = bif decide (q < b) && !ltInt (m.getD q 0) (m.getD (q - 1) 0) then some (.inl ((q + 1 : Nat) : Int)) else some (.inr (q : Int))) →
        Ok (loopM body (i : Int)) fun y => y = ((scanSorted ltInt m.toArray b i : Nat) : Int) ∧ i ≤ scanSorted ltInt m.toArray b i ∧ scanSorted ltInt m.toArray b i ≤ b := by
      intro body h
      refine ok_loop (fun s : Int => ∃ q : Nat, s = q ∧ i ≤ q ∧ q ≤ b ∧ scanSorted ltInt m.toArray b q = scanSorted ltInt m.toArray b i) (fun s : Int => b - s.toNat) ⟨i, rfl, Nat.le_refl _, g4, rfl⟩ fun s ⟨q, h0, h1, h2, h3⟩ => ?_
      subst h0
      rw [h q h1 h2]
      rw [scanSorted, get_eq, get_eq] at h3
      cases hc : (decide (q < b) && !ltInt (m.getD q 0) (m.getD (q - 1) 0)) with
      | true =>
        rw [if_pos hc] at h3
        have hq : q < b := by have := (Bool.and_eq_true _ _).mp hc; simpa using this.1
        exact ok_some.2 ⟨⟨q + 1, rfl, by omega, by omega, h3⟩, by omega⟩
      | false =>
        rw [if_neg (by rw [hc]; simp)] at h3
        refine ok_some.2 ?_
        rw [sumQ_inr, ← h3]
        exact ⟨rfl, h1, h2⟩
    rw [ok_bind]
    refine ok_mono (hscan _ fun q q1 q2 => ?_) fun y hy => ?_
    · rcases Nat.lt_or_ge q b with h | h
      · rw [show decide ((q : Int) < b) = true from by simp; omega, show decide (q < b) = true from by simp; omega, w64_of (x := (q : Int) - 1) (by omega), w64_of (x := (q : Int) + 1) (by omega), show (q : Int) - 1 = ((q - 1 : Nat) : Int) from by omega,
          ck_true (inB_true (by omega)), ck_true (inB_true (by omega))]
        simp only [cond_true, Bool.true_and, Option.bind_some, Int.toNat_natCast]; rfl
      · rw [show decide ((q : Int) < b) = false from by simp; omega, show decide (q < b) = false from by simp; omega]; rfl
    obtain ⟨e, hi1, hi2⟩ := hy
    subst e
    clear hscan
    generalize scanSorted ltInt m.toArray b i = i1 at *
    simp only [ok_bif, ok_some, sumQ_inr, dec_iff, dec_iff']
    refine ⟨fun hib => ?_, fun hib => ⟨fun h50 => ?_, fun h50 => ?_⟩⟩
    · rw [if_pos (by omega)] at g7
      rw [← g7]
      exact ⟨rfl, by simpa using g6⟩
    · rw [w64_of (by omega)] at h50
      rw [if_neg (by omega), if_pos (by omega)] at g7
      rw [← g7]
      exact ⟨rfl, by simpa using g6⟩
    · rw [w64_of (by omega)] at h50
      rw [if_neg (by omega), if_neg (by omega), swp_eq] at g7
      rw [w64_of (x := (i1 : Int) - 1) (by omega), show (i1 : Int) - 1 = ((i1 - 1 : Nat) : Int) from by omega]
      simp only [ok_ck, Int.toNat_natCast, List.length_set]
      refine ⟨inB_true (by omega), inB_true (by omega), inB_true (by omega), inB_true (by omega), ?_⟩
      generalize hm1 : (m.set i1 (m.getD (i1 - 1) 0)).set (i1 - 1) (m.getD i1 0) = m1 at *
      have hm1l : m1.length = l.length := by rw [← hm1]; simp [g6]
      clear hm1
      dsimp only at g7
      rw [ok_bind, w64_of (x := (i1 : Int) - a) (by omega)]
      -- downwards
      refine ok_mono (Q := fun y => y.length = l.length ∧ y.toArray = (if i1 - a ≥ 2 then shiftDown ltInt (i1 - 1) m1.toArray else m1.toArray)) ?_ fun m2 hm2 => ?_
      · rw [ok_bif, dec_iff, dec_iff']
        refine ⟨fun h2 => ?_, fun h2 => ?_⟩
        rotate_left
        · rw [if_neg (by omega)]
          exact ok_some.2 ⟨hm1l, rfl⟩
        · rw [if_pos (by omega), ok_bind]
          refine ok_mono (Q := fun y => y.length = l.length ∧ y.toArray = shiftDown ltInt (i1 - 1) m1.toArray) ?_ fun y hy => ok_some.2 hy
          refine ok_loop (fun s : Int × List Int => ∃ j : Nat, s.1 = j ∧ j < l.length ∧ s.2.length = l.length ∧ shiftDown ltInt j s.2.toArray = shiftDown ltInt (i1 - 1) m1.toArray) (fun s => s.1.toNat)
            ⟨i1 - 1, rfl, by omega, hm1l, rfl⟩ fun s ⟨j, q1, q2, q3, q4⟩ => ?_
          obtain ⟨j', r⟩ := s
          simp only at q1 q3 q4
          subst q1
          simp only [ok_bif, ok_some, ok_ck, sumQ_inl, sumQ_inr, dec_iff, dec_iff', not_iff, not_iff', List.length_set]
          refine ⟨fun h1 => ?_, fun h1 => ?_⟩
          · obtain ⟨j, rfl⟩ : ∃ t, j = t + 1 := ⟨j - 1, by omega⟩
            rw [w64_of (x := ((j + 1 : Nat) : Int) - 1) (by omega), show ((j + 1 : Nat) : Int) - 1 = (j : Int) from by omega]
            simp only [Int.toNat_natCast]
            rw [shiftDown, get_eq, get_eq, swp_eq] at q4
            refine ⟨inB_true (by omega), inB_true (by omega), fun hf => ?_, fun ht => ⟨inB_true (by omega), inB_true (by omega), inB_true (by omega), inB_true (by omega), ⟨j, rfl, by omega, by simp [q3], ?_⟩, by omega⟩⟩
            · rw [if_pos (by rw [hf]; rfl)] at q4
              exact ⟨q3, q4⟩
            · rw [if_neg (by rw [ht]; simp)] at q4
              exact q4
          · have : j = 0 := by omega
            subst this
            exact ⟨q3, q4⟩
      · -- upwards
        obtain ⟨hm2l, hm2⟩ := hm2
        rw [← hm2] at g7
        rw [ok_bind, w64_of (x := (b : Int) - i1) (by omega)]
        refine ok_mono (Q := fun y => y.length = l.length ∧ y.toArray = (if b - i1 ≥ 2 then shiftUp ltInt b (i1 + 1) m2.toArray else m2.toArray)) ?_ fun m3 hm3 => ?_
        · rw [ok_bif, dec_iff, dec_iff']
          refine ⟨fun h2 => ?_, fun h2 => ?_⟩
          rotate_left
          · rw [if_neg (by omega)]
            exact ok_some.2 ⟨hm2l, rfl⟩
          · rw [if_pos (by omega), ok_bind, w64_of (x := (i1 : Int) + 1) (by omega)]
            refine ok_mono (Q := fun y => y.length = l.length ∧ y.toArray = shiftUp ltInt b (i1 + 1) m2.toArray) ?_ fun y hy => ok_some.2 hy
            refine ok_loop (fun s : Int × List Int => ∃ j : Nat, s.1 = j ∧ 1 ≤ j ∧ j ≤ b ∧ s.2.length = l.length ∧ shiftUp ltInt b j s.2.toArray = shiftUp ltInt b (i1 + 1) m2.toArray) (fun s => b - s.1.toNat)
              ⟨i1 + 1, by simp, by omega, by omega, hm2l, rfl⟩ fun s ⟨j, q1, q2, q2', q3, q4⟩ => ?_
            obtain ⟨j', r⟩ := s
            simp only at q1 q3 q4
            subst q1
            rw [shiftUp, get_eq, get_eq, swp_eq] at q4
            simp only [ok_bif, ok_some, ok_ck, sumQ_inl, sumQ_inr, dec_iff, dec_iff', not_iff, not_iff', List.length_set]
            refine ⟨fun h1 => ?_, fun h1 => ?_⟩
            · rw [if_pos (by omega)] at q4
              rw [w64_of (x := (j : Int) - 1) (by omega), w64_of (x := (j : Int) + 1) (by omega), show (j : Int) - 1 = ((j - 1 : Nat) : Int) from by omega]
              simp only [Int.toNat_natCast]
              refine ⟨inB_true (by omega), inB_true (by omega), fun hf => ?_, fun ht => ⟨inB_true (by omega), inB_true (by omega), inB_true (by omega), inB_true (by omega), ⟨j + 1, by simp, by omega, by omega, by simp [q3], ?_⟩, by omega⟩⟩
              · rw [if_pos (by rw [hf]; rfl)] at q4
                exact ⟨q3, q4⟩
              · rw [if_neg (by rw [ht]; simp)] at q4
                exact q4
            · rw [if_neg (by omega)] at q4
              exact ⟨q3, q4⟩
        · obtain ⟨hm3l, hm3⟩ := hm3
          rw [← hm3] at g7
          rw [ok_some, sumQ_inl, w64_of (x := (k : Int) + 1) (by omega)]
          exact ⟨⟨i1, k + 1, rfl, by simp, by omega, by omega, by omega, hm3l, by rw [show 5 - (k + 1) = t from by omega]; exact g7⟩, by simp only; omega⟩

theorem f26N_succ (n : Nat) : ring26 (n + 1) = f26S (ring26 n) := rfl
theorem permIn_size {a b : Nat} {d d' : Array Int} (h : PermIn a b d d') : d'.size = d.size := h.1

/-- pdqsortOrdered -/
theorem pdq_eq : ∀ (n : Nat) {a b lim : Nat} {l : List Int}, b - a < n → a ≤ b → b ≤ l.length → l.length ≤ 1000000 → lim ≤ 1000 →
    ring26 n a b lim l = some (pdq ltInt l.toArray a b lim true true).toList ∧ (pdq ltInt l.toArray a b lim true true).size = l.length
  | 0, a, b, lim, l, hn, _, _, _, _ => by omega
  | n + 1, a, b, lim, l, hn, hab, hb, hl, hlim => by
    suffices h : Ok (ring26 (n + 1) a b lim l) fun y => y = (pdq ltInt l.toArray a b lim true true).toList ∧ (pdq ltInt l.toArray a b lim true true).size = l.length by
      obtain ⟨y, hy, e, h⟩ := h
      exact ⟨by rw [hy, e], h⟩
    rw [f26N_succ]
    unfold f26S
    generalize hR : pdq ltInt l.toArray a b lim true true = R
    simp only [less_eq, nn, Option.bind_some]
    rw [ok_bind]
    refine ok_mono (Q := fun y => y = R.toList ∧ R.size = l.length) ?_ fun y hy => by
      obtain ⟨e, hy⟩ := hy
      rw [e]
      simp only [ok_ck, ok_some]
      exact ⟨by simp [hy], trivial, hy⟩
    refine ok_loop (fun s : Int × Int × Int × Bool × Bool × List Int => ∃ a' b' lim' : Nat, s.1 = a' ∧ s.2.1 = b' ∧ s.2.2.1 = lim' ∧ a ≤ a' ∧ a' ≤ b' ∧ b' ≤ b ∧ lim' ≤ 1000 ∧ s.2.2.2.2.2.length = l.length ∧
        pdq ltInt s.2.2.2.2.2.toArray a' b' lim' s.2.2.2.1 s.2.2.2.2.1 = R) (fun s => (s.2.1 - s.1).toNat)
      ⟨a, b, lim, rfl, rfl, rfl, Nat.le_refl _, hab, Nat.le_refl _, hlim, rfl, hR⟩ fun s ⟨a', b', lim', g1, g2, g3, g4, g5, g6, g7, g8, g9⟩ => ?_
    obtain ⟨x1, x2, x3, wb, wp, m⟩ := s
    simp only at g1 g2 g3 g8 g9
    subst g1; subst g2; subst g3
    clear hR
    rw [pdq] at g9
    simp only [ok_bindE]
    rw [w64_of (x := (b' : Int) - a') (by omega)]
    have hm1 : b' ≤ m.toArray.size := by simp; omega
    rw [ok_bif, dec_iff, dec_iff']
    refine ⟨fun h12 => ?_, fun h12 => ?_⟩
    · rw [if_pos (by omega)] at g9
      rw [ins_eq g5 (by omega) (by omega)]
      simp only [ok_bind, ok_some, sumQ_inr]
      have := (insertionSort_holds (lt := ltInt) swo_ltInt m.toArray a' b' g5 hm1).1.1
      rw [g9] at this
      exact ⟨by rw [g9], by rw [this]; simpa using g8⟩
    rw [if_neg (by omega)] at g9
    rw [ok_bif, dec_iff, dec_iff']
    refine ⟨fun h0 => ?_, fun h0 => ?_⟩
    · rw [if_pos (by omega)] at g9
      rw [heap_eq g5 (by omega) (by omega)]
      simp only [ok_bind, ok_some, sumQ_inr]
      have := (heapSort_holds (lt := ltInt) swo_ltInt m.toArray a' b' g5 hm1).1.1
      rw [g9] at this
      exact ⟨by rw [g9], by rw [this]; simpa using g8⟩
    rw [if_neg (by omega)] at g9
    dsimp only at g9
    -- the patterns
    rw [ok_bind]
    have hbp : Ok (bif !wb then Option.bind (f30 (a' : Int) b' m) fun c7 => some (w64 ((lim' : Int) - 1), c7) else some ((lim' : Int), m)) fun y => y.1 = ((if (!wb) = true then lim' - 1 else lim' : Nat) : Int) ∧ y.2.toArray = (if (!wb) = true then breakPatterns m.toArray a' b' else m.toArray) ∧ y.2.length = l.length := by
      cases wb with
      | true => exact ok_some.2 ⟨rfl, rfl, g8⟩
      | false =>
        simp only [Bool.not_false, cond_true, if_true]
        rw [break_eq g5 (by omega) (by omega), w64_of (by omega)]
        refine ok_some.2 ⟨by simp only; omega, rfl, ?_⟩
        have := (breakPatterns_holds (α := Int) m.toArray a' b' g5 hm1).1
        simp only [Array.length_toList, this]; simpa using g8
    refine ok_mono hbp fun s9 ⟨q1, q2, q3⟩ => ?_
    clear hbp
    obtain ⟨lim1, m1⟩ := s9
    simp only at q1 q2 q3
    simp only
    rw [← q2] at g9
    generalize hlim1 : (if (!wb) = true then lim' - 1 else lim') = lim1' at *
    have hlim2 : lim1' ≤ 1000 := by rw [← hlim1]; split <;> omega
    clear hlim1 q2
    subst q1
    have hab' : a' < b' := by omega
    have hm1l : b' ≤ m1.toArray.size := by simp; omega
    rw [pivot_eq hab' (by omega) (by omega), ok_bind, ok_some]
    have hpr := choosePivot_holds ltInt m1.toArray a' b' hab'
    generalize hcv : choosePivot ltInt m1.toArray a' b' = c at hpr ⊢
    rw [hcv] at g9
    clear hcv
    obtain ⟨pv, hint⟩ := c
    simp only at hpr g9
    simp only
    rw [ok_bind]
    have hrev : Ok (bif decide (hintCode hint = 2) then Option.bind (f32 (a' : Int) b' m1) fun c12 => some (w64 (w64 ((b' : Int) - 1) - w64 ((pv : Int) - a')), ((1 : Int), c12)) else some ((pv : Int), (hintCode hint, m1)))
        fun y => y.1 = ((if hint = .decreasing then (b' - 1) - (pv - a') else pv : Nat) : Int) ∧ y.2.1 = hintCode (if hint = .decreasing then Hint.increasing else hint) ∧ y.2.2.toArray = (if hint = .decreasing then reverseRange m1.toArray a' b' else m1.toArray) ∧ y.2.2.length = l.length := by
      by_cases hd : hint = .decreasing
      · subst hd
        rw [if_pos rfl, if_pos rfl, if_pos rfl, show decide (hintCode Hint.decreasing = 2) = true from rfl]
        simp only [cond_true]
        rw [rev_eq hab' (by omega) (by omega), w64_of (x := (b' : Int) - 1) (by omega), w64_of (x := (pv : Int) - a') (by omega), w64_of (by omega)]
        refine ok_some.2 ⟨by simp only; omega, rfl, rfl, ?_⟩
        have := (reverseRange_holds (α := Int) m1.toArray a' b' g5 hm1l).1
        simp only [Array.length_toList, this]; simpa using q3
      · rw [if_neg hd, if_neg hd, if_neg hd, show decide (hintCode hint = 2) = false from by cases hint <;> first | rfl | exact absurd rfl hd]
        exact ok_some.2 ⟨rfl, rfl, rfl, q3⟩
    refine ok_mono hrev fun s16 ⟨r1, r2, r3, r4⟩ => ?_
    clear hrev
    obtain ⟨pv1, hi1, m2⟩ := s16
    simp only at r1 r2 r3 r4
    simp only
    rw [← r3] at g9
    have hpr2 := pivot_range hpr.1 hpr.2 (hint = .decreasing)
    simp only [dite_eq_ite] at hpr2
    generalize (if hint = .decreasing then (b' - 1) - (pv - a') else pv) = pv2 at *
    generalize (if hint = .decreasing then Hint.increasing else hint) = hint2 at *
    clear r3
    subst r1; subst r2
    have hm2l : b' ≤ m2.toArray.size := by simp; omega
    -- the partial insertion sort
    rw [ok_bind]
    have hcond : Ok (bif wb then bif wp then some (decide (hintCode hint2 = 1)) else some false else some false) fun y => y = (wb && wp && decide (hint2 = .increasing)) := by
      cases wb <;> cases wp <;> first | exact ok_some.2 rfl | (cases hint2 <;> exact ok_some.2 rfl)
    refine ok_mono hcond fun s20 e => ?_
    subst e
    clear hcond
    have hpi : (if (wb && wp && decide (hint2 = .increasing)) = true then partialInsertionSort ltInt m2.toArray a' b' else (m2.toArray, false)).1.size = l.length := by
      split
      · exact (partial_eq hab' (by omega) (by omega)).2.trans r4
      · simpa using r4
    let rest : Array Int → Array Int := fun d3 => if (decide (a' > 0) && !ltInt d3[a' - 1]! d3[pv2]!) = true then
        (match partitionEqual ltInt d3 a' b' pv2 with | (mid, d4) => if _h : a' < mid ∧ mid ≤ b' then pdq ltInt d4 mid b' lim1' wb wp else d4)
      else match partition ltInt d3 a' b' pv2 with
        | (mid, alreadyPartitioned, d4) => if _h : a' ≤ mid ∧ mid < b' then
            if mid - a' < b' - mid then pdq ltInt (pdq ltInt d4 a' mid lim1' true true) (mid + 1) b' lim1' (decide (mid - a' ≥ (b' - a') / 8)) alreadyPartitioned
            else pdq ltInt (pdq ltInt d4 (mid + 1) b' lim1' true true) a' mid lim1' (decide (b' - mid ≥ (b' - a') / 8)) alreadyPartitioned
          else d4
    generalize hpiv : (if (wb && wp && decide (hint2 = .increasing)) = true then partialInsertionSort ltInt m2.toArray a' b' else (m2.toArray, false)) = pi at *
    have g9' : (if pi.2 = true then pi.1 else rest pi.1) = R := g9
    clear g9
    have first : Ok (bif (wb && wp && decide (hint2 = .increasing)) then Option.bind (f33 (a' : Int) b' m2) fun c21 => bif c21.1 then some (Sum.inr (Sum.inr (Sum.inr c21.2))) else some (Sum.inl c21.2) else some (Sum.inl m2) : Option (List Int ⊕ ((Int × Int × Int × Bool × Bool × List Int) ⊕ ((Int × Int × Int × Bool × Bool × List Int) ⊕ List Int))))
        (sumQ (fun m3 => m3.length = l.length ∧ rest m3.toArray = R) (sumQ (fun _ => False) (sumQ (fun _ => False) fun y => y = R.toList ∧ R.size = l.length))) := by
      cases hcc : (wb && wp && decide (hint2 = .increasing)) with
      | true =>
        rw [hcc, if_pos rfl] at hpiv
        have P := partial_eq hab' (by omega : b' ≤ m2.length) (by omega)
        rw [hpiv] at P
        simp only [cond_true]
        rw [P.1]
        simp only [Option.bind_some]
        cases hp2 : pi.2 with
        | true =>
          rw [hp2, if_pos rfl] at g9'
          simp only [cond_true]
          exact ok_some.2 ⟨by rw [g9'], by rw [← g9']; exact P.2.trans r4⟩
        | false =>
          rw [hp2, if_neg (by simp)] at g9'
          simp only [cond_false]
          exact ok_some.2 ⟨by rw [Array.length_toList]; exact P.2.trans r4, g9'⟩
      | false =>
        rw [hcc, if_neg (by simp)] at hpiv
        subst hpiv
        rw [if_neg (by simp)] at g9'
        exact ok_some.2 ⟨r4, g9'⟩
    rw [ok_bindE]
    refine ok_mono first fun y hy => ?_
    clear first
    rcases y with m3 | z | z | z
    rotate_left
    · exact hy.elim
    · exact hy.elim
    · exact hy
    obtain ⟨k1, k2⟩ := hy
    have k2 : (if (decide (a' > 0) && !ltInt m3.toArray[a' - 1]! m3.toArray[pv2]!) = true then
        (match partitionEqual ltInt m3.toArray a' b' pv2 with | (mid, d4) => if _h : a' < mid ∧ mid ≤ b' then pdq ltInt d4 mid b' lim1' wb wp else d4)
      else match partition ltInt m3.toArray a' b' pv2 with
        | (mid, alreadyPartitioned, d4) => if _h : a' ≤ mid ∧ mid < b' then
            if mid - a' < b' - mid then pdq ltInt (pdq ltInt d4 a' mid lim1' true true) (mid + 1) b' lim1' (decide (mid - a' ≥ (b' - a') / 8)) alreadyPartitioned
            else pdq ltInt (pdq ltInt d4 (mid + 1) b' lim1' true true) a' mid lim1' (decide (b' - mid ≥ (b' - a') / 8)) alreadyPartitioned
          else d4) = R := k2
    rw [get_eq, get_eq] at k2
    have hm3l : b' ≤ m3.toArray.size := by simp; omega
    rw [sumQ_inl, ok_bind]
    have hc : Ok (bif decide (0 < (a' : Int)) then ck (inB (w64 ((a' : Int) - 1)) m3.length) (ck (inB (pv2 : Int) m3.length) (some !ltInt (m3.getD (w64 ((a' : Int) - 1)).toNat 0) (m3.getD (pv2 : Int).toNat 0))) else some false)
        fun y => y = (decide (a' > 0) && !ltInt (m3.getD (a' - 1) 0) (m3.getD pv2 0)) := by
      rcases Nat.eq_zero_or_pos a' with h | h
      · subst h
        exact ok_some.2 rfl
      · rw [show decide (0 < (a' : Int)) = true from by simp; omega, show decide (a' > 0) = true from by simp; omega, w64_of (by omega), show (a' : Int) - 1 = ((a' - 1 : Nat) : Int) from by omega, ck_true (inB_true (by omega)), ck_true (inB_true (by omega))]
        exact ok_some.2 rfl
    refine ok_mono hc fun s30 e => ?_
    subst e
    clear hc
    rw [ok_bif]
    refine ⟨fun ht => ?_, fun hf => ?_⟩
    · rw [if_pos ht] at k2
      have P := parteq_eq hpr2.1 hpr2.2 (by omega : b' ≤ m3.length) (by omega)
      rw [P.1]
      generalize partitionEqual ltInt m3.toArray a' b' pv2 = pe at *
      obtain ⟨mid, d4⟩ := pe
      obtain ⟨_, p1, p2, p3⟩ := P
      simp only at p1 p2 p3 k2
      rw [dif_pos ⟨p1, p2⟩] at k2
      simp only [Option.bind_some, ok_some, sumQ_inl]
      exact ⟨⟨mid, b', lim1', rfl, rfl, rfl, by omega, p2, g6, hlim2, by rw [Array.length_toList, p3]; exact k1, k2⟩, by omega⟩
    · rw [if_neg (by rw [hf]; simp)] at k2
      have P := part_eq hpr2.1 hpr2.2 (by omega : b' ≤ m3.length) (by omega)
      have Ph := partition_holds (lt := ltInt) swo_ltInt m3.toArray a' b' pv2 hpr2.1 hpr2.2 hm3l
      rw [P]
      generalize partition ltInt m3.toArray a' b' pv2 = pe at *
      obtain ⟨mid, ap, d4⟩ := pe
      obtain ⟨p1, p2, p3, _⟩ := Ph
      have p3 := p3.1
      simp only at p1 p2 p3 k2
      have hd4 : d4.toList.length = l.length := by rw [Array.length_toList, p3]; simpa using k1
      rw [dif_pos ⟨p1, p2⟩] at k2
      simp only [Option.bind_some]
      have e8 : ((b' : Int) - a').tdiv 8 = (((b' - a') / 8 : Nat) : Int) := by rw [show (b' : Int) - a' = ((b' - a' : Nat) : Int) from by omega, show (8 : Int) = ((8 : Nat) : Int) from rfl, tdiv_nat]
      rw [e8, w64_of (x := (mid : Int) - a') (by omega), w64_of (x := (b' : Int) - mid) (by omega), w64_of (x := (mid : Int) + 1) (by omega), w64_of (x := (((b' - a') / 8 : Nat) : Int)) (by omega)]
      rw [ok_bind, ok_bif, dec_iff, dec_iff']
      refine ⟨fun hlt => ?_, fun hge => ?_⟩
      · rw [if_pos (by omega)] at k2
        have I := pdq_eq n (a := a') (b := mid) (lim := lim1') (l := d4.toList) (by omega) p1 (by omega) (by omega) hlim2
        rw [I.1]
        simp only [Option.bind_some, ok_some, sumQ_inl]
        refine ⟨⟨mid + 1, b', lim1', by simp, rfl, rfl, by omega, by omega, g6, hlim2, by rw [Array.length_toList, I.2]; exact hd4, ?_⟩, by omega⟩
        rw [← k2]
        congr 1
        exact decide_eq_decide.2 (by omega)
      · rw [if_neg (by omega)] at k2
        have I := pdq_eq n (a := mid + 1) (b := b') (lim := lim1') (l := d4.toList) (by omega) (by omega) (by omega) (by omega) hlim2
        rw [show (mid : Int) + 1 = ((mid + 1 : Nat) : Int) from by omega, I.1]
        simp only [Option.bind_some, ok_some, sumQ_inl]
        refine ⟨⟨a', mid, lim1', rfl, rfl, rfl, g4, p1, by omega, hlim2, by rw [Array.length_toList, I.2]; exact hd4, ?_⟩, by omega⟩
        rw [← k2]
        congr 1
        exact decide_eq_decide.2 (by omega)

/-- slices.Sort -/
theorem sort_eq {l : List Int} (hl : l.length ≤ 1000000) : f24 l = some (l.mergeSort fun x y => decide (x ≤ y)) := by
  have hs := sortInt l
  unfold Go.Sort.sort at hs
  unfold f24
  simp only
  rw [u64_of (by omega) (by omega), len_eq (by omega)]
  simp only [Option.bind_some]
  have hb : bitsLen l.length ≤ 20 := (bitsLen_le_iff l.length 20).2 (by omega)
  have I := pdq_eq 1048576 (a := 0) (b := l.length) (lim := bitsLen l.length) (l := l) (by omega) (by omega) (Nat.le_refl _) hl (by omega)
  have e : f26 (0 : Int) (l.length : Int) (bitsLen l.length : Int) l = some (pdq ltInt l.toArray 0 l.length (bitsLen l.length) true true).toList := I.1
  rw [e]
  simp only [Option.bind_some]
  have hs : (pdq ltInt l.toArray 0 l.length (bitsLen l.length) true true).toList = l.mergeSort fun x y => decide (x ≤ y) := hs
  rw [hs, ck_true (by simp)]
end Go.Fg.Ytjkkbncbgpfliaa
