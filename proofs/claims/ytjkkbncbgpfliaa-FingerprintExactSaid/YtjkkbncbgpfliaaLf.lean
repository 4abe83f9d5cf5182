/-
  Chapter 2, plain: fingerprints of numbers, lists, sets; clones, compaction.
-/
import Derived.Test.YtjkkbncbgpfliaaLe
import Derived.Test.YtjkkbncbgpfliaaLm
namespace Go.Fg.Ytjkkbncbgpfliaa
open Go.Fw Go.Sort
open Go.Proofs.Ytjkkbncbgpfliaa.Fp
set_option linter.unusedVariables false
set_option linter.unusedSimpArgs false

/-! ### Numbers -/
theorem fd33 (x : Int) : Int.fdiv x (2 ^ min (Int.toNat 33) 64) = x / 8589934592 := Int.fdiv_eq_ediv_of_nonneg _ (by decide)
theorem scr_eq (x : Int) : f7 x = some (scrI x) := by
  unfold f7
  simp only [fd33]
  rfl
theorem scr_eq' (x : Int) : f14 x = some (scrI x) := scr_eq x
theorem join_eq (a b : Int) : f8 a b = some (joinI a b) := by
  unfold f8
  simp only [scr_eq, Option.bind_some]
  rfl
theorem join_eq' (a b : Int) : f15 a b = some (joinI a b) := join_eq a b
theorem scr0 : scrI 0 = 0 := by decide +kernel
theorem scr1 : scrI 1 ≠ 0 := fun h => by
  have := scrI_inj 1 0 (by decide) (by decide) (by decide) (by decide) (h.trans scr0.symm)
  cases this

/-! ### Lists -/
def addG (s x : Int) : Int := Go.IntKind.wrap .u64 (s + scrI (Go.IntKind.wrap .u64 (x + 11400714819323198485)))
def sumL (l : List Int) : Int := l.foldl addG 0
def setL (l : List Int) : Int := joinI (Go.IntKind.wrap .u64 l.length) (sumL l)
def listL (l : List Int) : Int := l.foldl joinI (Go.IntKind.wrap .u64 l.length)
def byteG (h x : Int) : Int := Go.IntKind.wrap .u64 (Go.bits .xor .u64 h (Go.IntKind.wrap .u64 x) * 1099511628211)
def bytesL (l : List Int) : Int := scrI (l.foldl byteG 14695981039346656037)

theorem set_eq {l : List Int} (hl : l.length ≤ 1000000) : f11 l = some (setL l) := by
  apply ok_eq
  unfold f11
  simp only [ok_bind]
  refine ok_for l (fun i s => (s, i)) addG (fun _ _ => True) (s0 := 0) rfl trivial (fun i h s _ _ => ?_) (fun s _ hs => ?_)
  · simp only [ok_bif, ok_bind, ok_ck, ok_some, scr_eq, dec_iff, dec_iff', inB_iff, sumQ_inl, sumQ_inr]
    rw [w64_of (by omega), Int.toNat_natCast, getD_at 0 h]
    exact ⟨fun _ => ⟨by omega, rfl, trivial⟩, fun h => by omega⟩
  · simp only [ok_bif, ok_bind, ok_ck, ok_some, scr_eq, join_eq, dec_iff, dec_iff', inB_iff, sumQ_inl, sumQ_inr]
    exact ⟨fun h => by omega, fun _ => by rw [hs]; rfl⟩
theorem set_eq' {l : List Int} (hl : l.length ≤ 1000000) : f21 l = some (setL l) := by
  apply ok_eq
  unfold f21
  simp only [ok_bind]
  refine ok_for l (fun i s => (s, i)) addG (fun _ _ => True) (s0 := 0) rfl trivial (fun i h s _ _ => ?_) (fun s _ hs => ?_)
  · simp only [ok_bif, ok_bind, ok_ck, ok_some, scr_eq', dec_iff, dec_iff', inB_iff, sumQ_inl, sumQ_inr]
    rw [w64_of (by omega), Int.toNat_natCast, getD_at 0 h]
    exact ⟨fun _ => ⟨by omega, rfl, trivial⟩, fun h => by omega⟩
  · simp only [ok_bif, ok_bind, ok_ck, ok_some, scr_eq', join_eq', dec_iff, dec_iff', inB_iff, sumQ_inl, sumQ_inr]
    exact ⟨fun h => by omega, fun _ => by rw [hs]; rfl⟩
theorem list_eq {l : List Int} (hl : l.length ≤ 1000000) : f13 l = some (listL l) := by
  apply ok_eq
  unfold f13
  simp only [ok_bind]
  refine ok_for l (fun i s => (s, i)) joinI (fun _ _ => True) (s0 := Go.IntKind.wrap .u64 l.length) rfl trivial (fun i h s _ _ => ?_) (fun s _ hs => ?_)
  · simp only [ok_bif, ok_bind, ok_ck, ok_some, join_eq, dec_iff, dec_iff', inB_iff, sumQ_inl, sumQ_inr]
    rw [w64_of (by omega), Int.toNat_natCast, getD_at 0 h]
    exact ⟨fun _ => ⟨by omega, rfl, trivial⟩, fun h => by omega⟩
  · simp only [ok_bif, ok_bind, ok_ck, ok_some, join_eq, dec_iff, dec_iff', inB_iff, sumQ_inl, sumQ_inr]
    exact ⟨fun h => by omega, fun _ => by rw [hs]; rfl⟩
theorem list_eq' {l : List Int} (hl : l.length ≤ 1000000) : f20 l = some (listL l) := by
  apply ok_eq
  unfold f20
  simp only [ok_bind]
  refine ok_for l (fun i s => (s, i)) joinI (fun _ _ => True) (s0 := Go.IntKind.wrap .u64 l.length) rfl trivial (fun i h s _ _ => ?_) (fun s _ hs => ?_)
  · simp only [ok_bif, ok_bind, ok_ck, ok_some, join_eq', dec_iff, dec_iff', inB_iff, sumQ_inl, sumQ_inr]
    rw [w64_of (by omega), Int.toNat_natCast, getD_at 0 h]
    exact ⟨fun _ => ⟨by omega, rfl, trivial⟩, fun h => by omega⟩
  · simp only [ok_bif, ok_bind, ok_ck, ok_some, join_eq', dec_iff, dec_iff', inB_iff, sumQ_inl, sumQ_inr]
    exact ⟨fun h => by omega, fun _ => by rw [hs]; rfl⟩
theorem bytes_eq {l : List Int} (hl : l.length ≤ 1000000) : f16 l = some (bytesL l) := by
  apply ok_eq
  unfold f16
  simp only [ok_bind]
  refine ok_for l (fun i s => (s, i)) byteG (fun _ _ => True) (s0 := 14695981039346656037) rfl trivial (fun i h s _ _ => ?_) (fun s _ hs => ?_)
  · simp only [ok_bif, ok_bind, ok_ck, ok_some, dec_iff, dec_iff', inB_iff, sumQ_inl, sumQ_inr]
    rw [w64_of (by omega), Int.toNat_natCast, getD_at 0 h]
    exact ⟨fun _ => ⟨by omega, rfl, trivial⟩, fun h => by omega⟩
  · simp only [ok_bif, ok_bind, ok_ck, ok_some, scr_eq, dec_iff, dec_iff', inB_iff, sumQ_inl, sumQ_inr]
    exact ⟨fun h => by omega, fun _ => by rw [hs]; rfl⟩
theorem bytes_eq' {l : List Int} (hl : l.length ≤ 1000000) : f17 l = some (bytesL l) := by
  apply ok_eq
  unfold f17
  simp only [ok_bind]
  refine ok_for l (fun i s => (s, i)) byteG (fun _ _ => True) (s0 := 14695981039346656037) rfl trivial (fun i h s _ _ => ?_) (fun s _ hs => ?_)
  · simp only [ok_bif, ok_bind, ok_ck, ok_some, dec_iff, dec_iff', inB_iff, sumQ_inl, sumQ_inr]
    rw [w64_of (by omega), Int.toNat_natCast, getD_at 0 h]
    exact ⟨fun _ => ⟨by omega, rfl, trivial⟩, fun h => by omega⟩
  · simp only [ok_bif, ok_bind, ok_ck, ok_some, scr_eq', dec_iff, dec_iff', inB_iff, sumQ_inl, sumQ_inr]
    exact ⟨fun h => by omega, fun _ => by rw [hs]; rfl⟩
theorem strI_len (s : List UInt8) : (strI s).length = s.length := by simp [strI]
theorem text_eq {s : List UInt8} (hl : s.length ≤ 1000000) : f18 s = some (bytesL (strI s)) := by
  unfold f18; simp only; rw [bytes_eq (by rw [strI_len]; exact hl)]; rfl
theorem text_eq' {s : List UInt8} (hl : s.length ≤ 1000000) : f19 s = some (bytesL (strI s)) := by
  unfold f19; simp only; rw [bytes_eq' (by rw [strI_len]; exact hl)]; rfl
theorem awake_eq : f6 = some true := by
  unfold f6
  rw [bytes_eq (by simp)]
  simp only [scr_eq, scr_eq', Option.bind_some]
  have : bytesL [] = scrI 14695981039346656037 := rfl
  rw [this, show decide (scrI 14695981039346656037 = scrI 14695981039346656037) = true from decide_eq_true rfl]
  simp only [cond_true, Option.bind_some]
  rw [show decide (scrI 1 = 0) = false from decide_eq_false scr1]
  rfl

/-- a set does not depend on the order -/
theorem wrapA (n : Int) : Go.IntKind.wrap .u64 n = n % 18446744073709551616 := Go.IntKind.wrap_u64 n
theorem addG_comm (s x y : Int) : addG (addG s x) y = addG (addG s y) x := by
  unfold addG
  generalize scrI (Go.IntKind.wrap .u64 (x + 11400714819323198485)) = a
  generalize scrI (Go.IntKind.wrap .u64 (y + 11400714819323198485)) = b
  simp only [wrapA]
  omega
theorem sum_perm {l m : List Int} (h : l.Perm m) : sumL l = sumL m :=
  h.foldl_eq' (fun x _ y _ z => (addG_comm z x y)) 0
theorem set_perm {l m : List Int} (h : l.Perm m) : setL l = setL m := by
  unfold setL; rw [sum_perm h, h.length_eq]

/-! ### The library -/
theorem clone_eq {l : List Int} (h : l.length ≤ 1000000) : f23 l = some l := by
  unfold f23
  have e : (true && decide ((([] : List Int).length + l.length) * 8 ≤ 140737488355328)) = true := by simp; omega
  rw [e]
  cases l with
  | nil => simp [ck, both]
  | cons x l => simp [ck]

/-- compaction -/
def cstep (acc : List Int) (x : Int) : List Int := if acc.getLast? = some x then acc else acc ++ [x]
def cpt (l : List Int) : List Int := l.foldl cstep []
theorem cpt_snoc (t : List Int) (x : Int) : cpt (t ++ [x]) = cstep (cpt t) x := by simp [cpt]
theorem snoc_ind {P : List Int → Prop} (h0 : P []) (h1 : ∀ t x, P t → P (t ++ [x])) (l : List Int) : P l := by
  have key : ∀ n, ∀ t : List Int, t.length = n → P t := by
    intro n
    induction n with
    | zero => intro t ht; rw [List.eq_nil_of_length_eq_zero ht]; exact h0
    | succ n ih =>
      intro t ht
      have hne : t ≠ [] := fun e => by rw [e] at ht; cases ht
      rw [← List.dropLast_concat_getLast hne]
      exact h1 _ _ (ih _ (by rw [List.length_dropLast]; omega))
  exact key _ l rfl
theorem cpt_last (l : List Int) : (cpt l).getLast? = l.getLast? := by
  refine snoc_ind (P := fun l => (cpt l).getLast? = l.getLast?) rfl (fun t x ih => ?_) l
  rw [cpt_snoc, cstep]
  split
  · rename_i h; rw [h]; simp
  · simp
theorem cpt_mem (l : List Int) : ∀ x, x ∈ cpt l ↔ x ∈ l := by
  refine snoc_ind (P := fun l => ∀ x, x ∈ cpt l ↔ x ∈ l) (by simp [cpt]) (fun t y ih x => ?_) l
  rw [cpt_snoc, cstep]
  split
  · rename_i h
    rw [ih, List.mem_append, List.mem_singleton]
    constructor
    · exact .inl
    · rintro (h' | h')
      · exact h'
      · subst h'
        rw [cpt_last] at h
        exact List.mem_of_getLast? h
  · rw [List.mem_append, List.mem_append, ih]
theorem cpt_len (l : List Int) : (cpt l).length ≤ l.length := by
  refine snoc_ind (P := fun l => (cpt l).length ≤ l.length) (by simp [cpt]) (fun t y ih => ?_) l
  rw [cpt_snoc, cstep]
  split
  · simp; omega
  · simp; omega
theorem lt_last {l : List Int} (h : l.Pairwise (· < ·)) {z : Int} (hz : l.getLast? = some z) : ∀ y ∈ l, y ≤ z := by
  intro y hy
  obtain ⟨t, rfl⟩ : ∃ t, l = t ++ [z] := by
    have hne : l ≠ [] := fun e => by rw [e] at hz; cases hz
    refine ⟨l.dropLast, ?_⟩
    rw [List.getLast?_eq_some_getLast hne] at hz
    cases hz
    exact (List.dropLast_concat_getLast hne).symm
  rw [List.pairwise_append] at h
  rcases List.mem_append.1 hy with h1 | h1
  · exact Int.le_of_lt (h.2.2 y h1 z (by simp))
  · rw [List.mem_singleton] at h1; omega
theorem cpt_sorted {l : List Int} (h : l.Pairwise (· ≤ ·)) : (cpt l).Pairwise (· < ·) := by
  refine snoc_ind (P := fun l => l.Pairwise (· ≤ ·) → (cpt l).Pairwise (· < ·)) (fun _ => by simp [cpt]) (fun t y ih hs => ?_) l h
  rw [List.pairwise_append] at hs
  have hp := ih hs.1
  rw [cpt_snoc, cstep]
  split
  · exact hp
  · rename_i hne
    rw [List.pairwise_append]
    refine ⟨hp, by simp, fun a ha b hb => ?_⟩
    rw [List.mem_singleton] at hb; subst hb
    have h1 : a ≤ b := hs.2.2 a ((cpt_mem t a).1 ha) b (by simp)
    cases hz : (cpt t).getLast? with
    | none => rw [List.getLast?_eq_none_iff] at hz; rw [hz] at ha; cases ha
    | some z =>
      have h2 := lt_last hp hz a ha
      have h3 : z ≤ b := hs.2.2 z ((cpt_mem t z).1 (List.mem_of_getLast? hz)) b (by simp)
      have h4 : z ≠ b := fun e => hne (by rw [hz, e])
      omega
theorem take_succ' {l : List Int} {p : Nat} (h : p < l.length) : l.take (p + 1) = l.take p ++ [l.getD p 0] := by
  rw [take_snoc h, getD_at 0 h]
theorem last_take {l : List Int} {p : Nat} (h0 : 0 < p) (h : p ≤ l.length) : (l.take p).getLast? = some (l.getD (p - 1) 0) := by
  obtain ⟨q, rfl⟩ : ∃ q, p = q + 1 := ⟨p - 1, by omega⟩
  rw [take_succ' (by omega)]; simp

/-- slices.Compact -/
theorem compact_eq {l : List Int} (hl : l.length ≤ 1000000) : f25 l = some (cpt l) := by
  apply ok_eq
  unfold f25
  simp only [nn]
  rw [ok_bif, dec_iff, dec_iff']
  refine ⟨fun h => ?_, fun h => ?_⟩
  · refine ok_some.2 ?_
    rcases l with _ | ⟨x, _ | ⟨y, l⟩⟩
    · rfl
    · rfl
    · simp at h; omega
  rw [ok_bindE]
  refine ok_loop (fun s : Int => ∃ k : Nat, s = k ∧ 1 ≤ k ∧ k ≤ l.length ∧ cpt (l.take k) = l.take k) (fun s => l.length - s.toNat) ⟨1, rfl, by omega, by omega, ?_⟩ fun s ⟨k, e, h1, h2, h3⟩ => ?_
  · rcases l with _ | ⟨x, l⟩
    · simp at h
    · simp [cpt, cstep]
  subst e
  rw [ok_bif, dec_iff, dec_iff']
  refine ⟨fun hk => ?_, fun hk => ?_⟩
  rotate_left
  · refine ok_some.2 ?_
    rw [sumQ_inr, sumQ_inl, ok_some]
    have : k = l.length := by omega
    rw [this, List.take_length] at h3
    exact h3.symm
  have hkl : k < l.length := by omega
  rw [w64_of (x := (k : Int) - 1) (by omega), show (k : Int) - 1 = ((k - 1 : Nat) : Int) from by omega, ck_true (inB_true hkl), ck_true (inB_true (by omega))]
  simp only [Int.toNat_natCast]
  rw [ok_bif, dec_iff, dec_iff']
  refine ⟨fun he => ?_, fun he => ?_⟩
  rotate_left
  · rw [ok_some, sumQ_inl, w64_of (by omega)]
    refine ⟨⟨k + 1, by omega, by omega, by omega, ?_⟩, by omega⟩
    rw [take_succ' hkl, cpt_snoc, h3, cstep, last_take (by omega) h2, if_neg (by intro e; exact he (Option.some.inj e).symm)]
  · rw [ck_true (slOk_iff.2 (by omega)), ok_bind]
    refine ok_mono (Q := fun y : Int × List Int => ∃ j : Nat, y.1 = j ∧ k ≤ j ∧ j < l.length ∧ y.2.length = l.length ∧ y.2.take j = cpt l) ?_ fun y ⟨j, e1, e2, e3, e4, e5⟩ => ?_
    · refine ok_loop (fun s : Int × Int × List Int => ∃ j t : Nat, s.1 = j ∧ s.2.1 = t ∧ k ≤ j ∧ 1 ≤ t ∧ j + 1 ≤ k + t ∧ k + t ≤ l.length ∧ s.2.2.length = l.length ∧ (∀ q, k + t ≤ q + 1 → s.2.2.getD q 0 = l.getD q 0) ∧ s.2.2.take j = cpt (l.take (k + t)))
        (fun s => l.length - s.2.1.toNat) ⟨k, 1, rfl, rfl, Nat.le_refl _, Nat.le_refl _, Nat.le_refl _, by omega, rfl, fun _ _ => rfl, ?_⟩ fun s ⟨j, t, g1, g2, g3, g4, g5, g6, g7, g8, g9⟩ => ?_
      · simp only
        rw [take_succ' hkl, cpt_snoc, h3, cstep, last_take (by omega) h2, if_pos (by rw [he])]
      obtain ⟨j', t', m⟩ := s
      simp only at g1 g2 g7 g8 g9
      subst g1; subst g2
      simp only [Int.toNat_natCast]
      rw [ok_bif, dec_iff, dec_iff']
      refine ⟨fun ht => ?_, fun ht => ?_⟩
      rotate_left
      · refine ok_some.2 ?_
        have : k + t = l.length := by omega
        rw [this, List.take_length] at g9
        exact ⟨j, rfl, g3, by omega, g7, g9⟩
      have htl : k + t < l.length := by omega
      rw [w64_of (x := (t : Int) - 1) (by omega), show (t : Int) - 1 = ((t - 1 : Nat) : Int) from by omega, ck_true (inB_true (by omega)), ck_true (inB_true (by omega)), w64_of (x := (t : Int) + 1) (by omega)]
      simp only [Int.toNat_natCast]
      have r1 := g8 (k + t) (by omega)
      have r2 := g8 (k + (t - 1)) (by omega)
      rw [ok_bind, ok_bif, not_iff, not_iff', dec_iff, dec_iff', r1, r2]
      have e0 : k + (t - 1) = k + t - 1 := by omega
      refine ⟨fun hne => ?_, fun heq => ?_⟩
      · rw [ck_true (inB_true (by omega)), ck_true (inB_true (by omega)), w64_of (by omega)]
        refine ok_some.2 (ok_some.2 ⟨⟨j + 1, t + 1, by simp, by simp, by omega, by omega, by omega, by omega, by simp [g7], fun q hq => ?_, ?_⟩, by simp only; omega⟩)
        · simp only
          rw [List.getD_eq_getElem?_getD, List.getElem?_set_ne (by omega), ← List.getD_eq_getElem?_getD]
          exact g8 q (by omega)
        · simp only
          rw [show k + (t + 1) = k + t + 1 from rfl, take_succ' htl, cpt_snoc, ← g9, cstep, if_neg, take_succ' (by simp; omega)]
          · rw [List.take_set_of_le (Nat.le_refl _), List.getD_eq_getElem?_getD, List.getElem?_set_self (by omega)]; rfl
          · rw [g9, cpt_last, last_take (by omega) (by omega)]
            intro e
            apply hne
            rw [e0]
            exact (Option.some.inj e).symm
      · refine ok_some.2 (ok_some.2 ⟨⟨j, t + 1, rfl, by simp, by omega, by omega, by omega, by omega, g7, fun q hq => g8 q (by omega), ?_⟩, by simp only; omega⟩)
        rw [show k + (t + 1) = k + t + 1 from rfl, take_succ' htl, cpt_snoc, ← g9, cstep, if_pos]
        rw [g9, cpt_last, last_take (by omega) (by omega), ← e0, heq]
    · obtain ⟨j', m⟩ := y
      simp only at e1 e4 e5
      subst e1
      simp only [Int.toNat_natCast]
      have hcl : (clrL (j : Int) (m.length : Int) (0 : Int) m).length = m.length := by unfold clrL; simp; omega
      rw [ck_true (slOk_iff.2 (by omega)), ck_true (show Nat.blt j m.length = true from Nat.ble_eq_true_of_le (by omega)), ck_true (slOk_iff.2 (by omega))]
      refine ok_some.2 ?_
      rw [sumQ_inr, sumQ_inr, ← e5]
      unfold clrL
      simp only [Int.toNat_zero, List.drop_zero, Int.toNat_natCast]
      rw [List.append_assoc, List.take_append_of_le_length (by simp; omega), List.take_take, Nat.min_self]
end Go.Fg.Ytjkkbncbgpfliaa
