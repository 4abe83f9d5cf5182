/-
  Chapter 17, plain: what the functions of draws and caches answer.
-/
import Derived.Test.YtdioheaklahnnaaFgB
import Derived.Test.YtdioheaklahnnaaZd
namespace Go.Fg.Ytdioheaklahnnaa
open Go.Fw
set_option linter.unusedVariables false
set_option linter.unusedSimpArgs false

/-! ### Draws -/
def Bytes (l : List Int) : Prop := l.length ≤ 9223372036854775807 ∧ ∀ x ∈ l, 0 ≤ x ∧ x ≤ 255

theorem bytes_at {l : List Int} (h : Bytes l) {n : Int} (h0 : 0 ≤ n) (h1 : n < l.length) : 0 ≤ l.getD n.toNat 0 ∧ l.getD n.toNat 0 ≤ 255 := by
  rw [getD_at 0 (by omega)]
  exact h.2 _ (List.getElem_mem _)

/-- what a draw of n gives -/
def Drawn (n : Int) (l : List Int) (y : Int × (List Int × Int)) : Prop := y.2.1 = l ∧ 0 ≤ y.2.2 ∧ 0 ≤ y.1 ∧ (1 ≤ n → y.1 < n) ∧ (n ≤ 1 → y.1 = 0)
theorem next_step {rec : Int → List Int → Int → Option (Int × (List Int × Int))} {n : Int} {l : List Int} {i : Int} (hl : Bytes l) (hi : 0 ≤ i) (hn : n ≤ 65536)
    (hrec : 256 < n → ∀ j, 0 ≤ j → Ok (rec 256 l j) (Drawn 256 l)) : Ok (f11S rec n l i) (Drawn n l) := by
  unfold f11S
  simp only [ok_bind, ok_bif, ok_some, ok_ck, dec_iff, dec_iff', inB_iff, not_iff]
  have tail : (n ≥ 1) → i < l.length → (0 ≤ i ∧ i < (l.length : Int)) ∧ (256 < n → Ok (rec 256 l (w64 (i + 1))) fun y => ¬ n = 0 ∧ Drawn n l (Int.tmod (w64 (w64 (256 * w64 (l.getD i.toNat 0)) + y.1)) n, y.2.1, y.2.2)) ∧ (¬ 256 < n → ¬ n = 0 ∧ Drawn n l (Int.tmod (w64 (l.getD i.toNat 0)) n, l, w64 (i + 1))) := by
    intro h1 h2
    have hb := bytes_at hl hi h2
    have hl' := hl.1
    rw [w64_of (x := i + 1) (by omega), w64_of (x := l.getD i.toNat 0) (by omega), w64_of (x := 256 * l.getD i.toNat 0) (by omega)]
    refine ⟨⟨hi, h2⟩, fun h3 => ok_mono (hrec h3 (i + 1) (by omega)) fun y hy => ?_, fun h3 => ⟨by omega, ?_⟩⟩
    · obtain ⟨q1, q2, q3, q4, q5⟩ := hy
      have q4 := q4 (by omega)
      rw [w64_of (by omega)]
      refine ⟨by omega, q1, q2, ?_⟩
      have := tmod_lt (a := 256 * l.getD i.toNat 0 + y.1) (b := n) (by omega) (by omega)
      exact ⟨this.1, fun _ => this.2, fun _ => by omega⟩
    · have := tmod_lt (a := l.getD i.toNat 0) (b := n) hb.1 (by omega)
      refine ⟨rfl, by simp; omega, this.1, fun _ => this.2, fun _ => ?_⟩
      have e : n = 1 := by omega
      subst e
      have := this.2
      have := this
      simp only
      omega
  refine ⟨fun h => ⟨fun _ => ⟨rfl, hi, Int.le_refl _, fun h => by simp only; omega, fun _ => rfl⟩, fun h0 => by cases h0⟩, fun h => ⟨fun h1 => ⟨rfl, hi, Int.le_refl _, fun h => by simp only; omega, fun _ => rfl⟩, fun h1 => ?_⟩⟩
  exact tail (by omega) (by omega)
theorem f11N_succ (k : Nat) : f11N (k + 1) = f11S (f11N k) := rfl
theorem next_ok {n : Int} {l : List Int} {i : Int} (hl : Bytes l) (hi : 0 ≤ i) (hn : n ≤ 65536) : Ok (f11 n l i) (Drawn n l) := by
  have e : f11 n l i = f11N (1048574 + 2) n l i := rfl
  rw [e, f11N_succ]
  refine next_step hl hi hn fun _ j hj => ?_
  rw [f11N_succ]
  exact next_step hl hj (by omega) fun h => absurd h (by omega)
theorem new_ok {l : List Int} {n : Int} (hl : Bytes l) (hn : 0 ≤ n) : Ok (f9 l n) fun y => y.2 = 0 ∧ Bytes y.1 := by
  unfold f9
  simp only [ok_bind, ok_bif, ok_some, ok_ck, dec_iff, dec_iff', slOk_iff]
  refine ⟨fun h => ⟨⟨⟨by omega, hn⟩, by omega⟩, trivial, ?_⟩, fun h => ⟨trivial, hl⟩⟩
  simp only [Int.toNat_zero, List.drop_zero]
  exact ⟨by have := hl.1; simp; omega, fun x hx => hl.2 x (List.mem_of_mem_take hx)⟩

/-! ### Library -/
theorem clone_ok {l : List Int} (h : l.length ≤ 1099511627776) : f26 l = some l := by
  unfold f26
  have e : (true && decide ((([] : List Int).length + l.length) * 8 ≤ 140737488355328)) = true := by simp; omega
  rw [e]
  cases l with
  | nil => simp [ck, both]
  | cons x l => simp [ck]
theorem index_ok {l : List Int} (x : Int) (h : l.length ≤ 1099511627776) : f31 l x = some (if x ∈ l then (l.idxOf x : Int) else -1) := by
  apply ok_eq
  unfold f31
  simp only [ok_bindE]
  refine ok_loop (fun i : Int => 0 ≤ i ∧ i ≤ l.length ∧ x ∉ l.take i.toNat) (fun i => l.length - i.toNat) ⟨Int.le_refl _, by omega, by simp⟩ fun i ⟨h0, h1, h2⟩ => ?_
  simp only [ok_bif, ok_some, ok_ck, dec_iff, dec_iff', inB_iff, sumQ_inl, sumQ_inr]
  refine ⟨fun h3 => ⟨⟨h0, h3⟩, fun h4 => ?_, fun h4 => ?_⟩, fun h3 => ?_⟩
  · rw [getD_at 0 (by omega)] at h4
    have hm : x ∈ l := h4 ▸ List.getElem_mem _
    rw [if_pos hm]
    have hlt : i.toNat < l.length := by omega
    have : l.idxOf x = i.toNat := by
      have e : l = l.take i.toNat ++ x :: l.drop (i.toNat + 1) := by
        conv => lhs; rw [← List.take_append_drop i.toNat l, List.drop_eq_getElem_cons hlt, ← h4]
      rw [e, List.idxOf_append, if_neg h2]
      simp [List.idxOf_cons]; omega
    rw [this]; omega
  · rw [w64_of (by omega)]
    refine ⟨⟨by omega, by omega, ?_⟩, by omega⟩
    have e : (i + 1).toNat = i.toNat + 1 := by omega
    rw [e, List.take_add_one, List.mem_append, not_or]
    refine ⟨h2, ?_⟩
    rw [List.getElem?_eq_getElem (by omega)]
    rw [getD_at 0 (by omega)] at h4
    simpa using h4
  · have : ¬ x ∈ l := by
      have e : i.toNat = l.length := by omega
      rw [e, List.take_length] at h2; exact h2
    rw [if_neg this]

/-! ### The cache -/
def useL (s : List Int) (ways line : Int) : List Int := (line :: s.erase line).take ways.toNat
theorem eraseIdx_at {l : List Int} {i : Nat} : l.take i ++ l.drop (i + 1) = l.eraseIdx i := by
  rw [List.eraseIdx_eq_take_drop_succ]
theorem use_ok {s : List Int} {ways line : Int} (h : s.length ≤ 1048576) (hw : 0 ≤ ways) : f27 s ways line = some (useL s ways line, decide (line ∈ s)) := by
  apply ok_eq
  unfold f27
  have hcl : f26 s = some s := clone_ok (by omega)
  have hix := index_ok (l := s) line (by omega)
  simp only [ok_bind, hcl, hix, ok_some, ok_bif, ok_ck, dec_iff, dec_iff', slOk_iff]
  have fin : ∀ (c : Int) (s5 : List Int), (0 ≤ c ↔ line ∈ s) → s5.length ≤ 1048576 → s5 = s.erase line → Ok (f33 0 s5 [line]) fun y => ((0 ≤ (0 : Int) ∧ 0 ≤ minI (y.length : Int) ways) ∧ minI (y.length : Int) ways ≤ (y.length : Int)) ∧ (List.drop (Int.toNat 0) (List.take (Int.toNat (minI (y.length : Int) ways)) y), decide (0 ≤ c)) = (useL s ways line, decide (line ∈ s)) := by
    intro c s5 hc hl5 he
    have e : f33 0 s5 [line] = some (line :: s5) := by
      have e1 : insOk 0 s5.length [line].length = true := by simp [insOk]; omega
      show fIns 0 s5 [line] = _
      unfold fIns
      rw [e1]
      simp
    rw [e, ok_some]
    have hmin : minI ((line :: s5).length : Int) ways = min ((line :: s5).length : Int) ways := minI_eq _ _
    rw [hmin]
    refine ⟨⟨⟨by omega, by omega⟩, by omega⟩, ?_⟩
    simp only [hc, Int.toNat_zero, List.drop_zero]
    refine Prod.ext ?_ rfl
    show List.take _ _ = _
    unfold useL
    rw [← he]
    rcases Int.le_total ((line :: s5).length : Int) ways with hh | hh
    · rw [Int.min_eq_left hh, Int.toNat_natCast, List.take_length, List.take_of_length_le (by omega)]
    · rw [Int.min_eq_right hh]
  by_cases hm : line ∈ s
  · rw [if_pos hm]
    have hlt : s.idxOf line < s.length := List.idxOf_lt_length_of_mem hm
    refine ⟨fun _ => ?_, fun h => absurd h (by omega)⟩
    rw [w64_of (by omega)]
    have e : f32 (s.idxOf line) ((s.idxOf line : Int) + 1) s = some (s.erase line) := by
      show fDel _ _ _ = _
      unfold fDel
      have e1 : (decide ((0 : Int) ≤ (s.idxOf line : Int)) && decide ((s.idxOf line : Int) ≤ (s.idxOf line : Int) + 1) && decide ((s.idxOf line : Int) + 1 ≤ (s.length : Int))) = true := by simp; omega
      rw [e1]
      simp only
      have e2 : ((s.idxOf line : Int) + 1).toNat = s.idxOf line + 1 := by omega
      rw [e2, Int.toNat_natCast, eraseIdx_at, List.erase_eq_eraseIdx_of_idxOf]
      rfl
    rw [e, ok_some]
    exact fin _ _ ⟨fun _ => hm, fun _ => by omega⟩ (by have := List.length_erase_le (a := line) (l := s); omega) rfl
  · rw [if_neg hm]
    refine ⟨fun h => absurd h (by omega), fun _ => ?_⟩
    exact fin _ _ ⟨fun h => absurd h (by omega), fun h => absurd h hm⟩ h (List.erase_of_not_mem hm).symm
end Go.Fg.Ytdioheaklahnnaa
