/-
  Chapter 17, plain: CacheWays.
-/
import Derived.Test.YtdioheaklahnnaaLf
namespace Go.Fg.Ytdioheaklahnnaa
open Go.Fw
set_option linter.unusedVariables false
set_option linter.unusedSimpArgs false

theorem er_take (a : Int) : ∀ (s : List Int) (j : Nat), ((s.take (j + 1)).erase a).take j = (s.erase a).take j
  | [], j => by simp
  | b :: s, j => by
    rw [List.take_succ_cons]
    by_cases h : b = a
    · subst h
      rw [List.erase_cons_head, List.erase_cons_head, List.take_take, Nat.min_self]
    · rw [List.erase_cons_tail (by simpa using h), List.erase_cons_tail (by simpa using h)]
      cases j with
      | zero => rfl
      | succ j => rw [List.take_succ_cons, List.take_succ_cons, er_take a s j]
theorem useL_take {s : List Int} {w w' line : Int} (h : w.toNat ≤ w'.toNat) : useL (s.take w.toNat) w line = (useL s w' line).take w.toNat := by
  unfold useL
  rw [List.take_take, Nat.min_eq_left h]
  generalize w.toNat = k
  cases k with
  | zero => rfl
  | succ k => rw [List.take_succ_cons, List.take_succ_cons, er_take]
/-- the cache with fewer ways holds the beginnings -/
def Nar (k : Nat) (x y : List (List Int)) : Prop := x = y.map (·.take k)
theorem nar_getD {k : Nat} {x y : List (List Int)} (h : Nar k x y) (i : Nat) : x.getD i [] = (y.getD i []).take k := by
  unfold Nar at h; subst h
  rw [List.getD_eq_getElem?_getD, List.getD_eq_getElem?_getD, List.getElem?_map]
  cases y[i]? <;> simp
theorem nar_len {k : Nat} {x y : List (List Int)} (h : Nar k x y) : x.length = y.length := by unfold Nar at h; subst h; simp
theorem nar_step {w w' line : Int} {x y : List (List Int)} (hw : w.toNat ≤ w'.toNat) (h : Nar w.toNat x y) : Nar w.toNat (accessL x w line) (accessL y w' line) ∧ (hitL x line = true → hitL y line = true) := by
  have e : setOf x line = setOf y line := by unfold setOf; rw [nar_len h]
  refine ⟨?_, fun hh => ?_⟩
  · unfold accessL
    rw [e, nar_getD h, useL_take hw]
    unfold Nar at h ⊢
    subst h
    rw [List.map_set]
  · unfold hitL at hh ⊢
    rw [decide_eq_true_eq] at hh ⊢
    rw [e, nar_getD h] at hh
    exact List.mem_of_mem_take hh
theorem nar_fold {w w' : Int} (hw : w.toNat ≤ w'.toNat) : ∀ (t : List Int) (a b : Int) (x y : List (List Int)), Nar w.toNat x y → b ≤ a →
    Nar w.toNat (t.foldl (stepA w) (a, x)).2 (t.foldl (stepA w') (b, y)).2 ∧ (t.foldl (stepA w') (b, y)).1 ≤ (t.foldl (stepA w) (a, x)).1
  | [], a, b, x, y, h, hab => ⟨h, hab⟩
  | line :: t, a, b, x, y, h, hab => by
    obtain ⟨h1, h2⟩ := nar_step (line := line) hw h
    rw [List.foldl_cons, List.foldl_cons]
    refine nar_fold hw t _ _ _ _ h1 ?_
    by_cases hx : hitL x line = true
    · rw [if_pos hx, if_pos (h2 hx)]; exact hab
    · rw [if_neg hx]; split <;> omega
inductive LeL : List Int → List Int → Prop where
  | nil : LeL [] []
  | snoc {a b : List Int} {x y : Int} (h : LeL a b) (hx : x ≤ y) : LeL (a ++ [x]) (b ++ [y])
theorem LeL.len {a b : List Int} (h : LeL a b) : a.length = b.length := by induction h with
  | nil => rfl
  | snoc h hx ih => simp [ih]
theorem LeL.sum {a b : List Int} (h : LeL a b) : sumL a ≤ sumL b := by induction h with
  | nil => exact Int.le_refl _
  | snoc h hx ih =>
    rw [sumL_app, sumL_app]
    have e (x : Int) : sumL [x] = x := by simp [sumL]
    rw [e, e]; omega
theorem LeL.at {a b : List Int} (h : LeL a b) : ∀ (i : Nat), a.getD i 0 ≤ b.getD i 0 := by
  induction h with
  | nil => intro i; exact Int.le_refl _
  | snoc h hx ih =>
    rename_i a b x y
    intro i
    have hl := h.len
    rw [List.getD_eq_getElem?_getD, List.getD_eq_getElem?_getD, List.getElem?_append, List.getElem?_append, hl]
    split
    · have := ih i
      rw [List.getD_eq_getElem?_getD, List.getD_eq_getElem?_getD] at this
      exact this
    · cases i - b.length with
      | zero => exact hx
      | succ n => exact Int.le_refl _
theorem nar_each {size w w' : Int} (hw : w.toNat ≤ w'.toNat) : ∀ (l : List FetchS) (x y : List (List Int)) (a b : List Int), Nar w.toNat x y → LeL b a →
    LeL (l.foldl (eachStep size w') (y, b)).2 (l.foldl (eachStep size w) (x, a)).2
  | [], x, y, a, b, h, hab => hab
  | f :: l, x, y, a, b, h, hab => by
    rw [List.foldl_cons, List.foldl_cons]
    have hl := nar_len h
    have key : Nar w.toNat (fetchA size w x f).2 (fetchA size w' y f).2 ∧ (fetchA size w' y f).1 ≤ (fetchA size w x f).1 := by
      unfold fetchA
      by_cases h0 : x.length = 0
      · rw [if_pos h0, if_pos (by omega)]; exact ⟨h, Int.le_refl _⟩
      · rw [if_neg h0, if_neg (by omega)]; exact nar_fold hw _ _ _ _ _ h (Int.le_refl _)
    exact nar_each hw l _ _ _ _ key.1 (.snoc hab key.2)
theorem eachL_le {size sets w w' : Int} {l : List FetchS} (hw : w.toNat ≤ w'.toNat) : LeL (eachL size sets w' l) (eachL size sets w l) := by
  refine nar_each hw l _ _ _ _ ?_ .nil
  unfold Nar newL
  split <;> simp

theorem ways17 {l : List Int} (hl : Bytes l) {more : Int} (hm : 0 ≤ more ∧ more ≤ 255) : f5 l more = some true := by
  apply ok_eq
  unfold f5
  refine goS awake_ok ?_
  refine goF rfl ?_
  refine goB _ (new_ok hl (by decide)) fun c2 ⟨k2, hb⟩ => ?_
  obtain ⟨cs, at0⟩ := c2
  simp only at k2 hb
  subst k2
  refine goB _ (model_ok hb (Int.le_refl _)) ?_
  rintro m ⟨u1, u2, u3, u4, u5⟩
  rw [u4]
  refine goB _ (trace_ok hb u5 (by decide)) ?_
  rintro ⟨cs4, j4, t⟩ ⟨rfl, h4, ht, _⟩
  simp only at h4 ht
  dsimp only
  generalize m.2.2.2.2.2.2.1 = size at *
  generalize m.2.2.2.2.2.2.2.1 = sets at *
  generalize m.2.2.2.2.2.2.2.2.1 = ways at *
  have e1 : w64 more = more := w64_of (by omega)
  have h6 := tmod_lt (a := more) (b := 6) hm.1 (by decide)
  rw [e1]
  generalize more.tmod 6 = r at h6
  rw [w64_of (x := ways + r) (by omega), minI_eq]
  have hw : ways ≤ min (ways + r) 16 ∧ min (ways + r) 16 ≤ 16 := by omega
  generalize min (ways + r) 16 = wide at hw
  have hlen : t.length ≤ 1048576 := by omega
  have hle : LeL (eachL size sets wide t) (eachL size sets ways t) := eachL_le (by omega)
  refine goS (each_ok' ⟨by omega, by omega⟩ hlen) ?_
  refine goS (each_ok' ⟨by omega, by omega⟩ hlen) ?_
  have l1 := (eachL_len (size := size) (sets := sets) (ways := ways) (l := t) ⟨by omega, by omega⟩ hlen).1
  have l2 := (eachL_len (size := size) (sets := sets) (ways := wide) (l := t) ⟨by omega, by omega⟩ hlen).1
  refine goE (fun _ => True) ?_ fun _ _ => ?_
  · refine ok_for t (fun i (s : Unit) => i) (fun s e => ()) (fun i s => True) (s0 := ()) rfl trivial ?_ ?_
    · rintro k hk s _ _
      refine goT (decide_eq_true (by omega)) ?_
      refine goS (y := false) ?_ (goF rfl (goR ⟨by rw [w64_of (by omega)], trivial⟩))
      apply ok_eq
      refine goF (decide_eq_false (by omega)) ?_
      refine goF (decide_eq_false (by omega)) ?_
      refine goC (inB_iff.2 ⟨by omega, by omega⟩) (goC (inB_iff.2 ⟨by omega, by omega⟩) (goR ?_))
      rw [Int.toNat_natCast, Int.toNat_natCast]
      have := hle.at k
      exact decide_eq_false (by omega)
    · rintro s _ _
      exact goF (decide_eq_false (by omega)) (goR trivial)
  · refine goS (misses_ok ⟨by omega, by omega⟩ hlen) (goS (misses_ok ⟨by omega, by omega⟩ hlen) (goR ?_))
    have := hle.sum
    exact decide_eq_true (by omega)
end Go.Fg.Ytdioheaklahnnaa
