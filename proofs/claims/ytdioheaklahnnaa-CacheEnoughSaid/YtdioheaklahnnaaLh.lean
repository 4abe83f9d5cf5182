/-
  Chapter 17, plain: CacheEnough.
-/
import Derived.Test.YtdioheaklahnnaaLg
namespace Go.Fg.Ytdioheaklahnnaa
open Go.Fw
set_option linter.unusedVariables false
set_option linter.unusedSimpArgs false

theorem stepA_add (w : Int) : ∀ (t : List Int) (a : Int) (x : List (List Int)), t.foldl (stepA w) (a, x) = (a + (t.foldl (stepA w) (0, x)).1, (t.foldl (stepA w) (0, x)).2)
  | [], a, x => by simp
  | line :: t, a, x => by
    have e (b : Int) : stepA w (b, x) line = (b + (stepA w (0, x) line).1, (stepA w (0, x) line).2) := by
      refine Prod.ext ?_ rfl
      show (if hitL x line = true then b else b + 1) = b + (if hitL x line = true then (0 : Int) else 0 + 1)
      split <;> omega
    rw [List.foldl_cons, List.foldl_cons, e, stepA_add w t _ (stepA w (0, x) line).2]
    conv => rhs; rw [show stepA w (0, x) line = ((stepA w (0, x) line).1, (stepA w (0, x) line).2) from rfl, stepA_add w t (stepA w (0, x) line).1]
    refine Prod.ext ?_ rfl
    show _ = a + (_ + _); omega
def linesOf (size : Int) (l : List FetchS) : List Int := l.flatMap fun f => touchedL size f.address f.size
theorem acc_len (w : Int) : ∀ (t : List Int) (a : Int) (x : List (List Int)), (t.foldl (stepA w) (a, x)).2.length = x.length
  | [], a, x => rfl
  | line :: t, a, x => by rw [List.foldl_cons]; exact (acc_len w t _ _).trans hit_len
theorem each_sum {size w : Int} : ∀ (l : List FetchS) (x : List (List Int)) (o : List Int), 0 < x.length →
    sumL (l.foldl (eachStep size w) (x, o)).2 = sumL o + ((linesOf size l).foldl (stepA w) (0, x)).1
  | [], x, o, h => by simp [linesOf]
  | f :: l, x, o, h => by
    have e : fetchA size w x f = (touchedL size f.address f.size).foldl (stepA w) (0, x) := by unfold fetchA; rw [if_neg (by omega)]
    rw [List.foldl_cons]
    unfold eachStep
    rw [e]
    refine (each_sum l _ _ (by rw [acc_len]; exact h)).trans ?_
    have e2 : linesOf size (f :: l) = touchedL size f.address f.size ++ linesOf size l := rfl
    rw [e2, List.foldl_append, sumL_app]
    generalize (touchedL size f.address f.size).foldl (stepA w) (0, x) = s
    obtain ⟨m, z⟩ := s
    rw [stepA_add w _ m z]
    have e3 : sumL [m] = m := by simp [sumL]
    rw [e3]
    show sumL o + m + (List.foldl (stepA w) (0, z) (linesOf size l)).1 = sumL o + (m + (List.foldl (stepA w) (0, z) (linesOf size l)).1)
    omega
theorem misses_sum {size sets w : Int} {l : List FetchS} (h : 1 ≤ sets ∧ sets ≤ 1024) : sumL (eachL size sets w l) = ((linesOf size l).foldl (stepA w) (0, newL sets)).1 := by
  unfold eachL
  rw [each_sum l _ _ (by unfold newL; rw [if_neg (by omega)]; simp; omega)]
  simp [sumL]

/-! ### Lines seen -/
def stepS (st : Int × List Bool) (t : Int) : Int × List Bool := if st.2.getD t.toNat false = true then st else (st.1 + 1, st.2.set t.toNat true)
theorem nodup_len : ∀ (n : Nat) (l : List Int), l.Nodup → (∀ a ∈ l, 0 ≤ a ∧ a < n) → l.length ≤ n
  | 0, l, _, h => by cases l with
    | nil => simp
    | cons a l => have := h a (by simp); omega
  | n + 1, l, hn, h => by
    have := nodup_len n (l.erase (n : Int)) (hn.erase _) fun a ha => by
      have h1 := (List.Nodup.mem_erase_iff hn).1 ha
      have h2 := h a h1.2
      omega
    have h3 := List.length_erase (a := (n : Int)) (l := l)
    split at h3 <;> omega
/-- Every line that is there was seen. -/
def Sub (x : List (List Int)) (s : List Bool) : Prop := ∀ i (h : i < x.length), ∀ u ∈ x[i], s.getD u.toNat false = true
/-- Every line that was seen is there. -/
def Sup (x : List (List Int)) (s : List Bool) : Prop := ∀ u : Int, 0 ≤ u → s.getD u.toNat false = true → hitL x u = true
theorem getD_set_true {s : List Bool} {i j : Nat} (h : s.getD i false = true) : (s.set j true).getD i false = true := by
  rw [List.getD_eq_getElem?_getD] at h ⊢
  rw [List.getElem?_set]
  split
  · rename_i e; subst e
    split
    · rfl
    · rename_i hlt; rw [List.getElem?_eq_none (by omega)] at h; cases h
  · exact h
theorem stepS_mono {st : Int × List Bool} {t : Int} {i : Nat} (h : st.2.getD i false = true) : (stepS st t).2.getD i false = true := by
  unfold stepS
  split
  · exact h
  · exact getD_set_true h
theorem stepS_self {st : Int × List Bool} {t : Int} (h : t.toNat < st.2.length) : (stepS st t).2.getD t.toNat false = true := by
  unfold stepS
  split
  · assumption
  · rw [List.getD_eq_getElem?_getD, List.getElem?_set]; simp [h]
theorem stepS_len {st : Int × List Bool} {t : Int} : (stepS st t).2.length = st.2.length := by unfold stepS; split <;> simp
theorem mem_access {x : List (List Int)} {w t : Int} {i : Nat} (h : i < (accessL x w t).length) {u : Int} (hu : u ∈ (accessL x w t)[i]) : u = t ∨ ∃ h' : i < x.length, u ∈ x[i] := by
  have h' : i < x.length := by rw [hit_len] at h; exact h
  simp only [accessL, List.getElem_set] at hu
  split at hu
  · rename_i e
    have hu := List.mem_of_mem_take hu
    rcases List.mem_cons.1 hu with rfl | hu
    · exact .inl rfl
    · have hu := List.mem_of_mem_erase hu
      rw [e, getD_at _ h'] at hu
      exact .inr ⟨h', hu⟩
  · exact .inr ⟨h', hu⟩
theorem setOf_lt {x : List (List Int)} {t : Int} (h : 0 < x.length) (ht : 0 ≤ t) : setOf x t < x.length := by
  have := tmod_lt (a := t) (b := x.length) ht (by omega)
  unfold setOf; omega
/-- every cache misses at least the lines -/
theorem sub_fold {w : Int} : ∀ (t : List Int) (a : Int) (x : List (List Int)) (st : Int × List Bool), (∀ u ∈ t, 0 ≤ u ∧ u < 40) → 0 < x.length → st.2.length = 40 → Sub x st.2 → st.1 ≤ a →
    (t.foldl stepS st).1 ≤ (t.foldl (stepA w) (a, x)).1
  | [], a, x, st, _, _, _, _, h => h
  | line :: t, a, x, st, ht, hx, hs, hsub, h => by
    have hl := ht line (by simp)
    rw [List.foldl_cons, List.foldl_cons]
    refine sub_fold t _ _ _ (fun u hu => ht u (by simp [hu])) (by rw [hit_len]; exact hx) (by rw [stepS_len]; exact hs) ?_ ?_
    · intro i hi u hu
      rcases mem_access hi hu with rfl | ⟨h1, h2⟩
      · exact stepS_self (by omega)
      · exact stepS_mono (hsub i h1 u h2)
    · show (stepS st line).1 ≤ (if hitL x line = true then a else a + 1)
      unfold stepS
      by_cases hh : hitL x line = true
      · have hlt := setOf_lt hx hl.1
        have : st.2.getD line.toNat false = true := by
          unfold hitL at hh
          rw [decide_eq_true_eq, getD_at _ hlt] at hh
          exact hsub _ hlt _ hh
        rw [if_pos hh, if_pos this]; exact h
      · rw [if_neg hh]; split <;> first | omega | (simp only; omega)
/-- a cache with enough ways misses the lines -/
theorem sup_fold {L : Nat} (hL : 0 < L) : ∀ (t : List Int) (a : Int) (x : List (List Int)) (st : Int × List Bool), (∀ u ∈ t, 0 ≤ u ∧ u < 12) → SetsOk L 16 x → (∀ i (h : i < x.length), ∀ u ∈ x[i], 0 ≤ u ∧ u < 12) → st.2.length = 40 →
    Sub x st.2 → Sup x st.2 → st.1 = a → (t.foldl (stepA 16) (a, x)).1 = (t.foldl stepS st).1
  | [], a, x, st, _, _, _, _, _, _, h => h.symm
  | line :: t, a, x, st, ht, hx, hb, hs, hsub, hsup, h => by
    have hl := ht line (by simp)
    have hx0 : 0 < x.length := by rw [hx.1]; exact hL
    have hlt := setOf_lt hx0 hl.1
    have hhit : hitL x line = true ↔ st.2.getD line.toNat false = true := by
      constructor
      · intro hh
        unfold hitL at hh
        rw [decide_eq_true_eq, getD_at _ hlt] at hh
        exact hsub _ hlt _ hh
      · exact hsup line hl.1
    rw [List.foldl_cons, List.foldl_cons]
    refine sup_fold hL t _ _ _ (fun u hu => ht u (by simp [hu])) (accessL_ok hx hl.1 hL) ?_ (by rw [stepS_len]; exact hs) ?_ ?_ ?_
    · intro i hi u hu
      rcases mem_access hi hu with rfl | ⟨h1, h2⟩
      · exact hl
      · exact hb i h1 u h2
    · intro i hi u hu
      rcases mem_access hi hu with rfl | ⟨h1, h2⟩
      · exact stepS_self (by omega)
      · exact stepS_mono (hsub i h1 u h2)
    · intro u hu hseen
      by_cases hul : u = line
      · subst hul; exact hit_after hx hu hL (by decide)
      · have h1 : st.2.getD u.toNat false = true := by
          unfold stepS at hseen
          split at hseen
          · exact hseen
          · simp only at hseen
            rw [List.getD_eq_getElem?_getD, List.getElem?_set] at hseen
            rw [if_neg (by omega)] at hseen
            rw [List.getD_eq_getElem?_getD]; exact hseen
        have h2 := hsup u hu h1
        have hltu := setOf_lt hx0 hu
        unfold hitL at h2 ⊢
        rw [decide_eq_true_eq, getD_at _ hltu] at h2
        have e : setOf (accessL x 16 line) u = setOf x u := by unfold setOf; rw [hit_len]
        rw [decide_eq_true_eq, e, getD_at _ (by rw [hit_len]; exact hltu)]
        simp only [accessL, List.getElem_set]
        split
        · rename_i e2
          rw [getD_at _ hlt]
          unfold useL
          have e3 : x[setOf x line] = x[setOf x u] := by simp only [e2]
          have hn := (hx.2 _ hlt).2.1
          have h5 := nodup_len 12 (x[setOf x line]) hn (hb _ hlt)
          have h6 := List.length_erase_le (a := line) (l := x[setOf x line])
          rw [List.take_of_length_le (by rw [List.length_cons]; show _ ≤ 16; omega)]
          refine List.mem_cons_of_mem _ ?_
          rw [List.Nodup.mem_erase_iff hn]
          exact ⟨hul, e3 ▸ h2⟩
        · exact h2
    · show (stepS st line).1 = (if hitL x line = true then a else a + 1)
      unfold stepS
      by_cases hh : hitL x line = true
      · rw [if_pos hh, if_pos (hhit.1 hh)]; exact h
      · rw [if_neg hh, if_neg (fun h => hh (hhit.2 h))]; simp only; omega
theorem touched_12 {f : FetchS} (h : FOk f) : ∀ u ∈ touchedL 8 f.address f.size, 0 ≤ u ∧ u < 12 := by
  intro u hu
  have h0 := touched_nonneg u hu
  obtain ⟨⟨h1, h2⟩, h3, h4⟩ := h
  unfold touchedL at hu
  split at hu
  · cases hu
  · simp only [span, List.mem_map, List.mem_range] at hu
    obtain ⟨k, hk, rfl⟩ := hu
    omega
theorem enough17 {l : List Int} (hl : Bytes l) : f6 l = some true := by
  apply ok_eq
  unfold f6
  refine goS awake_ok ?_
  refine goF rfl ?_
  refine goB _ (new_ok hl (by decide)) fun c2 ⟨k2, hb⟩ => ?_
  obtain ⟨cs, at0⟩ := c2
  simp only at k2 hb
  subst k2
  refine goB _ (model_ok hb (Int.le_refl _)) ?_
  rintro m ⟨u1, u2, u3, u4, u5⟩
  rw [u4]
  refine goB _ (trace_ok hb u5 (by decide)) ?_
  rintro ⟨cs4, j4, t⟩ ⟨rfl, h4, ht, hf⟩
  simp only at h4 ht hf
  dsimp only
  generalize m.2.2.2.2.2.2.2.1 = sets at *
  generalize m.2.2.2.2.2.2.2.2.1 = ways at *
  have hlen : t.length ≤ 1048576 := by omega
  have hT : ∀ u ∈ linesOf 8 t, 0 ≤ u ∧ u < 12 := by
    intro u hu
    obtain ⟨f, hf1, hf2⟩ := List.mem_flatMap.1 hu
    exact touched_12 (hf f hf1) u hf2
  have hfm : ∀ (a : List FetchS) (s : Int × List Bool), a.foldl (fun s f => (touchedL 8 f.address f.size).foldl stepS s) s = (linesOf 8 a).foldl stepS s := by
    intro a
    induction a with
    | nil => intro s; rfl
    | cons f a ih => intro s; rw [List.foldl_cons, ih]; show _ = (touchedL 8 f.address f.size ++ linesOf 8 a).foldl stepS s; rw [List.foldl_append]
  refine goE (fun y => y = ((linesOf 8 t).foldl stepS (0, List.replicate (Int.toNat 40) false)).1) ?_ ?_
  · refine ok_for t (fun i (s : Int × List Bool) => (s.1, (i, s.2))) (fun s f => (touchedL 8 f.address f.size).foldl stepS s) (fun i s => s.2.length = 40 ∧ 0 ≤ s.1 ∧ s.1 ≤ i * 1048576) (s0 := (0, List.replicate (Int.toNat 40) false)) rfl ⟨by simp, by simp, by simp⟩ ?_ ?_
    · rintro i hi ⟨m, s⟩ ⟨k1, k2, k3⟩ _
      simp only at k1 k2 k3
      have hd : t.getD (Int.toNat ((Int.toNat (i : Int) : Nat) : Int)) (FetchS.mk 0 0 0) = t[i] := by rw [Int.toNat_natCast, Int.toNat_natCast]; exact getD_at _ hi
      dsimp only
      refine goT (decide_eq_true (by omega)) (goC (inB_iff.2 ⟨by omega, by omega⟩) ?_)
      rw [hd]
      refine goS (touched_ok ..) ?_
      have hln := touched_len 8 t[i].address t[i].size
      have h12 := touched_12 (hf _ (List.getElem_mem hi))
      generalize touchedL 8 t[i].address t[i].size = q at *
      refine goE (fun y => y = q.foldl stepS (m, s) ∧ y.2.length = 40 ∧ 0 ≤ y.1 ∧ y.1 ≤ (i + 1) * 1048576) ?_ ?_
      · refine ok_for q (fun i (s : Int × List Bool) => (s.1, (i, s.2))) stepS (fun j s => s.2.length = 40 ∧ 0 ≤ s.1 ∧ s.1 ≤ i * 1048576 + j) (s0 := (m, s)) rfl ⟨k1, k2, by simpa using k3⟩ ?_ ?_
        · rintro j hj ⟨m, s⟩ ⟨q1, q2, q3⟩ _
          simp only at q1 q2 q3
          have hd : q.getD (Int.toNat ((Int.toNat (j : Int) : Nat) : Int)) 0 = q[j] := by rw [Int.toNat_natCast, Int.toNat_natCast]; exact getD_at _ hj
          have hq := h12 _ (List.getElem_mem hj)
          dsimp only
          refine goT (decide_eq_true (by omega)) ?_
          rw [hd]
          refine goS (y := false) ?_ (goF rfl (goC (inB_iff.2 ⟨by omega, by omega⟩) (goC (inB_iff.2 ⟨by omega, by omega⟩) ?_)))
          · apply ok_eq
            exact goC (inB_iff.2 ⟨by omega, by omega⟩) (goF (decide_eq_false (by omega)) (goC (inB_iff.2 ⟨by omega, by omega⟩) (goR (decide_eq_false (by omega)))))
          · rw [Int.toNat_natCast]
            refine goB (fun y => y = stepS (m, s) q[j] ∧ y.2.length = 40 ∧ 0 ≤ y.1 ∧ y.1 ≤ i * 1048576 + (j + 1)) ?_ ?_
            · refine goI (fun h => ?_) fun h => ?_
              · have h : s.getD q[j].toNat false = false := cast not_iff h
                refine goC (inB_iff.2 ⟨by omega, by omega⟩) (goC (inB_iff.2 ⟨by omega, by omega⟩) (goR ?_))
                have e : stepS (m, s) q[j] = (m + 1, s.set q[j].toNat true) := by unfold stepS; rw [if_neg (by rw [h]; decide)]
                rw [e, w64_of (by omega)]
                exact ⟨rfl, by simp [q1], by simp only; omega, by simp only; omega⟩
              · have h : s.getD q[j].toNat false = true := cast not_iff' h
                have e : stepS (m, s) q[j] = (m, s) := by unfold stepS; rw [if_pos h]
                rw [e]
                exact goR ⟨rfl, q1, by simp only; omega, by simp only; omega⟩
            · rintro y ⟨e, y1, y2, y3⟩
              refine goR ⟨?_, ?_⟩
              · rw [← e, w64_of (by omega)]
              · rw [← e]; exact ⟨y1, y2, by omega⟩
        · rintro ⟨m, s⟩ ⟨q1, q2, q3⟩ he
          dsimp only
          exact goF (decide_eq_false (by omega)) (goR ⟨he, q1, q2, by simp only at q3 ⊢; omega⟩)
      · rintro y ⟨e, y1, y2, y3⟩
        refine goR ⟨?_, ?_⟩
        · rw [← e, w64_of (by omega)]
        · rw [← e]; exact ⟨y1, y2, by omega⟩
    · rintro ⟨m, s⟩ ⟨q1, q2, q3⟩ he
      dsimp only
      refine goF (decide_eq_false (by omega)) (goR ?_)
      rw [← hfm, ← he]
      show m = m
      rfl
  · rintro n hn
    have hL : (newL sets).length = sets.toNat := by unfold newL; rw [if_neg (by omega)]; simp
    have hnil : ∀ i (h : i < (newL sets).length), (newL sets)[i] = [] := by
      intro i h
      have : newL sets = List.replicate sets.toNat [] := by unfold newL; rw [if_neg (by omega)]
      simp [this]
    refine goS (y := true) ?_ (goR rfl)
    apply ok_eq
    refine goS (misses_ok ⟨by omega, by omega⟩ hlen) (goT ?_ (goS (misses_ok ⟨by omega, by omega⟩ hlen) (goR ?_)))
    · refine decide_eq_true ?_
      rw [misses_sum ⟨by omega, by omega⟩, hn]
      refine sup_fold (L := (newL sets).length) (by omega) _ _ _ _ hT newL_ok (fun i h u hu => by rw [hnil i h] at hu; cases hu) (by simp) (fun i h u hu => by rw [hnil i h] at hu; cases hu) ?_ rfl
      intro u hu h
      rw [List.getD_eq_getElem?_getD, List.getElem?_replicate] at h
      split at h <;> cases h
    · refine decide_eq_true ?_
      rw [misses_sum ⟨by omega, by omega⟩, hn]
      exact sub_fold _ _ _ _ (fun u hu => by have := hT u hu; omega) (by omega) (by simp) (fun i h u hu => by rw [hnil i h] at hu; cases hu) (Int.le_refl _)
end Go.Fg.Ytdioheaklahnnaa
