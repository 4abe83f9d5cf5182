/-
  Chapter 18, plain: the lists of pages, the counts of faults, the example of the chapter.
-/
import Derived.Test.YtdddhnagekhihaaLc
namespace Go.Fg.Ytdddhnagekhihaa
open Go.Fw
set_option linter.unusedVariables false
set_option linter.unusedSimpArgs false

/-! ### Ascending lists -/
def Asc (l : List Int) : Prop := l.Pairwise (· < ·)
theorem asc_ext : ∀ (a b : List Int), Asc a → Asc b → (∀ x, x ∈ a ↔ x ∈ b) → a = b
  | [], [], _, _, _ => rfl
  | [], y :: b, _, _, h => by have := (h y).2 (by simp); cases this
  | x :: a, [], _, _, h => by have := (h x).1 (by simp); cases this
  | x :: a, y :: b, ha, hb, h => by
    obtain ⟨ha1, ha2⟩ := List.pairwise_cons.1 ha
    obtain ⟨hb1, hb2⟩ := List.pairwise_cons.1 hb
    have e : x = y := by
      rcases List.mem_cons.1 ((h x).1 (by simp)) with e | h1
      · exact e
      · rcases List.mem_cons.1 ((h y).2 (by simp)) with e | h2
        · exact e.symm
        · have := ha1 _ h2; have := hb1 _ h1; omega
    subst e
    congr 1
    refine asc_ext a b ha2 hb2 fun z => ⟨fun hz => ?_, fun hz => ?_⟩
    · rcases List.mem_cons.1 ((h z).1 (by simp [hz])) with rfl | h1
      · have := ha1 _ hz; omega
      · exact h1
    · rcases List.mem_cons.1 ((h z).2 (by simp [hz])) with rfl | h1
      · have := hb1 _ hz; omega
      · exact h1
theorem asc_nodup {a : List Int} (h : Asc a) : a.Nodup := by
  refine List.Pairwise.imp ?_ h
  intro x y hxy e
  omega
def PagesAre (t y : List Int) : Prop := Asc y ∧ ∀ x, x ∈ y ↔ x ∈ t
theorem compact_are {zs : List Int} (h : zs.Pairwise (· ≤ ·)) : PagesAre zs (Lib.compact zs) := by
  have key : ∀ m, m ≤ zs.length → Asc (Lib.compactUpTo zs.toArray m) ∧ ∀ x, x ∈ Lib.compactUpTo zs.toArray m ↔ x ∈ zs.take m := by
    intro m
    induction m with
    | zero => intro _; exact ⟨by simp [Lib.compactUpTo, Asc], by simp [Lib.compactUpTo]⟩
    | succ m ih =>
      intro hm
      obtain ⟨h1, h2⟩ := ih (by omega)
      have hlt : m < zs.length := by omega
      have ed : ∀ j (hj : j < zs.length), zs.toArray[j]! = zs[j] := fun j hj => by simp [getElem!_pos, hj]
      rw [Lib.compactUpTo_succ, take_snoc hlt]
      have hle : ∀ y ∈ zs.take m, y ≤ zs[m] := by
        intro y hy
        obtain ⟨j, hj, rfl⟩ := List.getElem_of_mem hy
        rw [List.getElem_take]
        simp at hj
        exact List.pairwise_iff_getElem.1 h j m (by omega) hlt (by omega)
      by_cases hk : Lib.keeps zs.toArray m = true
      · rw [if_pos hk, ed m hlt]
        have hlt' : ∀ y ∈ zs.take m, y < zs[m] := by
          unfold Lib.keeps at hk
          simp only [decide_eq_true_eq] at hk
          rcases hk with rfl | hk
          · intro y hy; simp at hy
          · intro y hy
            have hm0 : 0 < m := by
              cases m with
              | zero => simp at hy
              | succ m => omega
            rw [ed m hlt, ed (m - 1) (by omega)] at hk
            have h3 : y ≤ zs[m - 1] := by
              obtain ⟨j, hj, rfl⟩ := List.getElem_of_mem hy
              rw [List.getElem_take]
              simp at hj
              rcases Nat.lt_or_ge j (m - 1) with hj' | hj'
              · exact List.pairwise_iff_getElem.1 h j (m - 1) (by omega) (by omega) (by omega)
              · have : j = m - 1 := by omega
                subst this; exact Int.le_refl _
            have h4 : zs[m - 1] ≤ zs[m] := List.pairwise_iff_getElem.1 h (m - 1) m (by omega) hlt (by omega)
            omega
        refine ⟨List.pairwise_append.2 ⟨h1, by simp, fun a ha b hb => ?_⟩, fun x => ?_⟩
        · simp only [List.mem_singleton] at hb
          subst hb
          exact hlt' a ((h2 a).1 ha)
        · rw [List.mem_append, List.mem_append, h2]
      · rw [if_neg hk, List.append_nil]
        refine ⟨h1, fun x => ?_⟩
        rw [h2, List.mem_append]
        refine ⟨.inl, fun h => h.elim id fun hx => ?_⟩
        simp only [List.mem_singleton] at hx
        subst hx
        unfold Lib.keeps at hk
        simp only [decide_eq_true_eq, not_or, Decidable.not_not] at hk
        obtain ⟨h3, h4⟩ := hk
        rw [ed m hlt, ed (m - 1) (by omega)] at h4
        rw [h4]
        have : zs[m - 1] = (zs.take m)[m - 1]'(by simp; omega) := by rw [List.getElem_take]
        rw [this]; exact List.getElem_mem _
  have := key zs.length (Nat.le_refl _)
  rw [List.take_length] at this
  exact this
theorem pagesM_ok {size : Int} {l : List FetchS} (hs : 1 ≤ size ∧ size ≤ 65536) (hl : TOk l) : Ok (f20 size l) (PagesAre (pgs size l)) := by
  have hL := hl.1
  unfold f20
  refine goS (tou_ok hs hL) ?_
  have hrl : (rowsOf size 0 l).length ≤ 1000 := by rw [rows_len]; have := pgs_len hs.1 hl.2; omega
  have e : pgs size l = (rowsOf size 0 l).map Prod.snd := (rows_snd size l 0).symm
  rw [e]
  generalize rowsOf size 0 l = rows at *
  refine goB (fun y => y = rows.map Prod.snd) ?_ ?_
  · refine ok_rng rows (fun i (s : List Int) => (s, i)) (fun s r => s ++ [r.2]) (fun i s => s = (rows.take i).map Prod.snd) (s0 := []) rfl rfl ?_ ?_
    · rintro i hi s rfl _
      have hd : List.getD rows i ((0 : Int), (0 : Int)) = rows[i] := getD_at _ hi
      simp only [hd]
      refine goT (blt_true hi) ?_
      refine goS (y := (rows.take i).map Prod.snd ++ [rows[i].2]) ?_ (goR ⟨rfl, by rw [take_snoc hi, List.map_append]; rfl⟩)
      apply ok_eq
      exact goC (by simp; omega) (goR rfl)
    · rintro s rfl _
      rw [List.take_length]
      exact goF (blt_false (Nat.lt_irrefl _)) (goR rfl)
  rintro _ rfl
  have e1 : f32 (rows.map Prod.snd) = some ((rows.map Prod.snd).mergeSort fun x y => decide (x ≤ y)) := by
    show fSrt _ = _
    unfold fSrt
    rw [decide_eq_true (by simp; omega)]
  refine goS e1 (goS (y := Lib.compact ((rows.map Prod.snd).mergeSort fun x y => decide (x ≤ y))) rfl (goR ?_))
  have hsort : ((rows.map Prod.snd).mergeSort fun x y => decide (x ≤ y)).Pairwise (· ≤ ·) := by
    have := List.pairwise_mergeSort (le := fun x y : Int => decide (x ≤ y)) (by intro a b c h1 h2; simp at *; omega) (by intro a b; simp; omega) (rows.map Prod.snd)
    simpa using this
  obtain ⟨h1, h2⟩ := compact_are hsort
  exact ⟨h1, fun x => (h2 x).trans List.mem_mergeSort⟩
theorem asc_ins {out : List Int} {x : Int} {k : Nat} (h : Asc out) (h1 : ∀ y ∈ out.take k, y < x) (h2 : ∀ (hk : k < out.length), x < out[k]) : Asc (out.take k ++ [x] ++ out.drop k) := by
  have hd : ∀ y ∈ out.drop k, x < y := by
    intro y hy
    obtain ⟨j, hj, rfl⟩ := List.getElem_of_mem hy
    rw [List.length_drop] at hj
    rw [List.getElem_drop]
    have h3 := h2 (by omega)
    rcases Nat.eq_zero_or_pos j with rfl | hj0
    · exact h3
    · have := List.pairwise_iff_getElem.1 h k (k + j) (by omega) (by omega) (by omega)
      omega
  refine List.pairwise_append.2 ⟨List.pairwise_append.2 ⟨List.Pairwise.sublist (List.take_sublist _ _) h, by simp, fun a ha b hb => ?_⟩, List.Pairwise.sublist (List.drop_sublist _ _) h, fun a ha b hb => ?_⟩
  · simp only [List.mem_singleton] at hb; subst hb; exact h1 a ha
  · rcases List.mem_append.1 ha with ha | ha
    · have := h1 a ha; have := hd b hb; omega
    · simp only [List.mem_singleton] at ha; subst ha; exact hd b hb
theorem pagesR_ok {size : Int} {l : List FetchS} (hs : 1 ≤ size) (hl : TOk l) : Ok (f21 size l) (PagesAre (pgs size l)) := by
  have hL := hl.1
  unfold f21
  refine goS (touches_ok hs hl) ?_
  have hrl : (pgs size l).length ≤ 1000 := by have := pgs_len hs hl.2; omega
  generalize pgs size l = t at *
  refine goB (PagesAre t) ?_ fun y hy => goR hy
  refine ok_loop (fun s : Int × List Int => ∃ i : Nat, s.1 = i ∧ i ≤ t.length ∧ s.2.length ≤ i ∧ PagesAre (t.take i) s.2) (fun s => t.length - s.1.toNat) ⟨0, rfl, by omega, by simp, List.Pairwise.nil, by simp⟩ ?_
  rintro ⟨_, out⟩ ⟨i, rfl, hi, ho, ha, hm⟩
  dsimp only at ho ha hm ⊢
  refine goI (fun h => ?_) fun h => ?_
  · rw [dec_iff] at h
    have hi' : i < t.length := by omega
    have hd : t.getD (Int.toNat ((Int.toNat (i : Int) : Nat) : Int)) 0 = t[i] := by rw [Int.toNat_natCast, Int.toNat_natCast]; exact getD_at _ hi'
    have hin : inB (i : Int) t.length = true := inB_iff.2 ⟨by omega, by omega⟩
    simp only [hd]
    generalize hx : t[i] = x
    refine goB (fun k : Int => ∃ j : Nat, k = j ∧ j ≤ out.length ∧ (∀ y ∈ out.take j, y < x) ∧ ∀ (hj : j < out.length), x ≤ out[j]) ?_ ?_
    · refine ok_loop (fun k : Int => ∃ j : Nat, k = j ∧ j ≤ out.length ∧ ∀ y ∈ out.take j, y < x) (fun k => out.length - k.toNat) ⟨0, rfl, by omega, by simp⟩ ?_
      rintro _ ⟨j, rfl, hj, hlt⟩
      refine goB (fun b => b = true ↔ ∃ hj : j < out.length, out[j] < x) ?_ ?_
      · refine goI (fun h => ?_) fun h => goR ?_
        · rw [dec_iff] at h
          have hj' : j < out.length := by omega
          have hd : out.getD (Int.toNat ((Int.toNat (j : Int) : Nat) : Int)) 0 = out[j] := by rw [Int.toNat_natCast, Int.toNat_natCast]; exact getD_at _ hj'
          refine goC (inB_iff.2 ⟨by omega, by omega⟩) (goC hin (goR ?_))
          rw [hd, dec_iff]
          exact ⟨fun h => ⟨hj', h⟩, fun ⟨_, h⟩ => h⟩
        · rw [dec_iff'] at h
          exact ⟨fun h => (by cases h), fun ⟨h1, _⟩ => by omega⟩
      · intro b hb
        refine goI (fun h => goR ?_) fun h => goR ⟨j, rfl, hj, hlt, fun hj' => ?_⟩
        · obtain ⟨hj', hx'⟩ := hb.1 h
          refine ⟨⟨j + 1, ?_, hj', fun y hy => ?_⟩, ?_⟩
          · rw [w64_of (by omega)]; rfl
          · rw [take_snoc hj', List.mem_append] at hy
            rcases hy with hy | hy
            · exact hlt y hy
            · simp only [List.mem_singleton] at hy; subst hy; exact hx'
          · rw [w64_of (by omega)]; omega
        · have : ¬ out[j] < x := fun hx' => by rw [hb.2 ⟨hj', hx'⟩] at h; cases h
          omega
    rintro _ ⟨j, rfl, hj, hlt, hge⟩
    refine goB (fun b => b = true ↔ ∀ (hj : j < out.length), out[j] ≠ x) ?_ ?_
    · refine goI (fun h => goR ?_) fun h => ?_
      · rw [dec_iff] at h
        exact ⟨fun _ hj' => by omega, fun _ => rfl⟩
      · rw [dec_iff'] at h
        have hj' : j < out.length := by omega
        have hd : out.getD (Int.toNat ((Int.toNat (j : Int) : Nat) : Int)) 0 = out[j] := by rw [Int.toNat_natCast, Int.toNat_natCast]; exact getD_at _ hj'
        refine goC (inB_iff.2 ⟨by omega, by omega⟩) (goC hin (goR ?_))
        rw [hd, not_iff, dec_iff']
        exact ⟨fun h _ => h, fun h => h hj'⟩
    intro b hb
    have etake : t.take (i + 1) = t.take i ++ [x] := by rw [take_snoc hi', hx]
    refine goB (fun y => y.length ≤ i + 1 ∧ PagesAre (t.take (i + 1)) y) ?_ ?_
    · refine goI (fun h => ?_) fun h => goR ⟨by omega, ha, fun z => ?_⟩
      · have hne := hb.1 h
        refine goC (slOk_iff.2 ⟨⟨by omega, by omega⟩, by omega⟩) ?_
        simp only [Int.toNat_natCast, Int.toNat_zero, List.drop_zero, List.take_length, List.nil_append]
        refine goC (by simp; omega) (goC hin (goC (by simp; omega) (goC (slOk_iff.2 ⟨⟨by omega, by omega⟩, by omega⟩) (goC (by simp; omega) (goR ⟨?_, ?_, fun z => ?_⟩)))))
        · simp; omega
        · exact asc_ins ha hlt fun hj' => by have := hge hj'; have := hne hj'; omega
        · have e : z ∈ out.take j ++ [x] ++ out.drop j ↔ z ∈ out ∨ z = x := by
            have : z ∈ out ↔ z ∈ out.take j ∨ z ∈ out.drop j := by rw [← List.mem_append, List.take_append_drop]
            rw [this, List.mem_append, List.mem_append, List.mem_singleton]
            exact ⟨fun h => h.elim (fun h => h.elim (fun h => .inl (.inl h)) .inr) fun h => .inl (.inr h), fun h => h.elim (fun h => h.elim (fun h => .inl (.inl h)) .inr) fun h => .inl (.inr h)⟩
          rw [e, etake, List.mem_append, List.mem_singleton, hm]
      · rw [etake, List.mem_append, List.mem_singleton, hm]
        refine ⟨.inl, fun h' => h'.elim id fun hz => ?_⟩
        subst hz
        have : ¬ ∀ (hj : j < out.length), out[j] ≠ z := fun hc => by rw [hb.2 hc] at h; cases h
        apply Classical.byContradiction
        intro hni
        refine this fun hj' e => hni ((hm z).1 (e ▸ List.getElem_mem _))
    · rintro y ⟨hy1, hy2⟩
      refine goR ⟨⟨i + 1, ?_, by omega, hy1, hy2⟩, ?_⟩
      · rw [w64_of (by omega)]; rfl
      · simp only; rw [w64_of (by omega)]; omega
  · rw [dec_iff'] at h
    have : i = t.length := by omega
    subst this
    rw [List.take_length] at hm
    exact goR ⟨ha, hm⟩
theorem pages_eq {size : Int} {l : List FetchS} (hs : 1 ≤ size ∧ size ≤ 65536) (hl : TOk l) : ∃ y, f20 size l = some y ∧ f21 size l = some y ∧ PagesAre (pgs size l) y := by
  obtain ⟨y, hy, h1, h2⟩ := pagesM_ok hs hl
  obtain ⟨z, hz, h3, h4⟩ := pagesR_ok hs.1 hl
  refine ⟨y, hy, ?_, h1, h2⟩
  rw [hz, asc_ext z y h3 h1 fun x => (h4 x).trans (h2 x).symm]

/-! ### Counts of faults -/
def missR (k : Nat) : List Int → List Int → Int
  | _, [] => 0
  | s, p :: t => (if p ∈ s.take k then 0 else 1) + missR k (p :: s.erase p) t
def newR : List Int → List Int → Int
  | _, [] => 0
  | s, p :: t => (if p ∈ s then 0 else 1) + newR (p :: s.erase p) t
theorem er_take (a : Int) : ∀ (s : List Int) (j : Nat), ((s.take (j + 1)).erase a).take j = (s.erase a).take j
  | [], j => by simp
  | b :: s, j => by
    rw [List.take_succ_cons]
    by_cases h : b = a
    · subst h
      rw [List.erase_cons_head, List.erase_cons_head, List.take_take, Nat.min_self]
    · rw [List.erase_cons_tail (by simpa using h), List.erase_cons_tail (by simpa using h)]
      cases j with
      | zero => rfl
      | succ j => rw [List.take_succ_cons, List.take_succ_cons, er_take a s j]
theorem useL_take {s : List Int} {w x : Int} : useL (s.take w.toNat) w x = (x :: s.erase x).take w.toNat := by
  unfold useL
  generalize w.toNat = k
  cases k with
  | zero => rfl
  | succ k => rw [List.take_succ_cons, List.take_succ_cons, er_take]
theorem sumL_set {l : List Int} : ∀ {i : Nat}, i < l.length → sumL (l.set i (l.getD i 0 + 1)) = sumL l + 1 := by
  induction l with
  | nil => intro i h; simp at h
  | cons a l ih =>
    intro i h
    cases i with
    | zero => rw [List.set_cons_zero, sumL_cons, sumL_cons]; simp; omega
    | succ i =>
      rw [List.set_cons_succ, sumL_cons, sumL_cons]
      have : (a :: l).getD (i + 1) 0 = l.getD i 0 := by simp
      rw [this, ih (by simpa using h)]; omega
theorem each_sum {res : Int} : ∀ (rows : List (Int × Int)) (s out : List Int), (∀ r ∈ rows, 0 ≤ r.1 ∧ r.1 < out.length) →
    sumL (rows.foldl (stepE res) (s.take res.toNat, out)).2 = sumL out + missR res.toNat s (rows.map Prod.snd)
  | [], s, out, _ => by simp [missR]
  | r :: rows, s, out, h => by
    have hr := h r (by simp)
    have e : stepE res (s.take res.toNat, out) r = ((r.2 :: s.erase r.2).take res.toNat, if r.2 ∈ s.take res.toNat then out else out.set r.1.toNat (out.getD r.1.toNat 0 + 1)) := by
      unfold stepE; rw [useL_take]
    rw [List.foldl_cons, e, List.map_cons, missR]
    by_cases hm : r.2 ∈ s.take res.toNat
    · rw [if_pos hm, if_pos hm, each_sum rows _ _ fun r' hr' => h r' (by simp [hr'])]; omega
    · rw [if_neg hm, if_neg hm, each_sum rows _ _ fun r' hr' => by rw [List.length_set]; exact h r' (by simp [hr']), sumL_set (by omega)]; omega
theorem eachL_sum {size res : Int} {l : List FetchS} (h : 1 ≤ res) : sumL (eachL size res l) = missR res.toNat [] (pgs size l) := by
  unfold eachL
  rw [if_neg (by omega)]
  have := each_sum (res := res) (rowsOf size 0 l) [] (List.replicate l.length 0) (fun r hr => by have := rows_fst size l 0 r hr; simp; omega)
  rw [List.take_nil] at this
  rw [this, rows_snd]
  have e : ∀ n : Nat, sumL (List.replicate n 0) = 0 := by
    intro n
    induction n with
    | zero => rfl
    | succ n ih => rw [List.replicate_succ, sumL_cons, ih]; rfl
  rw [e]; omega
theorem missR_mono {j k : Nat} (h : j ≤ k) : ∀ (t s : List Int), missR k s t ≤ missR j s t
  | [], s => Int.le_refl _
  | p :: t, s => by
    have := missR_mono h t (p :: s.erase p)
    have hsub : p ∈ s.take j → p ∈ s.take k := fun hm => by
      have e : s.take j = (s.take k).take j := by rw [List.take_take, Nat.min_eq_left h]
      rw [e] at hm
      exact List.mem_of_mem_take hm
    unfold missR
    by_cases h1 : p ∈ s.take k
    · rw [if_pos h1]; split <;> omega
    · rw [if_neg h1, if_neg fun h2 => h1 (hsub h2)]; omega
theorem newR_le {k : Nat} : ∀ (t s : List Int), newR s t ≤ missR k s t
  | [], s => Int.le_refl _
  | p :: t, s => by
    have := newR_le (k := k) t (p :: s.erase p)
    unfold missR newR
    by_cases h1 : p ∈ s
    · rw [if_pos h1]; split <;> omega
    · rw [if_neg h1, if_neg fun h2 => h1 (List.mem_of_mem_take h2)]; omega
theorem newR_eq {k : Nat} : ∀ (t s : List Int), s.length + t.length ≤ k → missR k s t = newR s t
  | [], s, _ => rfl
  | p :: t, s, h => by
    rw [List.length_cons] at h
    have := List.length_erase_le (a := p) (l := s)
    rw [missR, newR, newR_eq t (p :: s.erase p) (by rw [List.length_cons]; omega), List.take_of_length_le (by omega)]
theorem newR_len : ∀ (t s : List Int), ((t.foldl (fun s p => p :: s.erase p) s).length : Int) = s.length + newR s t
  | [], s => by simp [newR]
  | p :: t, s => by
    rw [List.foldl_cons, newR_len t, newR]
    by_cases h : p ∈ s
    · rw [if_pos h, List.length_cons, List.length_erase_of_mem h]
      have := List.length_pos_of_mem h
      omega
    · rw [if_neg h, List.length_cons, List.erase_of_not_mem h]
      omega
theorem pages_count {t y : List Int} (h : PagesAre t y) : (y.length : Int) = newR [] t := by
  have h1 : ((mtf t).length : Int) = newR [] t := by have := newR_len t []; simpa [mtf] using this
  rw [← h1]
  have h2 : y.Perm (mtf t) := (List.perm_ext_iff_of_nodup (asc_nodup h.1) (mtf_nodup t)).2 fun x => (h.2 x).trans (mtf_mem t x).symm
  rw [h2.length_eq]

/-! ### The example of the chapter -/
theorem awake_ok : f7 = some true := by
  apply ok_eq
  unfold f7
  refine goB (fun y => y = [FetchS.mk 10 1 0, FetchS.mk 20 1 0, FetchS.mk 10 1 0, FetchS.mk 30 1 0]) ?_ ?_
  · refine ok_for [(1 : Int), 2, 1, 3] (fun i (s : List FetchS) => (i, s)) (fun s p => s ++ [FetchS.mk (10 * p) 1 0]) (fun i s => s.length = i) (s0 := []) rfl rfl ?_ ?_
    · rintro i hi s hs _
      have hi4 : i < 4 := hi
      have hd : List.getD [(1 : Int), 2, 1, 3] (Int.toNat ((Int.toNat (i : Int) : Nat) : Int)) 0 = [(1 : Int), 2, 1, 3][i] := by rw [Int.toNat_natCast, Int.toNat_natCast]; exact getD_at _ hi
      have hb : 1 ≤ [(1 : Int), 2, 1, 3][i] ∧ [(1 : Int), 2, 1, 3][i] ≤ 3 := by
        have : i = 0 ∨ i = 1 ∨ i = 2 ∨ i = 3 := by omega
        rcases this with rfl | rfl | rfl | rfl <;> simp
      simp only [hd]
      refine goT (decide_eq_true (by simp only [List.length_cons, List.length_nil]; omega)) (goC (inB_iff.2 ⟨by omega, by simp only [List.length_cons, List.length_nil]; omega⟩) (goC (by simp [hs]; omega) (goR ⟨?_, by simp [hs]⟩)))
      rw [w64_of (by omega), w64_of (by omega)]
    · rintro s hs he
      exact goF (decide_eq_false (by simp only [List.length_cons, List.length_nil]; omega)) (goR he)
  rintro _ rfl
  have hl : TOk [FetchS.mk 10 1 0, FetchS.mk 20 1 0, FetchS.mk 10 1 0, FetchS.mk 30 1 0] := by
    refine ⟨by decide, fun f hf => ?_⟩
    simp only [List.mem_cons, List.not_mem_nil, or_false] at hf
    rcases hf with rfl | rfl | rfl | rfl <;> exact ⟨by decide, by decide⟩
  have ep : pgs 10 [FetchS.mk 10 1 0, FetchS.mk 20 1 0, FetchS.mk 10 1 0, FetchS.mk 30 1 0] = [1, 2, 1, 3] := by decide
  refine goB (fun y => y = true) ?_ fun y hy => goR hy
  have h1 := distance_ok (size := 10) (by decide) hl
  have e1 : distL (pgs 10 [FetchS.mk 10 1 0, FetchS.mk 20 1 0, FetchS.mk 10 1 0, FetchS.mk 30 1 0]) = [0, 0, 2, 0] := by rw [ep]; decide
  rw [e1] at h1
  refine goS h1 (goS (ints_refl (by decide)) (goT rfl ?_))
  obtain ⟨y, hy, _, h2⟩ := pages_eq (size := 10) (by decide) hl
  rw [ep] at h2
  have e2 : y = [1, 2, 3] := asc_ext y [1, 2, 3] h2.1 (by simp [Asc]) fun x => (h2.2 x).trans (by simp; omega)
  subst e2
  exact goS hy (goR rfl)
end Go.Fg.Ytdddhnagekhihaa
