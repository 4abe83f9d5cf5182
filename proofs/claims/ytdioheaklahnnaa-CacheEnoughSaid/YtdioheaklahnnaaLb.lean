/-
  Chapter 17, plain: Access, the example of the chapter, CacheRecent.
-/
import Derived.Test.YtdioheaklahnnaaLa
namespace Go.Fg.Ytdioheaklahnnaa
open Go.Fw
set_option linter.unusedVariables false
set_option linter.unusedSimpArgs false

def Small (x : List (List Int)) : Prop := x.length ≤ 1048576 ∧ ∀ s ∈ x, s.length ≤ 1048576
def setOf (x : List (List Int)) (line : Int) : Nat := (Int.tmod line x.length).toNat
def accessL (x : List (List Int)) (ways line : Int) : List (List Int) := x.set (setOf x line) (useL (x.getD (setOf x line) []) ways line)
def hitL (x : List (List Int)) (line : Int) : Bool := decide (line ∈ x.getD (setOf x line) [])

theorem access_ok {x : List (List Int)} {ways line : Int} (hx : Small x) (h0 : 0 < x.length) (hw : 0 ≤ ways) (hl : 0 ≤ line) : f12 x ways line = some (hitL x line, accessL x ways line) := by
  apply ok_eq
  obtain ⟨h1, h2⟩ := hx
  unfold f12
  simp only [ok_bind]
  refine ok_mono (Q := fun y => y = x) (ok_loop (fun s : Int × List (List Int) => 0 ≤ s.1 ∧ s.1 ≤ x.length ∧ s.2 = x.take s.1.toNat) (fun s => x.length - s.1.toNat) ⟨Int.le_refl _, by simp only; omega, by simp⟩ ?_) ?_
  · rintro ⟨i, out⟩ ⟨q0, q1, q2⟩
    simp only at q0 q1 q2
    simp only [ok_bif, ok_bind, ok_some, ok_ck, dec_iff, dec_iff', inB_iff, sumQ_inl, sumQ_inr]
    refine ⟨fun h3 => ⟨⟨q0, h3⟩, ?_⟩, fun h3 => ?_⟩
    · have hs : x.getD i.toNat [] = x[i.toNat]'(by omega) := getD_at _ (by omega)
      have hm : x[i.toNat]'(by omega) ∈ x := List.getElem_mem _
      rw [hs, clone_ok (by have := h2 _ hm; omega), ok_some]
      have hol : out.length = i.toNat := by rw [q2]; simp; omega
      refine ⟨by simp [hol]; omega, ?_⟩
      rw [w64_of (by omega)]
      refine ⟨⟨by omega, by omega, ?_⟩, by omega⟩
      have e : (i + 1).toNat = i.toNat + 1 := by omega
      rw [e, List.take_add_one, List.getElem?_eq_getElem (by omega), q2]; rfl
    · have e : i.toNat = x.length := by omega
      rw [q2, e, List.take_length]
  · rintro _ rfl
    rename_i x
    have ht := tmod_lt (a := line) (b := x.length) hl (by omega)
    simp only [ok_bif, ok_bind, ok_some, ok_ck, dec_iff, dec_iff', inB_iff, sumQ_inl, sumQ_inr, not_iff]
    have hs : x.getD (Int.tmod line x.length).toNat [] ∈ x := by rw [getD_at _ (by omega)]; exact List.getElem_mem _
    rw [use_ok (h2 _ hs) hw, ok_some]
    exact ⟨by omega, ht, ht, rfl⟩
theorem newc_ok (n : Int) : f10 n = some (if n < 1 ∨ 1024 < n then [] else List.replicate n.toNat []) := by
  apply ok_eq
  unfold f10
  simp only [ok_bif, ok_bind, ok_some, ok_ck, dec_iff, dec_iff', mkOk_iff]
  refine ⟨fun h => ⟨fun _ => by rw [if_pos (.inl h)], fun h => by cases h⟩, fun h => ⟨fun h1 => by rw [if_pos (.inr h1)], fun h1 => ⟨by omega, by rw [if_neg (by omega)]⟩⟩⟩

theorem awake_ok : f8 = some true := by
  apply ok_eq
  have a (x : List (List Int)) (line : Int) (hx : Small x) (h0 : 0 < x.length) (hl : 0 ≤ line) := access_ok (ways := 1) hx h0 (by omega) hl
  have e1 : f12 [[]] 1 1 = some (false, [[1]]) := a [[]] 1 ⟨by decide, by decide⟩ (by decide) (by decide)
  have e2 : f12 [[1]] 1 1 = some (true, [[1]]) := a [[1]] 1 ⟨by decide, by decide⟩ (by decide) (by decide)
  have e3 : f12 [[1]] 1 2 = some (false, [[2]]) := a [[1]] 2 ⟨by decide, by decide⟩ (by decide) (by decide)
  have e4 : f12 [[2]] 1 1 = some (false, [[1]]) := a [[2]] 1 ⟨by decide, by decide⟩ (by decide) (by decide)
  unfold f8
  rw [newc_ok]
  simp only [ok_bind, ok_bindE, ok_some]
  have w1 : w64 1 = 1 := w64_of (by omega)
  have w2 : w64 2 = 2 := w64_of (by omega)
  have w3 : w64 3 = 3 := w64_of (by omega)
  have w4 : w64 4 = 4 := w64_of (by omega)
  refine ok_loop (fun s : Int × (Int × List (List Int)) => s = (0, 0, [[]]) ∨ s = (1, 1, [[1]]) ∨ s = (1, 2, [[1]]) ∨ s = (2, 3, [[2]]) ∨ s = (3, 4, [[1]])) (fun s => 4 - s.2.1.toNat) (.inl rfl) ?_
  rintro s (rfl | rfl | rfl | rfl | rfl)
  · simp [e1, ck, inB, w1, w2, w3, w4, ok_some, sumQ]
  · simp [e2, ck, inB, w1, w2, w3, w4, ok_some, sumQ]
  · simp [e3, ck, inB, w1, w2, w3, w4, ok_some, sumQ]
  · simp [e4, ck, inB, w1, w2, w3, w4, ok_some, sumQ]
  · simp [ok_some, sumQ]

/-! ### CacheRecent -/
def SetOk (L : Nat) (ways : Int) (i : Nat) (s : List Int) : Prop := s.length ≤ ways.toNat ∧ s.Nodup ∧ ∀ a ∈ s, 0 ≤ a ∧ Int.tmod a L = i
def SetsOk (L : Nat) (ways : Int) (x : List (List Int)) : Prop := x.length = L ∧ ∀ i (h : i < x.length), SetOk L ways i x[i]

theorem useL_ok {L : Nat} {ways : Int} {i : Nat} {s : List Int} {line : Int} (h : SetOk L ways i s) (h0 : 0 ≤ line) (hi : Int.tmod line L = i) : SetOk L ways i (useL s ways line) := by
  obtain ⟨h1, h2, h3⟩ := h
  have hn : (line :: s.erase line).Nodup := List.nodup_cons.2 ⟨fun hm => (List.Nodup.mem_erase_iff h2).1 hm |>.1 rfl, h2.erase line⟩
  refine ⟨by simp [useL]; omega, hn.sublist (List.take_sublist _ _), fun a ha => ?_⟩
  have ha := List.mem_of_mem_take ha
  rcases List.mem_cons.1 ha with rfl | ha
  · exact ⟨h0, hi⟩
  · exact h3 a (List.mem_of_mem_erase ha)
theorem accessL_ok {L : Nat} {ways : Int} {x : List (List Int)} {line : Int} (h : SetsOk L ways x) (h0 : 0 ≤ line) (hL : 0 < L) : SetsOk L ways (accessL x ways line) := by
  obtain ⟨h1, h2⟩ := h
  refine ⟨by simp [accessL, h1], fun i hi => ?_⟩
  have hi' : i < x.length := by simpa [accessL] using hi
  simp only [accessL, List.getElem_set]
  split
  · rename_i e
    have hs : x.getD (setOf x line) [] = x[i] := by rw [e]; exact getD_at _ hi'
    rw [hs]
    refine useL_ok (h2 i hi') h0 ?_
    have := tmod_lt (a := line) (b := L) h0 (by omega)
    rw [← e]; unfold setOf; rw [h1]; omega
  · exact h2 i hi'
theorem small_of {L : Nat} {ways : Int} {x : List (List Int)} (h : SetsOk L ways x) (hL : L ≤ 1024) (hw : ways ≤ 1024) : Small x := by
  refine ⟨by rw [h.1]; omega, fun s hs => ?_⟩
  obtain ⟨i, hi, rfl⟩ := List.getElem_of_mem hs
  have := (h.2 i hi).1
  omega
theorem hit_after {L : Nat} {ways : Int} {x : List (List Int)} {line : Int} (h : SetsOk L ways x) (h0 : 0 ≤ line) (hL : 0 < L) (hw : 1 ≤ ways) : hitL (accessL x ways line) line = true := by
  have hlen : (accessL x ways line).length = x.length := by simp [accessL]
  have hlt : setOf x line < x.length := by
    have := tmod_lt (a := line) (b := x.length) h0 (by rw [h.1]; omega)
    unfold setOf; omega
  unfold hitL
  have e : setOf (accessL x ways line) line = setOf x line := by unfold setOf; rw [hlen]
  rw [e, decide_eq_true_eq]
  simp only [accessL]
  rw [getD_at _ (by simpa using hlt), List.getElem_set_self]
  unfold useL
  have : ways.toNat = (ways.toNat - 1) + 1 := by omega
  rw [this, List.take_succ_cons]
  exact List.mem_cons_self

theorem recent {l : List Int} (hl : Bytes l) : f3 l = some true := by
  apply ok_eq
  unfold f3
  rw [awake_ok]
  simp only [ok_bind, ok_bif, ok_some, not_iff, not_iff']
  refine ⟨fun h => (by cases h), fun _ => ?_⟩
  refine ok_mono (new_ok hl (by decide)) fun c2 ⟨k2, hb⟩ => ?_
  obtain ⟨cs, at0⟩ := c2
  simp only at k2 hb ⊢
  subst k2
  refine ok_mono (next_ok hb (Int.le_refl _) (by decide)) fun c3 h3 => ?_
  obtain ⟨v3, cs3, a3⟩ := c3
  obtain ⟨rfl, h3a, h3v, h3n, _⟩ := h3
  simp only at h3a h3v h3n ⊢
  have h3n := h3n (by decide)
  rw [w64_of (x := 1 + v3) (by omega), newc_ok, ok_some, if_neg (by omega)]
  refine ok_mono (next_ok hb h3a (by decide)) fun c6 h6 => ?_
  obtain ⟨v6, cs6, a6⟩ := c6
  obtain ⟨rfl, h6a, h6v, h6n, _⟩ := h6
  simp only at h6a h6v h6n ⊢
  have h6n := h6n (by decide)
  rw [w64_of (x := 1 + v6) (by omega)]
  refine ok_mono (next_ok hb h6a (by decide)) fun c8 h8 => ?_
  obtain ⟨v8, cs8, a8⟩ := c8
  obtain ⟨rfl, h8a, h8v, h8n, _⟩ := h8
  simp only at h8a h8v h8n ⊢
  have h8n := h8n (by decide)
  generalize hL : (1 + v3).toNat = L
  generalize hW : 1 + v6 = ways
  rw [ok_bindE]
  refine ok_loop (fun s : Int × (List Int × (Int × List (List Int))) => 0 ≤ s.1 ∧ s.1 < 40 ∧ s.2.1 = cs8 ∧ 0 ≤ s.2.2.1 ∧ SetsOk L ways s.2.2.2) (fun s => s.1.toNat)
    ⟨h8v, h8n, rfl, h8a, by simp, fun i hi => ?_⟩ ?_
  · simp only [List.getElem_replicate]
    exact ⟨by simp, List.nodup_nil, fun a ha => by cases ha⟩
  rintro ⟨k, cs, a, x⟩ ⟨k0, k1, rfl, ka, kx⟩
  simp only at k0 k1 ka kx
  simp only [ok_bif, ok_bind, ok_bindE, ok_some, ok_ck, dec_iff, dec_iff', sumQ_inl, sumQ_inr, not_iff, not_iff']
  refine ⟨fun h => ?_, fun h => trivial⟩
  refine ok_mono (next_ok hb ka (by decide)) fun c11 h11 => ?_
  obtain ⟨line, cs11, a11⟩ := c11
  obtain ⟨rfl, h11a, h11v, h11n, _⟩ := h11
  simp only at h11a h11v h11n ⊢
  have hLx : x.length = L := kx.1
  refine ⟨fun h0 => by omega, fun h0 => ?_⟩
  have hacc := access_ok (small_of kx (by omega) (by omega)) (ways := ways) (line := line) (by omega) (by omega) h11v
  have ky := accessL_ok (line := line) kx h11v (by omega)
  have hacc2 := access_ok (small_of ky (by omega) (by omega)) (ways := ways) (line := line) (by rw [ky.1]; omega) (by omega) h11v
  refine ok_mono (Q := fun c => c.2 = accessL x ways line) ⟨_, hacc, rfl⟩ fun c14 e14 => ?_
  refine ok_mono (Q := fun c => c.1 = hitL (accessL x ways line) line) ⟨_, by rw [e14]; exact hacc2, rfl⟩ fun c15 e15 => ?_
  refine ⟨fun h1 => ?_, fun _ => ?_⟩
  · rw [e15, hit_after kx h11v (by omega) (by omega)] at h1; cases h1
  rw [← e14] at ky
  generalize c14.2 = y at ky
  refine ok_loop (fun i : Int => 0 ≤ i ∧ i ≤ y.length) (fun i => y.length - i.toNat) ⟨Int.le_refl _, by omega⟩ fun i ⟨i0, i1⟩ => ?_
  have hyl : y.length = L := ky.1
  simp only [ok_bif, ok_bind, ok_bindE, ok_some, ok_ck, dec_iff, dec_iff', sumQ_inl, sumQ_inr, not_iff, not_iff', inB_iff]
  refine ⟨fun h1 => ⟨⟨i0, h1⟩, ?_⟩, fun h1 => ?_⟩
  · have hs : y.getD (Int.toNat (i.toNat : Int)) [] = y[i.toNat]'(by omega) := by rw [Int.toNat_natCast]; exact getD_at _ (by omega)
    obtain ⟨s1, s2, s3⟩ : SetOk L ways i.toNat (y.getD (Int.toNat (i.toNat : Int)) []) := hs ▸ ky.2 i.toNat (by omega)
    generalize y.getD (Int.toNat (i.toNat : Int)) [] = s at s1 s2 s3
    refine ok_loop (fun a : Int => 0 ≤ a ∧ a ≤ s.length) (fun i => s.length - i.toNat) ⟨Int.le_refl _, by omega⟩ fun a ⟨a0, a1⟩ => ?_
    simp only [ok_bif, ok_bind, ok_bindE, ok_some, ok_ck, dec_iff, dec_iff', sumQ_inl, sumQ_inr, not_iff, not_iff', inB_iff]
    refine ⟨fun h2 => ⟨⟨a0, h2⟩, by omega, ?_, fun h3 => ?_⟩, fun h2 => ⟨fun h3 => by omega, fun h3 => ?_⟩⟩
    · intro h3
      rw [getD_at 0 (by omega)] at h3
      have := (s3 _ (List.getElem_mem (by omega : a.toNat < s.length))).2
      rw [hyl] at h3
      omega
    · refine ok_loop (fun b : Int => 0 ≤ b ∧ b ≤ a) (fun i => a.toNat - i.toNat) ⟨Int.le_refl _, a0⟩ fun b ⟨b0, b1⟩ => ?_
      simp only [ok_bif, ok_bind, ok_bindE, ok_some, ok_ck, dec_iff, dec_iff', sumQ_inl, sumQ_inr, not_iff, not_iff', inB_iff]
      refine ⟨fun h4 => ⟨⟨a0, h2⟩, ⟨b0, by omega⟩, fun h5 => ?_, fun h5 => ?_⟩, fun h4 => ?_⟩
      · rw [getD_at 0 (by omega), getD_at 0 (by omega)] at h5
        exact absurd h5.symm ((List.pairwise_iff_getElem.1 s2) b.toNat a.toNat (by omega) (by omega) (by omega))
      · rw [w64_of (by omega)]; omega
      · rw [w64_of (by omega)]; omega
    · rw [w64_of (by omega)]; omega
  · rw [w64_of (by omega)]
    exact ⟨⟨by omega, by omega, trivial, h11a, ky⟩, by omega⟩
end Go.Fg.Ytdioheaklahnnaa
