/-
  Chapter 17, plain: the document's answers, traces and models.
-/
import Derived.Test.YtdioheaklahnnaaLd
namespace Go.Fg.Ytdioheaklahnnaa
open Go.Fw
set_option linter.unusedVariables false
set_option linter.unusedSimpArgs false

theorem first_ok {s : List Int} {n most : Int} (hn : s.Nodup) (hl : s.length ≤ 1048576) (hm : 0 ≤ most) : f29 s n most = some (useL s most n, decide (n ∈ s)) := by
  apply ok_eq
  unfold f29
  simp only [ok_bind]
  refine ok_mono (Q := fun y => y = (decide (n ∈ s), n :: s.erase n)) ?_ fun y hy => ?_
  · rw [hn.erase_eq_filter]
    refine ok_for s (fun i (st : Bool × List Int) => (st.1, (i, st.2))) (fun st e => if e = n then (true, st.2) else (st.1, st.2 ++ [e])) (fun i st => st = (decide (n ∈ s.take i), n :: (s.take i).filter (· != n))) (s0 := (false, [n])) rfl (by simp) ?_ ?_
    · rintro i hi ⟨th, out⟩ he _
      have hd : s.getD (Int.toNat (i : Int)) 0 = s[i] := by rw [Int.toNat_natCast]; exact getD_at _ hi
      simp only [ok_bif, ok_bind, ok_some, ok_ck, dec_iff, dec_iff', inB_iff, sumQ_inl, sumQ_inr, not_iff, not_iff', hd]
      rw [w64_of (by omega)]
      have hol : out.length ≤ i + 1 := by
        have e1 : out = n :: (s.take i).filter (· != n) := congrArg Prod.snd he
        have := List.length_filter_le (· != n) (s.take i)
        rw [e1, List.length_cons]; simp at this ⊢; omega
      rw [take_snoc hi, List.filter_append]
      refine ⟨fun _ => ⟨⟨by omega, by omega⟩, fun h2 => ?_, fun h2 => ⟨⟨by omega, by omega⟩, by simp; omega, ?_⟩⟩, fun h => by omega⟩
      · rw [if_pos h2]
        refine ⟨rfl, ?_⟩
        have e1 : out = n :: (s.take i).filter (· != n) := congrArg Prod.snd he
        simp [h2, e1]
      · rw [if_neg h2]
        refine ⟨rfl, ?_⟩
        have e1 : out = n :: (s.take i).filter (· != n) := congrArg Prod.snd he
        have e2 : th = decide (n ∈ s.take i) := congrArg Prod.fst he
        have h3 : ¬ n = s[i] := fun e => h2 e.symm
        have e3 : List.filter (· != n) [s[i]] = [s[i]] := by simp [h2]
        rw [e3]
        simp only [List.mem_append, List.mem_singleton, h3, or_false, e1, e2]
        rfl
    · rintro ⟨th, out⟩ he _
      simp only [ok_bif, ok_bind, ok_some, ok_ck, dec_iff, dec_iff', inB_iff, sumQ_inl, sumQ_inr, not_iff, not_iff']
      rw [List.take_length] at he
      exact ⟨fun h => by omega, fun _ => he⟩
  · subst hy
    simp only [ok_bif, ok_bind, ok_some, ok_ck, dec_iff, dec_iff', slOk_iff]
    have e0 : Int.toNat 0 = 0 := rfl
    unfold useL
    refine ⟨fun h => ⟨⟨⟨by omega, hm⟩, by omega⟩, by rw [e0, List.drop_zero]⟩, fun h => ?_⟩
    rw [List.take_of_length_le (by omega)]
theorem accessR_ok {L : Nat} {ways line : Int} {x : List (List Int)} (hx : SetsOk L ways x) (hL : 0 < L ∧ L ≤ 1024) (hw : 0 ≤ ways ∧ ways ≤ 1024) (hl : 0 ≤ line) : f18 x ways line = some (hitL x line, accessL x ways line) := by
  apply ok_eq
  obtain ⟨h1, h2⟩ := small_of hx hL.2 hw.2
  have hxL : x.length = L := hx.1
  unfold f18
  simp only [ok_bind]
  refine ok_mono (Q := fun y => y = x) (ok_for x (fun i (s : List (List Int)) => (i, s)) (fun s e => s ++ [e]) (fun i s => s = x.take i) (s0 := []) rfl (by simp) ?_ ?_) ?_
  · rintro i hi s he _
    have hd : x.getD (Int.toNat (i : Int)) [] = x[i] := by rw [Int.toNat_natCast]; exact getD_at _ hi
    simp only [ok_bif, ok_bind, ok_some, ok_ck, dec_iff, dec_iff', inB_iff, sumQ_inl, sumQ_inr, not_iff, not_iff', hd]
    rw [w64_of (by omega), take_snoc hi]
    have hm : x[i].length ≤ 1048576 := h2 _ (List.getElem_mem _)
    have hsl : s.length = i := by rw [he]; simp; omega
    exact ⟨fun _ => ⟨⟨by omega, by omega⟩, by simp; omega, by simp [hsl]; omega, by simp, by rw [he]⟩, fun h => by omega⟩
  · rintro s he _
    simp only [ok_bif, ok_bind, ok_some, ok_ck, dec_iff, dec_iff', inB_iff, sumQ_inl, sumQ_inr, not_iff, not_iff']
    rw [List.take_length] at he
    exact ⟨fun h => by omega, fun _ => he⟩
  · rintro _ rfl
    rename_i x
    have ht := tmod_lt (a := line) (b := x.length) hl (by omega)
    simp only [ok_bif, ok_bind, ok_some, ok_ck, dec_iff, dec_iff', inB_iff, sumQ_inl, sumQ_inr, not_iff, Int.toNat_natCast]
    have hlt : (Int.tmod line x.length).toNat < x.length := by omega
    have hs : x.getD (Int.tmod line x.length).toNat [] = x[(Int.tmod line x.length).toNat] := getD_at _ hlt
    have hso := hx.2 _ hlt
    rw [hs, first_ok hso.2.1 (by have := hso.1; omega) hw.1, ok_some]
    refine ⟨by omega, ht, ht, ?_⟩
    unfold hitL accessL setOf
    rw [hs]
theorem ints_refl {a : List Int} (h : a.length ≤ 1099511627776) : f15 a a = some true := by
  apply ok_eq
  unfold f15
  simp only [ok_bif, ok_bind, ok_bindE, ok_some, ok_ck, dec_iff, dec_iff', not_iff, not_iff']
  refine ⟨fun h => absurd trivial h, fun _ => ?_⟩
  refine ok_for a (fun i (s : Unit) => i) (fun s e => ()) (fun i s => True) (s0 := ()) rfl trivial ?_ ?_
  · rintro i hi s _ _
    simp only [ok_bif, ok_bind, ok_some, ok_ck, dec_iff, dec_iff', inB_iff, sumQ_inl, sumQ_inr, not_iff, not_iff']
    rw [w64_of (by omega)]
    exact ⟨fun _ => ⟨⟨by omega, by omega⟩, ⟨by omega, by omega⟩, fun h => absurd trivial h, fun _ => ⟨rfl, trivial⟩⟩, fun h => by omega⟩
  · rintro s _ _
    simp only [ok_bif, ok_bind, ok_some, ok_ck, dec_iff, dec_iff', inB_iff, sumQ_inl, sumQ_inr, not_iff, not_iff']
    exact ⟨fun h => by omega, fun _ => trivial⟩
theorem same_refl {x : List (List Int)} (h : Small x) : f13 x x = some true := by
  apply ok_eq
  obtain ⟨h1, h2⟩ := h
  unfold f13
  simp only [ok_bif, ok_bind, ok_bindE, ok_some, ok_ck, dec_iff, dec_iff', not_iff, not_iff']
  refine ⟨fun h => absurd trivial h, fun _ => ?_⟩
  refine ok_for x (fun i (s : Unit) => i) (fun s e => ()) (fun i s => True) (s0 := ()) rfl trivial ?_ ?_
  · rintro i hi s _ _
    have hd : x.getD (Int.toNat (i : Int)) [] = x[i] := by rw [Int.toNat_natCast]; exact getD_at _ hi
    simp only [ok_bif, ok_bind, ok_some, ok_ck, dec_iff, dec_iff', inB_iff, sumQ_inl, sumQ_inr, not_iff, not_iff', hd]
    have hm : x[i].length ≤ 1048576 := h2 _ (List.getElem_mem _)
    rw [w64_of (by omega), ints_refl (by omega), ok_some]
    exact ⟨fun _ => ⟨⟨by omega, by omega⟩, ⟨by omega, by omega⟩, fun h => (by cases h), fun _ => ⟨rfl, trivial⟩⟩, fun h => by omega⟩
  · rintro s _ _
    simp only [ok_bif, ok_bind, ok_some, ok_ck, dec_iff, dec_iff', inB_iff, sumQ_inl, sumQ_inr, not_iff, not_iff']
    exact ⟨fun h => by omega, fun _ => trivial⟩

/-! ### Draws -/
theorem draw {n : Int} {l : List Int} {i : Int} {β : Type} {k : Int × (List Int × Int) → Option β} {Q : β → Prop} (hl : Bytes l) (hi : 0 ≤ i) (hn : 1 ≤ n ∧ n ≤ 65536)
    (h : ∀ v j, 0 ≤ v → v < n → 0 ≤ j → Ok (k (v, (l, j))) Q) : Ok (Option.bind (f11 n l i) k) Q := by
  rw [ok_bind]
  refine ok_mono (next_ok hl hi hn.2) ?_
  rintro ⟨v, l', j⟩ ⟨h1, h2, h3, h4, _⟩
  simp only at h1 h2 h3 h4
  subst h1
  exact h v j h3 (h4 hn.1) h2
def FOk (f : FetchS) : Prop := (0 ≤ f.address ∧ f.address < 80) ∧ (1 ≤ f.size ∧ f.size ≤ 10)
theorem trace_ok {n : Int} {l : List Int} {i : Int} (hl : Bytes l) (hi : 0 ≤ i) (hn : 0 ≤ n ∧ n ≤ 1000) : Ok (f19 n l i) fun y => y.1 = l ∧ 0 ≤ y.2.1 ∧ y.2.2.length ≤ n ∧ ∀ f ∈ y.2.2, FOk f := by
  unfold f19
  dsimp only
  rw [w64_of (by omega)]
  refine draw hl hi (by omega) fun v j v0 v1 j0 => ?_
  rw [ok_bind]
  refine ok_mono (Q := fun y => y.1 = l ∧ 0 ≤ y.2.1 ∧ y.2.2.length ≤ n ∧ ∀ f ∈ y.2.2, FOk f) ?_ fun y hy => ok_some.2 hy
  refine ok_loop (fun s : Int × (List Int × (Int × List FetchS)) => 0 ≤ s.1 ∧ s.1 ≤ v ∧ s.2.1 = l ∧ 0 ≤ s.2.2.1 ∧ s.2.2.2.length = v - s.1 ∧ ∀ f ∈ s.2.2.2, FOk f) (fun s => s.1.toNat) ⟨v0, Int.le_refl _, rfl, j0, by simp, fun f hf => by cases hf⟩ ?_
  rintro ⟨k, l', a, out⟩ ⟨k0, k1, k2, k3, k4, k5⟩
  simp only at k0 k1 k2 k3 k4 k5
  subst k2
  dsimp only
  rw [ok_bif]
  simp only [dec_iff, dec_iff']
  refine ⟨fun h => ?_, fun h => ?_⟩
  · refine draw hl k3 (by decide) fun v1 j1 a0 a1 a2 => ?_
    refine draw hl a2 (by decide) fun v2 j2 b0 b1 b2 => ?_
    dsimp only
    rw [w64_of (x := 1 + v2) (by omega)]
    refine draw hl b2 (by decide) fun v3 j3 c0 c1 c2 => ?_
    simp only [ok_ck, ok_some, sumQ_inl]
    rw [w64_of (x := k - 1) (by omega)]
    refine ⟨by simp; omega, ⟨by omega, by omega, trivial, c2, by simp; omega, fun f hf => ?_⟩, by omega⟩
    rcases List.mem_append.1 hf with hf | hf
    · exact k5 f hf
    · simp only [List.mem_singleton] at hf
      subst hf
      exact ⟨⟨by simp only; omega, by simp only; omega⟩, by simp only; omega, by simp only; omega⟩
  · rw [ok_some]
    exact ⟨rfl, k3, by simp only; omega, k5⟩
abbrev MT := Int × (Int × (Int × (Int × (Int × (Int × (Int × (Int × (Int × (Int × (Int × (Int × ((List Int) × Int))))))))))))
def MOk (l : List Int) (y : MT) : Prop := (0 ≤ y.2.2.2.2.2.2.2.1 ∧ y.2.2.2.2.2.2.2.1 ≤ 4) ∧ (0 ≤ y.2.2.2.2.2.2.2.2.1 ∧ y.2.2.2.2.2.2.2.2.1 ≤ 4) ∧ y.2.2.2.2.2.2.2.2.2.2.2.2.1 = l ∧ 0 ≤ y.2.2.2.2.2.2.2.2.2.2.2.2.2
theorem modelR_ok {l : List Int} {i : Int} (hl : Bytes l) (hi : 0 ≤ i) : Ok (f21 l i) (MOk l) := by
  unfold f21
  dsimp only
  refine draw hl hi (by decide) fun v1 j1 _ _ h1 => ?_
  refine draw hl h1 (by decide) fun v2 j2 _ _ h2 => ?_
  refine draw hl h2 (by decide) fun v3 j3 _ _ h3 => ?_
  refine draw hl h3 (by decide) fun v4 j4 _ _ h4 => ?_
  refine draw hl h4 (by decide) fun v5 j5 _ _ h5 => ?_
  refine draw hl h5 (by decide) fun v6 j6 _ _ h6 => ?_
  refine draw hl h6 (by decide) fun v7 j7 _ _ h7 => ?_
  dsimp only
  rw [ok_bind]
  refine ok_mono (Q := fun s => s.1 = l ∧ 0 ≤ s.2.1 ∧ (0 ≤ s.2.2.2.2.2.2.2.2.2.1 ∧ s.2.2.2.2.2.2.2.2.2.1 ≤ 4) ∧ (0 ≤ s.2.2.2.2.2.2.2.2.2.2.1 ∧ s.2.2.2.2.2.2.2.2.2.2.1 ≤ 4)) ?_ ?_
  · rw [ok_bif]
    refine ⟨fun _ => ?_, fun _ => ok_some.2 ⟨rfl, h7, ⟨Int.le_refl 0, by dsimp only; omega⟩, Int.le_refl 0, by dsimp only; omega⟩⟩
    refine draw hl h7 (by decide) fun v8 j8 a0 a1 h8 => ?_
    simp only [ok_ck, inB_iff]
    refine ⟨⟨a0, a1⟩, ?_⟩
    refine draw hl h8 (by decide) fun v9 j9 b0 b1 h9 => ?_
    dsimp only
    refine draw hl h9 (by decide) fun v10 j10 c0 c1 h10 => ?_
    rw [w64_of (x := 1 + v9) (by omega), w64_of (x := 1 + v10) (by omega)]
    exact ok_some.2 ⟨rfl, h10, ⟨by simp only; omega, by simp only; omega⟩, by simp only; omega, by simp only; omega⟩
  rintro ⟨l', i', y⟩ ⟨rfl, k1, k2, k3⟩
  simp only at k1 k2 k3
  refine draw hl k1 (by decide) fun v11 j11 _ _ h11 => ?_
  dsimp only
  rw [ok_bind]
  refine ok_mono (Q := fun s => s.1 = l' ∧ 0 ≤ s.2.1 ∧ (0 ≤ s.2.2.2.2.2.2.2.2.2.1 ∧ s.2.2.2.2.2.2.2.2.2.1 ≤ 4) ∧ (0 ≤ s.2.2.2.2.2.2.2.2.2.2.1 ∧ s.2.2.2.2.2.2.2.2.2.2.1 ≤ 4)) ?_ ?_
  · rw [ok_bif]
    refine ⟨fun _ => ?_, fun _ => ok_some.2 ⟨rfl, h11, k2, k3⟩⟩
    refine draw hl h11 (by decide) fun v8 j8 a0 a1 h8 => ?_
    simp only [ok_ck, inB_iff]
    refine ⟨⟨a0, a1⟩, ?_⟩
    refine draw hl h8 (by decide) fun v9 j9 b0 b1 h9 => ?_
    exact ok_some.2 ⟨rfl, h9, k2, k3⟩
  rintro ⟨l', i', y⟩ ⟨rfl, q1, q2, q3⟩
  simp only at q1 q2 q3
  refine draw hl q1 (by decide) fun v11 j11 _ _ h11 => ?_
  dsimp only
  rw [ok_bind]
  refine ok_mono (Q := fun s => s.1 = l' ∧ 0 ≤ s.2.1 ∧ (0 ≤ s.2.2.2.2.2.2.2.2.2.1 ∧ s.2.2.2.2.2.2.2.2.2.1 ≤ 4) ∧ (0 ≤ s.2.2.2.2.2.2.2.2.2.2.1 ∧ s.2.2.2.2.2.2.2.2.2.2.1 ≤ 4)) ?_ ?_
  · rw [ok_bif]
    refine ⟨fun _ => ?_, fun _ => ok_some.2 ⟨rfl, h11, q2, q3⟩⟩
    refine draw hl h11 (by decide) fun v8 j8 a0 a1 h8 => ?_
    exact ok_some.2 ⟨rfl, h8, q2, q3⟩
  rintro ⟨l', i', y⟩ ⟨rfl, r1, r2, r3⟩
  exact ok_some.2 ⟨r2, r3, rfl, r1⟩
/-- a model with a cache -/
def MOk1 (l : List Int) (y : MT) : Prop := (1 ≤ y.2.2.2.2.2.2.1 ∧ y.2.2.2.2.2.2.1 ≤ 8) ∧ (1 ≤ y.2.2.2.2.2.2.2.1 ∧ y.2.2.2.2.2.2.2.1 ≤ 4) ∧ (1 ≤ y.2.2.2.2.2.2.2.2.1 ∧ y.2.2.2.2.2.2.2.2.1 ≤ 4) ∧ y.2.2.2.2.2.2.2.2.2.2.2.2.1 = l ∧ 0 ≤ y.2.2.2.2.2.2.2.2.2.2.2.2.2
theorem model_ok {l : List Int} {i : Int} (hl : Bytes l) (hi : 0 ≤ i) : Ok (f20 l i) (MOk1 l) := by
  unfold f20
  rw [ok_bind]
  refine ok_mono (modelR_ok hl hi) ?_
  rintro y ⟨_, _, rfl, k1⟩
  dsimp only
  refine draw hl k1 (by decide) fun v j a0 a1 h1 => ?_
  simp only [ok_ck, inB_iff]
  refine ⟨⟨a0, a1⟩, ?_⟩
  refine draw hl h1 (by decide) fun v2 j2 b0 b1 h2 => ?_
  dsimp only
  refine draw hl h2 (by decide) fun v3 j3 c0 c1 h3 => ?_
  rw [w64_of (x := 1 + v2) (by omega), w64_of (x := 1 + v3) (by omega)]
  refine ok_some.2 ⟨?_, ⟨by simp only; omega, by simp only; omega⟩, ⟨by simp only; omega, by simp only; omega⟩, rfl, h3⟩
  have : v = 0 ∨ v = 1 ∨ v = 2 ∨ v = 3 := by omega
  dsimp only
  rcases this with rfl | rfl | rfl | rfl <;> simp
end Go.Fg.Ytdioheaklahnnaa
