/-
  Chapter 18, plain: what the functions of draws and pages answer.
-/
import Derived.Test.YtdddhnagekhihaaFgB
import Derived.Test.YtdddhnagekhihaaZd
namespace Go.Fg.Ytdddhnagekhihaa
open Go.Fw
set_option linter.unusedVariables false
set_option linter.unusedSimpArgs false

/-! ### Draws -/
def Bytes (l : List Int) : Prop := l.length ≤ 9223372036854775807 ∧ ∀ x ∈ l, 0 ≤ x ∧ x ≤ 255

theorem bytes_at {l : List Int} (h : Bytes l) {n : Int} (h0 : 0 ≤ n) (h1 : n < l.length) : 0 ≤ l.getD n.toNat 0 ∧ l.getD n.toNat 0 ≤ 255 := by
  rw [getD_at 0 (by omega)]
  exact h.2 _ (List.getElem_mem _)

/-- what a draw of n gives -/
def Drawn (n : Int) (l : List Int) (y : Int × (List Int × Int)) : Prop := y.2.1 = l ∧ 0 ≤ y.2.2 ∧ 0 ≤ y.1 ∧ (1 ≤ n → y.1 < n) ∧ (n ≤ 1 → y.1 = 0)
theorem next_step {rec : Int → List Int → Int → Option (Int × (List Int × Int))} {n : Int} {l : List Int} {i : Int} (hl : Bytes l) (hi : 0 ≤ i) (hn : n ≤ 65536)
    (hrec : 256 < n → ∀ j, 0 ≤ j → Ok (rec 256 l j) (Drawn 256 l)) : Ok (f9S rec n l i) (Drawn n l) := by
  unfold f9S
  simp only [ok_bind, ok_bif, ok_some, ok_ck, dec_iff, dec_iff', inB_iff, not_iff]
  have tail : (n ≥ 1) → i < l.length → (0 ≤ i ∧ i < (l.length : Int)) ∧ (256 < n → Ok (rec 256 l (w64 (i + 1))) fun y => ¬ n = 0 ∧ Drawn n l (Int.tmod (w64 (w64 (256 * w64 (l.getD i.toNat 0)) + y.1)) n, y.2.1, y.2.2)) ∧ (¬ 256 < n → ¬ n = 0 ∧ Drawn n l (Int.tmod (w64 (l.getD i.toNat 0)) n, l, w64 (i + 1))) := by
    intro h1 h2
    have hb := bytes_at hl hi h2
    have hl' := hl.1
    rw [w64_of (x := i + 1) (by omega), w64_of (x := l.getD i.toNat 0) (by omega), w64_of (x := 256 * l.getD i.toNat 0) (by omega)]
    refine ⟨⟨hi, h2⟩, fun h3 => ok_mono (hrec h3 (i + 1) (by omega)) fun y hy => ?_, fun h3 => ⟨by omega, ?_⟩⟩
    · obtain ⟨q1, q2, q3, q4, q5⟩ := hy
      have q4 := q4 (by omega)
      rw [w64_of (by omega)]
      refine ⟨by omega, q1, q2, ?_⟩
      have := tmod_lt (a := 256 * l.getD i.toNat 0 + y.1) (b := n) (by omega) (by omega)
      exact ⟨this.1, fun _ => this.2, fun _ => by omega⟩
    · have := tmod_lt (a := l.getD i.toNat 0) (b := n) hb.1 (by omega)
      refine ⟨rfl, by simp; omega, this.1, fun _ => this.2, fun _ => ?_⟩
      have e : n = 1 := by omega
      subst e
      have := this.2
      have := this
      simp only
      omega
  refine ⟨fun h => ⟨fun _ => ⟨rfl, hi, Int.le_refl _, fun h => by simp only; omega, fun _ => rfl⟩, fun h0 => by cases h0⟩, fun h => ⟨fun h1 => ⟨rfl, hi, Int.le_refl _, fun h => by simp only; omega, fun _ => rfl⟩, fun h1 => ?_⟩⟩
  exact tail (by omega) (by omega)
theorem f9N_succ (k : Nat) : f9N (k + 1) = f9S (f9N k) := rfl
theorem next_ok {n : Int} {l : List Int} {i : Int} (hl : Bytes l) (hi : 0 ≤ i) (hn : n ≤ 65536) : Ok (f9 n l i) (Drawn n l) := by
  have e : f9 n l i = f9N (1048574 + 2) n l i := rfl
  rw [e, f9N_succ]
  refine next_step hl hi hn fun _ j hj => ?_
  rw [f9N_succ]
  exact next_step hl hj (by omega) fun h => absurd h (by omega)
theorem new_ok {l : List Int} {n : Int} (hl : Bytes l) (hn : 0 ≤ n) : Ok (f8 l n) fun y => y.2 = 0 ∧ Bytes y.1 := by
  unfold f8
  simp only [ok_bind, ok_bif, ok_some, ok_ck, dec_iff, dec_iff', slOk_iff]
  refine ⟨fun h => ⟨⟨⟨by omega, hn⟩, by omega⟩, trivial, ?_⟩, fun h => ⟨trivial, hl⟩⟩
  simp only [Int.toNat_zero, List.drop_zero]
  exact ⟨by have := hl.1; simp; omega, fun x hx => hl.2 x (List.mem_of_mem_take hx)⟩

/-! ### Library -/
theorem clone_ok {l : List Int} (h : l.length ≤ 1099511627776) : f25 l = some l := by
  unfold f25
  have e : (true && decide ((([] : List Int).length + l.length) * 8 ≤ 140737488355328)) = true := by simp; omega
  rw [e]
  cases l with
  | nil => simp [ck, both]
  | cons x l => simp [ck]
theorem index_ok {l : List Int} (x : Int) (h : l.length ≤ 1099511627776) : f24 l x = some (if x ∈ l then (l.idxOf x : Int) else -1) := by
  apply ok_eq
  unfold f24
  simp only [ok_bindE]
  refine ok_loop (fun i : Int => 0 ≤ i ∧ i ≤ l.length ∧ x ∉ l.take i.toNat) (fun i => l.length - i.toNat) ⟨Int.le_refl _, by omega, by simp⟩ fun i ⟨h0, h1, h2⟩ => ?_
  simp only [ok_bif, ok_some, ok_ck, dec_iff, dec_iff', inB_iff, sumQ_inl, sumQ_inr]
  refine ⟨fun h3 => ⟨⟨h0, h3⟩, fun h4 => ?_, fun h4 => ?_⟩, fun h3 => ?_⟩
  · rw [getD_at 0 (by omega)] at h4
    have hm : x ∈ l := h4 ▸ List.getElem_mem _
    rw [if_pos hm]
    have hlt : i.toNat < l.length := by omega
    have : l.idxOf x = i.toNat := by
      have e : l = l.take i.toNat ++ x :: l.drop (i.toNat + 1) := by
        conv => lhs; rw [← List.take_append_drop i.toNat l, List.drop_eq_getElem_cons hlt, ← h4]
      rw [e, List.idxOf_append, if_neg h2]
      simp [List.idxOf_cons]; omega
    rw [this]; omega
  · rw [w64_of (by omega)]
    refine ⟨⟨by omega, by omega, ?_⟩, by omega⟩
    have e : (i + 1).toNat = i.toNat + 1 := by omega
    rw [e, List.take_add_one, List.mem_append, not_or]
    refine ⟨h2, ?_⟩
    rw [List.getElem?_eq_getElem (by omega)]
    rw [getD_at 0 (by omega)] at h4
    simpa using h4
  · have : ¬ x ∈ l := by
      have e : i.toNat = l.length := by omega
      rw [e, List.take_length] at h2; exact h2
    rw [if_neg this]

/-! ### The list of what was used -/
def useL (s : List Int) (ways line : Int) : List Int := (line :: s.erase line).take ways.toNat
theorem eraseIdx_at {l : List Int} {i : Nat} : l.take i ++ l.drop (i + 1) = l.eraseIdx i := by
  rw [List.eraseIdx_eq_take_drop_succ]
theorem del_ok {s : List Int} {x : Int} (hm : x ∈ s) : f26 (s.idxOf x) ((s.idxOf x : Int) + 1) s = some (s.erase x) := by
  have hlt : s.idxOf x < s.length := List.idxOf_lt_length_of_mem hm
  show fDel _ _ _ = _
  unfold fDel
  have e1 : (decide ((0 : Int) ≤ (s.idxOf x : Int)) && decide ((s.idxOf x : Int) ≤ (s.idxOf x : Int) + 1) && decide ((s.idxOf x : Int) + 1 ≤ (s.length : Int))) = true := by simp; omega
  rw [e1]
  simp only
  have e2 : ((s.idxOf x : Int) + 1).toNat = s.idxOf x + 1 := by omega
  rw [e2, Int.toNat_natCast, eraseIdx_at, List.erase_eq_eraseIdx_of_idxOf]
  rfl
theorem ins_ok {s : List Int} {x : Int} (h : s.length ≤ 1048576) : f27 0 s [x] = some (x :: s) := by
  have e1 : insOk 0 s.length [x].length = true := by simp [insOk]; omega
  show fIns 0 s [x] = _
  unfold fIns
  rw [e1]
  simp
theorem touch_ok {s : List Int} {ways line : Int} (h : s.length ≤ 1048576) (hw : 0 ≤ ways) : f10 s ways line = some (useL s ways line, !decide (line ∈ s)) := by
  apply ok_eq
  unfold f10
  have hcl : f25 s = some s := clone_ok (by omega)
  have hix := index_ok (l := s) line (by omega)
  simp only [ok_bind, hcl, hix, ok_some, ok_bif, ok_ck, dec_iff, dec_iff', slOk_iff]
  have fin : ∀ (c : Int) (s5 : List Int), (c < 0 ↔ line ∉ s) → s5.length ≤ 1048576 → s5 = s.erase line → Ok (f27 0 s5 [line]) fun y => ((0 ≤ (0 : Int) ∧ 0 ≤ minI (y.length : Int) ways) ∧ minI (y.length : Int) ways ≤ (y.length : Int)) ∧ (List.drop (Int.toNat 0) (List.take (Int.toNat (minI (y.length : Int) ways)) y), decide (c < 0)) = (useL s ways line, !decide (line ∈ s)) := by
    intro c s5 hc hl5 he
    rw [ins_ok hl5, ok_some]
    have hmin : minI ((line :: s5).length : Int) ways = min ((line :: s5).length : Int) ways := minI_eq _ _
    rw [hmin]
    refine ⟨⟨⟨by omega, by omega⟩, by omega⟩, ?_⟩
    simp only [hc, Int.toNat_zero, List.drop_zero]
    refine Prod.ext ?_ (by simp)
    show List.take _ _ = _
    unfold useL
    rw [← he]
    rcases Int.le_total ((line :: s5).length : Int) ways with hh | hh
    · rw [Int.min_eq_left hh, Int.toNat_natCast, List.take_length, List.take_of_length_le (by omega)]
    · rw [Int.min_eq_right hh]
  by_cases hm : line ∈ s
  · rw [if_pos hm]
    have hlt : s.idxOf line < s.length := List.idxOf_lt_length_of_mem hm
    refine ⟨fun _ => ?_, fun h => absurd h (by omega)⟩
    rw [w64_of (by omega), del_ok hm, ok_some]
    exact fin _ _ ⟨fun h => by omega, fun h => absurd hm h⟩ (by have := List.length_erase_le (a := line) (l := s); omega) rfl
  · rw [if_neg hm]
    refine ⟨fun h => absurd h (by omega), fun _ => ?_⟩
    exact fin _ _ ⟨fun _ => hm, fun h => by omega⟩ h (List.erase_of_not_mem hm).symm
theorem first_ok {s : List Int} {n most : Int} (hn : s.Nodup) (hl : s.length ≤ 1048576) (hm : 0 ≤ most) : f28 s n most = some (useL s most n, decide (n ∈ s)) := by
  apply ok_eq
  unfold f28
  simp only [ok_bind]
  refine ok_mono (Q := fun y => y = (decide (n ∈ s), n :: s.erase n)) ?_ fun y hy => ?_
  · rw [hn.erase_eq_filter]
    refine ok_for s (fun i (st : Bool × List Int) => (st.1, (i, st.2))) (fun st e => if e = n then (true, st.2) else (st.1, st.2 ++ [e])) (fun i st => st = (decide (n ∈ s.take i), n :: (s.take i).filter (· != n))) (s0 := (false, [n])) rfl (by simp) ?_ ?_
    · rintro i hi ⟨th, out⟩ he _
      have hd : s.getD (Int.toNat (i : Int)) 0 = s[i] := by rw [Int.toNat_natCast]; exact getD_at _ hi
      simp only [ok_bif, ok_bind, ok_some, ok_ck, dec_iff, dec_iff', inB_iff, sumQ_inl, sumQ_inr, not_iff, not_iff', hd]
      rw [w64_of (by omega)]
      have hol : out.length ≤ i + 1 := by
        have e1 : out = n :: (s.take i).filter (· != n) := congrArg Prod.snd he
        have := List.length_filter_le (· != n) (s.take i)
        rw [e1, List.length_cons]; simp at this ⊢; omega
      rw [take_snoc hi, List.filter_append]
      refine ⟨fun _ => ⟨⟨by omega, by omega⟩, fun h2 => ?_, fun h2 => ⟨⟨by omega, by omega⟩, by simp; omega, ?_⟩⟩, fun h => by omega⟩
      · rw [if_pos h2]
        refine ⟨rfl, ?_⟩
        have e1 : out = n :: (s.take i).filter (· != n) := congrArg Prod.snd he
        simp [h2, e1]
      · rw [if_neg h2]
        refine ⟨rfl, ?_⟩
        have e1 : out = n :: (s.take i).filter (· != n) := congrArg Prod.snd he
        have e2 : th = decide (n ∈ s.take i) := congrArg Prod.fst he
        have h3 : ¬ n = s[i] := fun e => h2 e.symm
        have e3 : List.filter (· != n) [s[i]] = [s[i]] := by simp [h2]
        rw [e3]
        simp only [List.mem_append, List.mem_singleton, h3, or_false, e1, e2]
        rfl
    · rintro ⟨th, out⟩ he _
      simp only [ok_bif, ok_bind, ok_some, ok_ck, dec_iff, dec_iff', inB_iff, sumQ_inl, sumQ_inr, not_iff, not_iff']
      rw [List.take_length] at he
      exact ⟨fun h => by omega, fun _ => he⟩
  · subst hy
    simp only [ok_bif, ok_bind, ok_some, ok_ck, dec_iff, dec_iff', slOk_iff]
    have e0 : Int.toNat 0 = 0 := rfl
    unfold useL
    refine ⟨fun h => ⟨⟨⟨by omega, hm⟩, by omega⟩, by rw [e0, List.drop_zero]⟩, fun h => ?_⟩
    rw [List.take_of_length_le (by omega)]
theorem touchR_ok {s : List Int} {ways line : Int} (hn : s.Nodup) (h : s.length ≤ 1048576) (hw : 0 ≤ ways) : f11 s ways line = some (useL s ways line, !decide (line ∈ s)) := by
  unfold f11
  rw [first_ok hn h hw]
  rfl
theorem useL_nodup {s : List Int} {w x : Int} (h : s.Nodup) : (useL s w x).Nodup :=
  List.Nodup.sublist (List.take_sublist _ _) (List.nodup_cons.2 ⟨fun hm => ((List.Nodup.mem_erase_iff h).1 hm).1 rfl, h.erase x⟩)
theorem useL_len {s : List Int} {w x : Int} : (useL s w x).length ≤ w.toNat := by unfold useL; simp; omega
theorem ints_refl {a : List Int} (h : a.length ≤ 1099511627776) : f12 a a = some true := by
  apply ok_eq
  unfold f12
  simp only [ok_bif, ok_bind, ok_bindE, ok_some, ok_ck, dec_iff, dec_iff', not_iff, not_iff']
  refine ⟨fun h => absurd trivial h, fun _ => ?_⟩
  refine ok_for a (fun i (s : Unit) => i) (fun s e => ()) (fun i s => True) (s0 := ()) rfl trivial ?_ ?_
  · rintro i hi s _ _
    simp only [ok_bif, ok_bind, ok_some, ok_ck, dec_iff, dec_iff', inB_iff, sumQ_inl, sumQ_inr, not_iff, not_iff']
    rw [w64_of (by omega)]
    exact ⟨fun _ => ⟨⟨by omega, by omega⟩, ⟨by omega, by omega⟩, fun h => absurd trivial h, fun _ => ⟨rfl, trivial⟩⟩, fun h => by omega⟩
  · rintro s _ _
    simp only [ok_bif, ok_bind, ok_some, ok_ck, dec_iff, dec_iff', inB_iff, sumQ_inl, sumQ_inr, not_iff, not_iff']
    exact ⟨fun h => by omega, fun _ => trivial⟩
def sumL (l : List Int) : Int := l.foldl (fun a b => a + b) 0
theorem foldl_add (l : List Int) (a : Int) : l.foldl (fun a b => a + b) a = a + sumL l := by
  unfold sumL
  induction l generalizing a with
  | nil => simp
  | cons x l ih => simp only [List.foldl_cons]; rw [ih (a + x), ih (0 + x)]; omega
theorem sumL_cons (x : Int) (l : List Int) : sumL (x :: l) = x + sumL l := by
  show List.foldl _ _ _ = _
  rw [List.foldl_cons, foldl_add]; omega
theorem sumL_app (a b : List Int) : sumL (a ++ b) = sumL a + sumL b := by
  unfold sumL; rw [List.foldl_append, foldl_add]; rfl
theorem sum_bound {l : List Int} (h : ∀ v ∈ l, 0 ≤ v ∧ v ≤ 1048576) : 0 ≤ sumL l ∧ sumL l ≤ 1048576 * l.length := by
  induction l with
  | nil => simp [sumL]
  | cons x l ih =>
    have h1 := h x (by simp)
    have h2 := ih fun v hv => h v (by simp [hv])
    rw [sumL_cons, List.length_cons]
    omega
theorem total_ok {l : List Int} (hl : l.length ≤ 1048576) (h : ∀ v ∈ l, 0 ≤ v ∧ v ≤ 1048576) : f29 l = some (sumL l) := by
  apply ok_eq
  unfold f29
  simp only [ok_bind, ok_some]
  refine ok_for l (fun i (s : Int) => (s, i)) (fun a b => a + b) (fun i s => 0 ≤ s ∧ s ≤ 1048576 * i) (s0 := 0) rfl ⟨Int.le_refl _, by simp⟩ ?_ ?_
  · rintro i hi s ⟨k0, k1⟩ _
    have hd : l.getD (Int.toNat (i : Int)) 0 = l[i] := by rw [Int.toNat_natCast]; exact getD_at _ hi
    have hv := h _ (List.getElem_mem hi)
    simp only [ok_bif, ok_bind, ok_some, ok_ck, dec_iff, dec_iff', inB_iff, sumQ_inl, sumQ_inr, not_iff, not_iff', hd]
    rw [w64_of (by omega), w64_of (by omega)]
    exact ⟨fun _ => ⟨⟨by omega, by omega⟩, rfl, by omega, by omega⟩, fun h => by omega⟩
  · rintro s _ he
    simp only [ok_bif, ok_bind, ok_some, ok_ck, dec_iff, dec_iff', inB_iff, sumQ_inl, sumQ_inr, not_iff, not_iff']
    exact ⟨fun h => by omega, fun _ => he⟩
/-! ### Draws -/
theorem draw {n : Int} {l : List Int} {i : Int} {β : Type} {k : Int × (List Int × Int) → Option β} {Q : β → Prop} (hl : Bytes l) (hi : 0 ≤ i) (hn : 1 ≤ n ∧ n ≤ 65536)
    (h : ∀ v j, 0 ≤ v → v < n → 0 ≤ j → Ok (k (v, (l, j))) Q) : Ok (Option.bind (f9 n l i) k) Q := by
  rw [ok_bind]
  refine ok_mono (next_ok hl hi hn.2) ?_
  rintro ⟨v, l', j⟩ ⟨h1, h2, h3, h4, _⟩
  simp only at h1 h2 h3 h4
  subst h1
  exact h v j h3 (h4 hn.1) h2
def FOk (f : FetchS) : Prop := (0 ≤ f.address ∧ f.address < 80) ∧ (1 ≤ f.size ∧ f.size ≤ 10)
theorem trace_ok {n : Int} {l : List Int} {i : Int} (hl : Bytes l) (hi : 0 ≤ i) (hn : 0 ≤ n ∧ n ≤ 1000) : Ok (f13 n l i) fun y => y.1 = l ∧ 0 ≤ y.2.1 ∧ y.2.2.length ≤ n ∧ ∀ f ∈ y.2.2, FOk f := by
  unfold f13
  dsimp only
  rw [w64_of (by omega)]
  refine draw hl hi (by omega) fun v j v0 v1 j0 => ?_
  rw [ok_bind]
  refine ok_mono (Q := fun y => y.1 = l ∧ 0 ≤ y.2.1 ∧ y.2.2.length ≤ n ∧ ∀ f ∈ y.2.2, FOk f) ?_ fun y hy => ok_some.2 hy
  refine ok_loop (fun s : Int × (List Int × (Int × List FetchS)) => 0 ≤ s.1 ∧ s.1 ≤ v ∧ s.2.1 = l ∧ 0 ≤ s.2.2.1 ∧ s.2.2.2.length = v - s.1 ∧ ∀ f ∈ s.2.2.2, FOk f) (fun s => s.1.toNat) ⟨v0, Int.le_refl _, rfl, j0, by simp, fun f hf => by cases hf⟩ ?_
  rintro ⟨k, l', a, out⟩ ⟨k0, k1, k2, k3, k4, k5⟩
  simp only at k0 k1 k2 k3 k4 k5
  subst k2
  dsimp only
  rw [ok_bif]
  simp only [dec_iff, dec_iff']
  refine ⟨fun h => ?_, fun h => ?_⟩
  · refine draw hl k3 (by decide) fun v1 j1 a0 a1 a2 => ?_
    refine draw hl a2 (by decide) fun v2 j2 b0 b1 b2 => ?_
    dsimp only
    rw [w64_of (x := 1 + v2) (by omega)]
    refine draw hl b2 (by decide) fun v3 j3 c0 c1 c2 => ?_
    simp only [ok_ck, ok_some, sumQ_inl]
    rw [w64_of (x := k - 1) (by omega)]
    refine ⟨by simp; omega, ⟨by omega, by omega, trivial, c2, by simp; omega, fun f hf => ?_⟩, by omega⟩
    rcases List.mem_append.1 hf with hf | hf
    · exact k5 f hf
    · simp only [List.mem_singleton] at hf
      subst hf
      exact ⟨⟨by simp only; omega, by simp only; omega⟩, by simp only; omega, by simp only; omega⟩
  · rw [ok_some]
    exact ⟨rfl, k3, by simp only; omega, k5⟩
abbrev MT := Int × (Int × (Int × (Int × (Int × (Int × (Int × (Int × (Int × (Int × (Int × (Int × ((List Int) × Int))))))))))))
def PgOk (page res : Int) : Prop := (page = 0 ∧ res = 0) ∨ ((1 ≤ page ∧ page ≤ 64) ∧ (1 ≤ res ∧ res ≤ 5))
def MOk (l : List Int) (y : MT) : Prop := PgOk y.2.2.2.2.2.2.2.2.2.1 y.2.2.2.2.2.2.2.2.2.2.1 ∧ y.2.2.2.2.2.2.2.2.2.2.2.2.1 = l ∧ 0 ≤ y.2.2.2.2.2.2.2.2.2.2.2.2.2
theorem modelR_ok {l : List Int} {i : Int} (hl : Bytes l) (hi : 0 ≤ i) : Ok (f15 l i) (MOk l) := by
  unfold f15
  dsimp only
  refine draw hl hi (by decide) fun v1 j1 _ _ h1 => ?_
  refine draw hl h1 (by decide) fun v2 j2 _ _ h2 => ?_
  refine draw hl h2 (by decide) fun v3 j3 _ _ h3 => ?_
  refine draw hl h3 (by decide) fun v4 j4 _ _ h4 => ?_
  refine draw hl h4 (by decide) fun v5 j5 _ _ h5 => ?_
  refine draw hl h5 (by decide) fun v6 j6 _ _ h6 => ?_
  refine draw hl h6 (by decide) fun v7 j7 _ _ h7 => ?_
  dsimp only
  refine goB (fun s => s.1 = l ∧ 0 ≤ s.2.1 ∧ PgOk s.2.2.2.2.2.2.2.2.2.2.2.1 s.2.2.2.2.2.2.2.2.2.2.2.2.1) ?_ ?_
  · rw [ok_bif]
    refine ⟨fun _ => ?_, fun _ => ok_some.2 ⟨rfl, h7, .inl ⟨rfl, rfl⟩⟩⟩
    refine draw hl h7 (by decide) fun v8 j8 a0 a1 h8 => ?_
    simp only [ok_ck, inB_iff]
    refine ⟨⟨a0, a1⟩, ?_⟩
    refine draw hl h8 (by decide) fun v9 j9 b0 b1 h9 => ?_
    dsimp only
    refine draw hl h9 (by decide) fun v10 j10 c0 c1 h10 => ?_
    exact ok_some.2 ⟨rfl, h10, .inl ⟨rfl, rfl⟩⟩
  rintro ⟨l', i', y⟩ ⟨rfl, k1, k2⟩
  simp only at k1 k2
  refine draw hl k1 (by decide) fun v11 j11 _ _ h11 => ?_
  dsimp only
  refine goB (fun s => s.1 = l' ∧ 0 ≤ s.2.1 ∧ PgOk s.2.2.2.2.2.2.2.2.2.2.2.1 s.2.2.2.2.2.2.2.2.2.2.2.2.1) ?_ ?_
  · rw [ok_bif]
    refine ⟨fun _ => ?_, fun _ => ok_some.2 ⟨rfl, h11, k2⟩⟩
    refine draw hl h11 (by decide) fun v8 j8 a0 a1 h8 => ?_
    simp only [ok_ck, inB_iff]
    refine ⟨⟨a0, a1⟩, ?_⟩
    refine draw hl h8 (by decide) fun v9 j9 b0 b1 h9 => ?_
    rw [w64_of (x := 1 + v9) (by omega)]
    refine ok_some.2 ⟨rfl, h9, .inr ⟨?_, by simp only; omega, by simp only; omega⟩⟩
    have : v8 = 0 ∨ v8 = 1 ∨ v8 = 2 ∨ v8 = 3 := by omega
    dsimp only
    rcases this with rfl | rfl | rfl | rfl <;> simp
  rintro ⟨l', i', y⟩ ⟨rfl, q1, q2⟩
  simp only at q1 q2
  refine draw hl q1 (by decide) fun v11 j11 _ _ h11 => ?_
  dsimp only
  refine goB (fun s => s.1 = l' ∧ 0 ≤ s.2.1 ∧ PgOk s.2.2.2.2.2.2.2.2.2.2.2.1 s.2.2.2.2.2.2.2.2.2.2.2.2.1) ?_ ?_
  · rw [ok_bif]
    refine ⟨fun _ => ?_, fun _ => ok_some.2 ⟨rfl, h11, q2⟩⟩
    refine draw hl h11 (by decide) fun v8 j8 a0 a1 h8 => ?_
    exact ok_some.2 ⟨rfl, h8, q2⟩
  rintro ⟨l', i', y⟩ ⟨rfl, r1, r2⟩
  exact ok_some.2 ⟨r2, rfl, r1⟩
/-- a model with pages -/
def MOk1 (l : List Int) (y : MT) : Prop := ((1 ≤ y.2.2.2.2.2.2.2.2.2.1 ∧ y.2.2.2.2.2.2.2.2.2.1 ≤ 64) ∧ (1 ≤ y.2.2.2.2.2.2.2.2.2.2.1 ∧ y.2.2.2.2.2.2.2.2.2.2.1 ≤ 5)) ∧ y.2.2.2.2.2.2.2.2.2.2.2.2.1 = l ∧ 0 ≤ y.2.2.2.2.2.2.2.2.2.2.2.2.2
theorem model_ok {l : List Int} {i : Int} (hl : Bytes l) (hi : 0 ≤ i) : Ok (f14 l i) (MOk1 l) := by
  unfold f14
  refine goB _ (modelR_ok hl hi) ?_
  rintro y ⟨_, rfl, k1⟩
  dsimp only
  refine draw hl k1 (by decide) fun v j a0 a1 h1 => ?_
  simp only [ok_ck, inB_iff]
  refine ⟨⟨a0, a1⟩, ?_⟩
  refine draw hl h1 (by decide) fun v2 j2 b0 b1 h2 => ?_
  dsimp only
  rw [w64_of (x := 1 + v2) (by omega)]
  refine ok_some.2 ⟨⟨?_, ⟨by simp only; omega, by simp only; omega⟩⟩, rfl, h2⟩
  have : v = 0 ∨ v = 1 ∨ v = 2 ∨ v = 3 := by omega
  dsimp only
  rcases this with rfl | rfl | rfl | rfl <;> simp
end Go.Fg.Ytdddhnagekhihaa
