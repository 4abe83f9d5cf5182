/-
  Chapter 2, plain: distinct elements; draws; the two laws.
-/
import Derived.Test.YtjkkbncbgpfliaaLf
namespace Go.Fg.Ytjkkbncbgpfliaa
open Go.Fw
open Go.Proofs.Ytjkkbncbgpfliaa.Fp
set_option linter.unusedVariables false
set_option linter.unusedSimpArgs false

/-! ### Distinct elements -/
def ostep (o : List Int) (x : Int) : List Int := if x ∈ o then o else o ++ [x]
def onceL (l : List Int) : List Int := l.foldl ostep []
theorem once_snoc (t : List Int) (x : Int) : onceL (t ++ [x]) = ostep (onceL t) x := by simp [onceL]
theorem once_mem (l : List Int) : ∀ x, x ∈ onceL l ↔ x ∈ l := by
  refine snoc_ind (P := fun l => ∀ x, x ∈ onceL l ↔ x ∈ l) (by simp [onceL]) (fun t y ih x => ?_) l
  rw [once_snoc, ostep, List.mem_append, List.mem_singleton]
  split
  · rename_i h
    rw [ih]
    constructor
    · exact .inl
    · rintro (h' | h')
      · exact h'
      · subst h'; exact (ih x).1 h
  · rw [List.mem_append, List.mem_singleton, ih]
theorem once_nodup (l : List Int) : (onceL l).Nodup := by
  refine snoc_ind (P := fun l => (onceL l).Nodup) (by simp [onceL]) (fun t y ih => ?_) l
  rw [once_snoc, ostep]
  split
  · exact ih
  · rename_i h
    rw [List.nodup_append]
    refine ⟨ih, by simp, fun a ha b hb e => ?_⟩
    rw [List.mem_singleton] at hb
    subst hb; subst e; exact h ha
theorem once_len (l : List Int) : (onceL l).length ≤ l.length := by
  refine snoc_ind (P := fun l => (onceL l).length ≤ l.length) (by simp [onceL]) (fun t y ih => ?_) l
  rw [once_snoc, ostep]
  split
  · simp; omega
  · simp; omega
def distL (l : List Int) : Int := setL (onceL l)
theorem dist_same {l m : List Int} (h : ∀ x, x ∈ l ↔ x ∈ m) : distL l = distL m :=
  set_perm ((List.perm_ext_iff_of_nodup (once_nodup l) (once_nodup m)).2 fun x => by rw [once_mem, once_mem]; exact h x)
theorem dist_eq {l : List Int} (hl : l.length ≤ 1000000) : f12 l = some (distL l) := by
  unfold f12
  have hs : (l.mergeSort fun x y => decide (x ≤ y)).Perm l := List.mergeSort_perm _ _
  have hlen : (l.mergeSort fun x y => decide (x ≤ y)).length ≤ 1000000 := by rw [hs.length_eq]; exact hl
  have hc := cpt_len (l.mergeSort fun x y => decide (x ≤ y))
  rw [clone_eq hl, Option.bind_some, sort_eq hl, Option.bind_some, compact_eq hlen, Option.bind_some, set_eq (by omega), Option.bind_some]
  refine congrArg some (set_perm (l := cpt (l.mergeSort fun x y => decide (x ≤ y))) (m := onceL l) ((List.perm_ext_iff_of_nodup ?_ (once_nodup l)).2 fun x => ?_))
  · refine List.Pairwise.imp (fun h => ?_) (cpt_sorted (l := l.mergeSort fun x y => decide (x ≤ y)) ?_)
    · exact Int.ne_of_lt h
    · refine List.Pairwise.imp (fun h => of_decide_eq_true h) (List.pairwise_mergeSort (le := fun x y : Int => decide (x ≤ y)) (fun a b c h1 h2 => ?_) (fun a b => ?_) l)
      · simp only [decide_eq_true_eq] at h1 h2 ⊢; omega
      · simp only [Bool.or_eq_true, decide_eq_true_eq]; omega
  · rw [cpt_mem, once_mem]
    exact hs.mem_iff
theorem any_fold (x : Int) : ∀ (o : List Int) (b : Bool), o.foldl (fun b y => b || decide (y = x)) b = (b || decide (x ∈ o))
  | [], b => by simp
  | y :: o, b => by
    rw [List.foldl_cons, any_fold x o]
    by_cases h : y = x
    · subst h; simp
    · have : ¬ x = y := fun e => h e.symm
      simp [h, this]
theorem dist_eq' {l : List Int} (hl : l.length ≤ 1000000) : f22 l = some (distL l) := by
  apply ok_eq
  unfold f22
  simp only [nn]
  rw [ok_bind]
  refine ok_mono (Q := fun y => y = onceL l) ?_ fun y hy => ?_
  rotate_left
  · subst hy
    have := once_len l
    rw [set_eq' (by omega)]
    exact ok_some.2 rfl
  refine ok_for l (fun i s => (i, s)) ostep (fun i s => s.length ≤ i) (s0 := []) rfl (Nat.le_refl _) (fun i h s hI _ => ?_) (fun s _ hs => ?_)
  rotate_left
  · simp only [ok_bif, ok_some, dec_iff, dec_iff', sumQ_inl, sumQ_inr]
    exact ⟨fun h => absurd h (Int.lt_irrefl _), fun _ => hs⟩
  rw [ok_bif, dec_iff, dec_iff']
  refine ⟨fun _ => ?_, fun h => by simp only at h; omega⟩
  simp only [Int.toNat_natCast]
  rw [ck_true (inB_true h)]
  obtain ⟨x, hgx⟩ : ∃ x, x = l.getD i 0 := ⟨_, rfl⟩
  rw [show l[i] = x from by rw [hgx, getD_at 0 h], ok_bind]
  refine ok_mono (Q := fun y => y = decide (x ∈ s)) ?_ fun y hy => ?_
  · refine ok_for s (fun k b => (b, k)) (fun b y => b || decide (y = x)) (fun _ _ => True) (s0 := false) rfl trivial (fun k hk b _ _ => ?_) (fun b _ hb => ?_)
    rotate_left
    · simp only [ok_bif, ok_some, dec_iff, dec_iff', sumQ_inl, sumQ_inr]
      exact ⟨fun h => absurd h (Int.lt_irrefl _), fun _ => by rw [hb, any_fold]; simp⟩
    · rw [ok_bif, dec_iff, dec_iff']
      refine ⟨fun _ => ?_, fun h => by simp only at h; omega⟩
      simp only [Int.toNat_natCast]
      rw [ck_true (inB_true hk), w64_of (by omega)]
      cases b with
      | true => exact ⟨Sum.inl (true, (k : Int) + 1), rfl, And.intro rfl trivial⟩
      | false =>
        simp only [cond_false]
        rw [ck_true (inB_true h)]
        refine ⟨Sum.inl (decide (s.getD k 0 = l.getD i 0), (k : Int) + 1), rfl, And.intro ?_ trivial⟩
        have e : s.getD k 0 = s[k] := getD_at 0 hk
        simp only [Bool.false_or, e, hgx]
  · subst hy
    rw [← hgx]
    have e : (true && decide ((s.length + [x].length) * 8 ≤ 140737488355328)) = true := by simp; omega
    rw [e, w64_of (by omega)]
    unfold ostep
    by_cases hm : x ∈ s
    · rw [if_pos hm, decide_eq_true hm]
      exact ok_some.2 ⟨rfl, by omega⟩
    · rw [if_neg hm, decide_eq_false hm]
      exact ok_some.2 ⟨rfl, by simp; omega⟩

/-! ### Draws -/
def Bytes (l : List Int) : Prop := l.length ≤ 9223372036854775807 ∧ ∀ x ∈ l, 0 ≤ x ∧ x ≤ 255

theorem bytes_at {l : List Int} (h : Bytes l) {n : Int} (h0 : 0 ≤ n) (h1 : n < l.length) : 0 ≤ l.getD n.toNat 0 ∧ l.getD n.toNat 0 ≤ 255 := by
  rw [getD_at 0 (by omega)]
  exact h.2 _ (List.getElem_mem _)

/-- what a draw of n gives -/
def Drawn (n : Int) (l : List Int) (y : Int × (List Int × Int)) : Prop := y.2.1 = l ∧ 0 ≤ y.2.2 ∧ 0 ≤ y.1 ∧ (1 ≤ n → y.1 < n) ∧ (n ≤ 1 → y.1 = 0)
theorem next_step {rec : Int → List Int → Int → Option (Int × (List Int × Int))} {n : Int} {l : List Int} {i : Int} (hl : Bytes l) (hi : 0 ≤ i) (hn : n ≤ 65536)
    (hrec : 256 < n → ∀ j, 0 ≤ j → Ok (rec 256 l j) (Drawn 256 l)) : Ok (f10S rec n l i) (Drawn n l) := by
  unfold f10S
  simp only [ok_bind, ok_bif, ok_some, ok_ck, dec_iff, dec_iff', inB_iff, not_iff]
  have tail : (n ≥ 1) → i < l.length → (0 ≤ i ∧ i < (l.length : Int)) ∧ (256 < n → Ok (rec 256 l (w64 (i + 1))) fun y => ¬ n = 0 ∧ Drawn n l (Int.tmod (w64 (w64 (256 * w64 (l.getD i.toNat 0)) + y.1)) n, y.2.1, y.2.2)) ∧ (¬ 256 < n → ¬ n = 0 ∧ Drawn n l (Int.tmod (w64 (l.getD i.toNat 0)) n, l, w64 (i + 1))) := by
    intro h1 h2
    have hb := bytes_at hl hi h2
    have hl' := hl.1
    rw [w64_of (x := i + 1) (by omega), w64_of (x := l.getD i.toNat 0) (by omega), w64_of (x := 256 * l.getD i.toNat 0) (by omega)]
    refine ⟨⟨hi, h2⟩, fun h3 => ok_mono (hrec h3 (i + 1) (by omega)) fun y hy => ?_, fun h3 => ⟨by omega, ?_⟩⟩
    · obtain ⟨q1, q2, q3, q4, q5⟩ := hy
      have q4 := q4 (by omega)
      rw [w64_of (by omega)]
      refine ⟨by omega, q1, q2, ?_⟩
      have := tmod_lt (a := 256 * l.getD i.toNat 0 + y.1) (b := n) (by omega) (by omega)
      exact ⟨this.1, fun _ => this.2, fun _ => by omega⟩
    · have := tmod_lt (a := l.getD i.toNat 0) (b := n) hb.1 (by omega)
      refine ⟨rfl, by simp; omega, this.1, fun _ => this.2, fun _ => ?_⟩
      have e : n = 1 := by omega
      subst e
      have := this.2
      have := this
      simp only
      omega
  refine ⟨fun h => ⟨fun _ => ⟨rfl, hi, Int.le_refl _, fun h => by simp only; omega, fun _ => rfl⟩, fun h0 => by cases h0⟩, fun h => ⟨fun h1 => ⟨rfl, hi, Int.le_refl _, fun h => by simp only; omega, fun _ => rfl⟩, fun h1 => ?_⟩⟩
  exact tail (by omega) (by omega)
theorem f10N_succ (k : Nat) : f10N (k + 1) = f10S (f10N k) := rfl
theorem next_ok {n : Int} {l : List Int} {i : Int} (hl : Bytes l) (hi : 0 ≤ i) (hn : n ≤ 65536) : Ok (f10 n l i) (Drawn n l) := by
  have e : f10 n l i = f10N (1048574 + 2) n l i := rfl
  rw [e, f10N_succ]
  refine next_step hl hi hn fun _ j hj => ?_
  rw [f10N_succ]
  exact next_step hl hj (by omega) fun h => absurd h (by omega)
theorem new_ok {l : List Int} {n : Int} (hl : Bytes l) (hn : 0 ≤ n) : Ok (f9 l n) fun y => y.2 = 0 ∧ Bytes y.1 := by
  unfold f9
  simp only [ok_bind, ok_bif, ok_some, ok_ck, dec_iff, dec_iff', slOk_iff]
  refine ⟨fun h => ⟨⟨⟨by omega, hn⟩, by omega⟩, trivial, ?_⟩, fun h => ⟨trivial, hl⟩⟩
  simp only [Int.toNat_zero, List.drop_zero]
  exact ⟨by have := hl.1; simp; omega, fun x hx => hl.2 x (List.mem_of_mem_take hx)⟩


/-! ### The laws -/
theorem fold_ne (t : List Int) : ∀ a b : Int, (0 ≤ a ∧ a < 18446744073709551616) → (0 ≤ b ∧ b < 18446744073709551616) → a ≠ b → t.foldl joinI a ≠ t.foldl joinI b := by
  induction t with
  | nil => intro a b _ _ h; exact h
  | cons x t ih =>
    intro a b ha hb h
    have hr : ∀ c : Int, 0 ≤ joinI c x ∧ joinI c x < 18446744073709551616 := fun c => scrI_range _ (wrap_range _).1 (wrap_range _).2
    exact ih _ _ (hr a) (hr b) fun e => h (joinI_inj_left a b x ha.1 ha.2 hb.1 hb.2 e)
theorem list_ne {l : List Int} {k : Nat} {x : Int} (hk : k < l.length) (hl : ∀ y ∈ l, 0 ≤ y ∧ y < 18446744073709551616) (hx : 0 ≤ x ∧ x < 18446744073709551616) (hne : l[k] ≠ x) : listL l ≠ listL (l.set k x) := by
  unfold listL
  rw [List.length_set]
  have e1 : l = l.take k ++ l[k] :: l.drop (k + 1) := by
    conv => lhs; rw [← List.take_append_drop k l, List.drop_eq_getElem_cons hk]
  have e2 : l.set k x = l.take k ++ x :: l.drop (k + 1) := by rw [List.set_eq_take_append_cons_drop, if_pos hk]
  have r0 : 0 ≤ Go.IntKind.wrap .u64 (l.length : Int) ∧ Go.IntKind.wrap .u64 (l.length : Int) < 18446744073709551616 := wrap_range _
  generalize Go.IntKind.wrap .u64 (l.length : Int) = h0 at r0 ⊢
  rw [e2]
  conv => lhs; rw [e1]
  rw [List.foldl_append, List.foldl_append, List.foldl_cons, List.foldl_cons]
  have hr : ∀ (t : List Int) (c : Int), (0 ≤ c ∧ c < 18446744073709551616) → 0 ≤ t.foldl joinI c ∧ t.foldl joinI c < 18446744073709551616 := by
    intro t
    induction t with
    | nil => intro c hc; exact hc
    | cons y t ih => intro c _; exact ih _ (scrI_range _ (wrap_range _).1 (wrap_range _).2)
  have hg := hr (l.take k) h0 r0
  have hj : ∀ c y : Int, 0 ≤ joinI c y ∧ joinI c y < 18446744073709551616 := fun c y => scrI_range _ (wrap_range _).1 (wrap_range _).2
  have hlk := hl _ (List.getElem_mem hk)
  exact fold_ne _ _ _ (hj _ _) (hj _ _) fun e => hne (joinI_inj_right l[k] x _ hlk.1 hlk.2 hx.1 hx.2 e)

theorem order_ok {p0 : List Int} {x : Int} (hb : Bytes p0) (hx : 0 ≤ x ∧ x < 18446744073709551616) : f4 p0 x = some true := by
  apply ok_eq
  unfold f4
  refine goS awake_eq (goF rfl ?_)
  refine goB _ (new_ok hb (by decide)) fun c2 ⟨h2, hb2⟩ => ?_
  refine goB _ (next_ok hb2 (by omega) (by decide)) fun c3 ⟨d1, d2, d3, d4, d5⟩ => ?_
  have d4 := d4 (by decide)
  refine goB (fun y => Bytes y.1 ∧ 0 ≤ y.2.1 ∧ y.2.2.length ≤ 12 ∧ ∀ z ∈ y.2.2, 0 ≤ z ∧ z < 18446744073709551616) ?_ fun s11 ⟨e1, e2, e3, e4⟩ => ?_
  · refine ok_loop (fun s : Int × List Int × Int × List Int => 0 ≤ s.1 ∧ Bytes s.2.1 ∧ 0 ≤ s.2.2.1 ∧ s.1 + s.2.2.2.length ≤ 12 ∧ ∀ z ∈ s.2.2.2, 0 ≤ z ∧ z < 18446744073709551616) (fun s => s.1.toNat)
      ⟨d3, by rw [d1]; exact hb2, d2, by simp; omega, by simp⟩ fun s ⟨g1, g2, g3, g4, g5⟩ => ?_
    obtain ⟨k, cs, p, l⟩ := s
    simp only at g1 g2 g3 g4 g5
    simp only
    rw [ok_bif, dec_iff, dec_iff']
    refine ⟨fun hk => ?_, fun hk => ok_some.2 ⟨g2, g3, by simp only; omega, g5⟩⟩
    refine goB _ (next_ok g2 g3 (by decide)) fun c6 ⟨k1, k2, k3, k4, k5⟩ => ?_
    refine goC (by simp; omega) (goR ⟨⟨by rw [w64_of (by omega)]; simp only; omega, by simp only; rw [k1]; exact g2, k2, by rw [w64_of (by omega)]; simp; omega, fun z hz => ?_⟩, by rw [w64_of (by omega)]; simp only; omega⟩)
    rcases List.mem_append.1 hz with hz | hz
    · exact g5 z hz
    · rw [List.mem_singleton] at hz; rw [hz]; exact wrap_range _
  obtain ⟨cs1, p1, l⟩ := s11
  simp only at e1 e2 e3 e4
  simp only
  refine goB (fun y => Bytes y.1 ∧ 0 ≤ y.2.1 ∧ y.2.2.Perm l) ?_ fun s23 ⟨q1, q2, q3⟩ => ?_
  · refine ok_loop (fun s : Int × List Int × Int × List Int => 0 ≤ s.1 ∧ s.1 ≤ l.length ∧ Bytes s.2.1 ∧ 0 ≤ s.2.2.1 ∧ s.2.2.2.Perm (l.take s.1.toNat)) (fun s => l.length - s.1.toNat)
      ⟨by simp, by simp, e1, e2, by simp⟩ fun s ⟨g1, g2, g3, g4, g5⟩ => ?_
    obtain ⟨i, cs, p, t⟩ := s
    simp only at g1 g2 g3 g4 g5
    simp only
    obtain ⟨i, rfl⟩ : ∃ n : Nat, i = n := ⟨i.toNat, by omega⟩
    rw [Int.toNat_natCast] at g5
    rw [ok_bif, dec_iff, dec_iff']
    refine ⟨fun hi => ?_, fun hi => ok_some.2 ⟨g3, g4, ?_⟩⟩
    rotate_left
    · have : i = l.length := by omega
      rw [this, List.take_length] at g5; exact g5
    have htl : t.length = i := by rw [g5.length_eq]; simp; omega
    rw [w64_of (x := (t.length : Int) + 1) (by omega)]
    refine goB _ (next_ok g3 g4 (by omega)) fun c17 ⟨k1, k2, k3, k4, k5⟩ => ?_
    have k4 := k4 (by omega)
    obtain ⟨c, cc⟩ := c17
    simp only at k1 k2 k3 k4
    obtain ⟨c, rfl⟩ : ∃ n : Nat, c = n := ⟨c.toNat, by omega⟩
    simp only [Int.toNat_natCast, List.take_length]
    rw [getD_at 0 (by omega : i < l.length)]
    refine goC (slOk_iff.2 (by omega)) (goC (inB_true (by omega)) (goC (slOk_iff.2 (by omega)) (goC (by simp; omega) (goC (by simp; omega) (goR ⟨⟨by rw [w64_of (by omega)]; simp only; omega, by rw [w64_of (by omega)]; simp only; omega, by simp only; rw [k1]; exact g3, k2, ?_⟩, by rw [w64_of (by omega)]; simp only; omega⟩)))))
    simp only
    rw [w64_of (by omega), show ((i : Int) + 1).toNat = i + 1 from by omega, take_snoc (by omega)]
    refine (List.perm_middle (a := l[i]) (l₁ := t.take c) (l₂ := t.drop c)).trans ?_
    rw [List.take_append_drop]
    exact (List.Perm.cons _ g5).trans (List.perm_append_singleton _ _).symm
  obtain ⟨cs2, p2, t⟩ := s23
  simp only at q1 q2 q3
  simp only
  have htl : t.length = l.length := q3.length_eq
  have e11 : f11 t = some (setL l) := by rw [set_eq (by omega), set_perm q3]
  have e12 : f12 (t ++ l) = some (distL l) := by
    rw [dist_eq (by simp; omega), dist_same (l := t ++ l) (m := l) fun z => by rw [List.mem_append, q3.mem_iff]; simp]
  refine goB (fun y => y = false) ?_ fun s32 h32 => ?_
  · refine goS (set_eq (by omega)) (goS e11 (goF (by simp) (goS (dist_eq (by omega)) (goC (by simp; omega) (goS e12 (goR ?_))))))
    simp
  subst h32
  refine goF rfl ?_
  refine goI (fun h0 => ?_) (fun h0 => ?_)
  · have : l = [] := List.eq_nil_of_length_eq_zero (by simp only [dec_iff] at h0; omega)
    subst this
    exact goS (list_eq (by simp)) (goR rfl)
  · simp only [dec_iff'] at h0
    refine goB _ (next_ok q1 q2 (by omega)) fun c38 ⟨k1, k2, k3, k4, k5⟩ => ?_
    have k4 := k4 (by omega)
    obtain ⟨c, cc⟩ := c38
    simp only at k1 k2 k3 k4
    obtain ⟨c, rfl⟩ : ∃ n : Nat, c = n := ⟨c.toNat, by omega⟩
    have hc : c < l.length := by omega
    refine goC (by simp; omega) (goC (inB_true (by simp; omega)) (goS (list_eq (by omega)) (goS (y := listL (l.set c x)) ?_ (goC (inB_true hc) (goR ?_)))))
    · simp only [Int.toNat_natCast, List.nil_append]
      exact list_eq (by simp; omega)
    have hgc : l.getD c 0 = l[c] := getD_at 0 hc
    simp only [Int.toNat_natCast]
    refine beq_iff_eq.2 (decide_eq_decide.2 ⟨fun h => ?_, fun h => ?_⟩)
    · exact Decidable.byContradiction fun hne => list_ne hc e4 hx (by rw [← hgc]; exact hne) h
    · have : l.set c x = l := by rw [← h, hgc]; exact List.set_getElem_self hc
      rw [this]

theorem exact_ok {x y : Int} {b : List Int} {s : List UInt8} {l : List Int} : f5 x y b s l = some true := by
  apply ok_eq
  unfold f5
  refine goB (fun z => (z = false → b.length ≤ 3000 ∧ s.length ≤ 3000 ∧ l.length ≤ 300) ∧ (z = true → ¬ (b.length ≤ 3000 ∧ s.length ≤ 3000 ∧ l.length ≤ 300))) ?_ fun s11 ⟨h11, h12⟩ => ?_
  · refine goS awake_eq (goF rfl (goI (fun h => goR ⟨fun e => (by cases e), fun _ => ?_⟩) fun h1 => goI (fun h => goR ⟨fun e => (by cases e), fun _ => ?_⟩) fun h2 => goR ⟨fun h3 => ?_, fun h3 => ?_⟩))
    · simp only [dec_iff] at h; omega
    · simp only [dec_iff] at h; omega
    · simp only [dec_iff'] at h1 h2 h3; omega
    · simp only [dec_iff, dec_iff'] at h1 h2 h3; omega
  refine goI (fun h => ?_) (fun h => ?_)
  · have hn := h12 h
    refine goB (fun z => z = true) ?_ fun z hz => goR hz
    refine goI (fun _ => goR rfl) fun h1 => goI (fun _ => goR rfl) fun h2 => goR (decide_eq_true ?_)
    simp only [dec_iff'] at h1 h2
    omega
  · obtain ⟨h1, h2, h3⟩ := h11 h
    refine goB (fun z => z = true) ?_ fun z hz => goR hz
    exact goS (scr_eq x) (goS (scr_eq' x) (goT (decide_eq_true rfl) (goS (join_eq x y) (goS (join_eq' x y) (goT (decide_eq_true rfl) (goS (bytes_eq (by omega)) (goS (bytes_eq' (by omega)) (goT (decide_eq_true rfl)
      (goS (text_eq (by omega)) (goS (text_eq' (by omega)) (goT (decide_eq_true rfl) (goS (list_eq (by omega)) (goS (list_eq' (by omega)) (goT (decide_eq_true rfl)
      (goS (set_eq (by omega)) (goS (set_eq' (by omega)) (goT (decide_eq_true rfl) (goS (dist_eq (by omega)) (goS (dist_eq' (by omega)) (goR (decide_eq_true rfl)))))))))))))))))))))
end Go.Fg.Ytjkkbncbgpfliaa
