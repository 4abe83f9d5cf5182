/-
  Chapter 12, plain: what a right instruction is.
-/
import Derived.Test.YtcehajipaclnlaaDoorLb
import Derived.Laws.RangeString
namespace Go.Fg.YtcehajipaclnlaaDoor
open Go.Fw
set_option linter.unusedVariables false
set_option linter.unusedSimpArgs false

/-! ### Strings of ASCII -/
def Ascii (s : List UInt8) : Prop := ∀ x ∈ s, x.toNat < 128
theorem strN_at (s : List UInt8) (i : Nat) : strN s (i : Int) = decide (i < s.length) := by unfold strN; rw [Int.toNat_natCast]
theorem decode_at {s : List UInt8} (h : Ascii s) {i : Nat} (hi : i < s.length) : Utf8.decode ⟨s.toArray⟩ i = (s[i].toNat, 1) :=
  Go.decode_ascii ⟨s.toArray⟩ i (by simpa [ByteArray.size] using hi) (h _ (List.getElem_mem _))
theorem runeAt_at {s : List UInt8} (h : Ascii s) {i : Nat} (hi : i < s.length) : runeAt s (i : Int) = (s[i].toNat : Int) := by
  unfold runeAt; rw [Int.toNat_natCast, decode_at h hi]
theorem afterRune_at {s : List UInt8} (h : Ascii s) {i : Nat} (hi : i < s.length) : afterRune s (i : Int) = (i : Int) + 1 := by
  unfold afterRune; rw [Int.toNat_natCast, decode_at h hi]; simp
theorem ascii_row (n : Nat) : Ascii (tbl0.getD n []) := by
  have : ∀ r ∈ tbl0, ∀ x ∈ r, x.toNat < 128 := by decide
  intro x hx
  by_cases h : n < tbl0.length
  · rw [getD_at _ h] at hx
    exact this _ (List.getElem_mem _) x hx
  · rw [List.getD_eq_getElem?_getD, List.getElem?_eq_none (by omega)] at hx
    cases hx

/-! ### The check -/
theorem f20_eq (x lo hi : Int) : f20 x lo hi = some (decide (lo ≤ x) && decide (x ≤ hi)) := by
  unfold f20
  dsimp only
  cases decide (lo ≤ x) <;> rfl
theorem f24_eq (op : Int) : f24 op = some (decide (13 ≤ op) && decide (op ≤ 15)) := by
  unfold f24; rw [f20_eq]; rfl
def opL (op ar : Int) (wd : Bool) : Bool :=
  (decide (1 ≤ op) && decide (op ≤ 18)) && (!wd || (decide (13 ≤ op) && decide (op ≤ 15))) && (!(decide (op = 3)) || (decide (1 ≤ ar) && decide (ar ≤ 2))) && (!(decide (op = 4)) || (decide (3 ≤ ar) && decide (ar ≤ 11)))
theorem f16_eq (op ar d a b v : Int) (wd : Bool) (args : List Int) : f16 op ar d a b v wd args = some (opL op ar wd) := by
  unfold f16 opL
  simp only [f20_eq, f24_eq]
  by_cases h3 : op = 3
  · subst h3; cases wd <;> simp
  · by_cases h4 : op = 4
    · subst h4; cases wd <;> simp
    · simp only [h3, h4, decide_false]
      cases decide (1 ≤ op) <;> cases decide (op ≤ 18) <;> cases wd <;> cases decide (13 ≤ op) <;> cases decide (op ≤ 15) <;> rfl
/-- the slots a letter names -/
def slotL (d a b : Int) (args : List Int) (x : UInt8) : List Int :=
  if x.toNat = 100 then [d] else if x.toNat = 97 then [a] else if x.toNat = 98 then [b] else if x.toNat = 110 then args else []
def rowOf (op : Int) : List UInt8 := tbl0.getD op.toNat []
def slotsL (op d a b : Int) (args : List Int) : List Int := (rowOf op).flatMap (slotL d a b args)
theorem rowOf_len (op : Int) : (rowOf op).length ≤ 4 := by
  have : ∀ r ∈ tbl0, r.length ≤ 4 := by decide
  unfold rowOf
  by_cases h : op.toNat < tbl0.length
  · rw [getD_at _ h]; exact this _ (List.getElem_mem _)
  · rw [List.getD_eq_getElem?_getD, List.getElem?_eq_none (by omega)]; simp
theorem slotL_len (d a b : Int) (args : List Int) (x : UInt8) : (slotL d a b args x).length ≤ args.length + 1 := by
  unfold slotL
  repeat' split
  all_goals simp
theorem flatMap_len {α β : Type} {f : α → List β} {k : Nat} (h : ∀ x, (f x).length ≤ k) : ∀ l : List α, (l.flatMap f).length ≤ l.length * k
  | [] => by simp
  | x :: l => by
    have := h x
    have := flatMap_len h l
    rw [List.flatMap_cons, List.length_append, List.length_cons, Nat.add_mul]; omega
theorem foldl_flat {α β : Type} (f : α → List β) (l : List α) (acc : List β) : l.foldl (fun a x => a ++ f x) acc = acc ++ l.flatMap f := by
  induction l generalizing acc with
  | nil => simp
  | cons x l ih => rw [List.foldl_cons, ih, List.flatMap_cons, List.append_assoc]
theorem f17_eq {op : Int} (ar d a b v : Int) (wd : Bool) (args : List Int) (h : 1 ≤ op ∧ op ≤ 18) (hl : args.length ≤ 1000) : f17 op ar d a b v wd args = some (slotsL op d a b args) := by
  apply ok_eq
  unfold f17
  dsimp only
  refine goC (inB_iff.2 ⟨by omega, by omega⟩) (goB (fun y => y = slotsL op d a b args) ?_ fun y hy => goR hy)
  have hA : Ascii (rowOf op) := ascii_row op.toNat
  refine ok_for (rowOf op) (fun i s => (s, (rowOf op, i))) (fun s x => s ++ slotL d a b args x) (fun i s => s.length ≤ i * 2000) rfl (by simp) ?_ ?_
  · intro i hi s hs _
    dsimp only
    have hi4 := rowOf_len op
    have hsl : s.length ≤ 8000 := by omega
    have hsl' : (s ++ slotL d a b args (rowOf op)[i]).length ≤ (i + 1) * 2000 := by
      have := slotL_len d a b args (rowOf op)[i]
      rw [List.length_append]; omega
    rw [strN_at, runeAt_at hA hi, afterRune_at hA hi]
    refine goT (by simpa using hi) (goB (fun y => y = s ++ slotL d a b args (rowOf op)[i]) ?_ fun y hy => goR (by subst hy; exact ⟨rfl, hsl'⟩))
    have key : ∀ n : Nat, (decide (((rowOf op)[i].toNat : Int) = (n : Int))) = decide ((rowOf op)[i].toNat = n) := fun n => decide_eq_decide.2 Int.ofNat_inj
    have k1 := key 100
    have k2 := key 97
    have k3 := key 98
    have k4 := key 110
    simp only [Int.cast_ofNat_Int] at k1 k2 k3 k4
    unfold slotL
    rw [k1, k2, k3, k4]
    refine goI (fun h => ?_) fun h => ?_
    · rw [if_pos (by simpa using h)]
      exact goC (by simp; omega) (goR rfl)
    rw [if_neg (by simpa using h)]
    refine goB _ (goI (fun h => ?_) fun h => ?_) fun y hy => goR hy
    · rw [if_pos (by simpa using h)]
      exact goC (by simp; omega) (goR rfl)
    rw [if_neg (by simpa using h)]
    refine goB _ (goI (fun h => ?_) fun h => ?_) fun y hy => goR hy
    · rw [if_pos (by simpa using h)]
      exact goC (by simp; omega) (goR rfl)
    rw [if_neg (by simpa using h)]
    refine goB _ (goI (fun h => ?_) fun h => ?_) fun y hy => goR hy
    · rw [if_pos (by simpa using h)]
      exact goC (by simp; omega) (goR rfl)
    rw [if_neg (by simpa using h)]
    exact goR (by simp)
  · intro s hs he
    dsimp only
    rw [strN_at]
    refine goF (by simp) (goR ?_)
    show s = _
    rw [he, foldl_flat]; rfl
theorem f27_eq {l : List Int} (h : l.length ≤ 1099511627776) : Ok (f27 l) fun y => (0 ≤ y ↔ ∃ x ∈ l, ¬ (0 ≤ x ∧ x ≤ 249)) := by
  unfold f27
  dsimp only
  refine goE (fun _ => ∀ x ∈ l, 0 ≤ x ∧ x ≤ 249) ?_ fun _ h => goR ⟨fun h => by omega, fun ⟨x, hx, hn⟩ => absurd (h x hx) hn⟩
  refine ok_for l (fun i _ => i) (fun s _ => s) (fun i (_ : Unit) => ∀ x ∈ l.take i, 0 ≤ x ∧ x ≤ 249) (s0 := ()) rfl (by simp) ?_ ?_
  · intro i hi s hs _
    refine goT (by simpa using hi) (goC (inB_iff.2 (by omega)) ?_)
    unfold f19
    rw [f20_eq, Int.toNat_natCast, getD_at _ hi]
    refine goI (fun h => goR ?_) fun h => goR ?_
    · refine ⟨fun _ => ⟨l[i], List.getElem_mem _, fun hh => by simp at h; omega⟩, fun _ => by omega⟩
    · rw [w64_of (by omega)]
      refine ⟨rfl, ?_⟩
      rw [take_snoc hi]
      intro x hx
      rcases List.mem_append.1 hx with hx | hx
      · exact hs x hx
      · rw [List.mem_singleton] at hx; subst hx; simpa using h
  · intro s hs _
    rw [List.take_length] at hs
    exact goF (by simp) (goR hs)
def inSlot (x : Int) : Bool := decide (0 ≤ x) && decide (x ≤ 249)
theorem f18_eq {l : List Int} (h : l.length ≤ 1099511627776) : f18 l = some (!(l.all inSlot)) := by
  apply ok_eq
  unfold f18
  refine goB _ (f27_eq h) fun y hy => goR ?_
  show decide (0 ≤ y) = _
  rw [Bool.eq_iff_iff]
  simp only [decide_eq_true_eq, hy, Bool.not_eq_true', List.all_eq_false, inSlot, Bool.and_eq_true]
def valL (op v : Int) (wd : Bool) : Bool :=
  if 5 ≤ op ∧ op ≤ 8 then decide (0 ≤ v) && decide (v ≤ 31) else if op = 11 then decide (0 ≤ v) && decide (v ≤ 1048576) else if op = 17 then decide (0 ≤ v) && decide (v ≤ 4095)
  else if op = 18 then decide (0 ≤ v) && decide (v ≤ 63) else if 13 ≤ op ∧ op ≤ 15 then (if wd then decide (-2147483648 ≤ v) && decide (v ≤ 2147483647) else decide (-128 ≤ v) && decide (v ≤ 127)) else true
theorem f21_eq (op ar d a b v : Int) (wd : Bool) (args : List Int) : f21 op ar d a b v wd args = some (valL op v wd) := by
  by_cases h : 1 ≤ op ∧ op ≤ 18
  · have : op = 1 ∨ op = 2 ∨ op = 3 ∨ op = 4 ∨ op = 5 ∨ op = 6 ∨ op = 7 ∨ op = 8 ∨ op = 9 ∨ op = 10 ∨ op = 11 ∨ op = 12 ∨ op = 13 ∨ op = 14 ∨ op = 15 ∨ op = 16 ∨ op = 17 ∨ op = 18 := by omega
    unfold f21 valL
    rcases this with rfl | rfl | rfl | rfl | rfl | rfl | rfl | rfl | rfl | rfl | rfl | rfl | rfl | rfl | rfl | rfl | rfl | rfl <;> (cases wd <;> simp [f20_eq, bindE])
  · have e : ∀ n : Int, 1 ≤ n → n ≤ 18 → decide (op = n) = false := by intro n h1 h2; simp; omega
    unfold f21 valL
    rw [e 5, e 6, e 7, e 8, e 11, e 17, e 18, e 13, e 14, e 15, if_neg (by omega), if_neg (by omega), if_neg (by omega), if_neg (by omega), if_neg (by omega)] <;> first | rfl | omega
def isN (op : Int) : Bool := op == 11 || op == 12
def chk (op ar d a b v : Int) (wd : Bool) (args : List Int) : Int :=
  if opL op ar wd = true then (if ((slotsL op d a b args).all inSlot && (decide (args.length ≤ 250) || !isN op)) = true then (if valL op v wd = true then 0 else 1) else 14) else 17
theorem opL_in {op ar : Int} {wd : Bool} (h : opL op ar wd = true) : 1 ≤ op ∧ op ≤ 18 := by
  simp only [opL, Bool.and_eq_true, decide_eq_true_eq] at h; exact h.1.1.1
theorem f9_eq (op ar d a b v : Int) (wd : Bool) (args : List Int) (hl : args.length ≤ 1000) : f9 op ar d a b v wd args = some (chk op ar d a b v wd args) := by
  unfold f9 chk
  rw [f16_eq]
  dsimp only [Option.bind]
  by_cases h : opL op ar wd = true
  · have hop := opL_in h
    have hsl : (slotsL op d a b args).length ≤ 10000 := by
      have := flatMap_len (slotL_len d a b args) (rowOf op)
      have h4 := rowOf_len op
      have : (rowOf op).length * (args.length + 1) ≤ 4 * (args.length + 1) := Nat.mul_le_mul_right _ h4
      unfold slotsL; omega
    rw [h, f17_eq ar d a b v wd args hop hl]
    dsimp only [Bool.not_true, cond_false, if_true]
    rw [f18_eq (by omega), f21_eq]
    have e : (decide ((250 : Int) < (args.length : Int))) = !(decide (args.length ≤ 250)) := by
      rw [Bool.eq_iff_iff]; simp; omega
    have : op = 1 ∨ op = 2 ∨ op = 3 ∨ op = 4 ∨ op = 5 ∨ op = 6 ∨ op = 7 ∨ op = 8 ∨ op = 9 ∨ op = 10 ∨ op = 11 ∨ op = 12 ∨ op = 13 ∨ op = 14 ∨ op = 15 ∨ op = 16 ∨ op = 17 ∨ op = 18 := by omega
    dsimp only [Option.bind]
    rw [e]
    cases (slotsL op d a b args).all inSlot
    · simp
    · cases decide (args.length ≤ 250)
      · simp only [Bool.not_true, Bool.not_false, cond_false, cond_true, Bool.true_and, Bool.false_or]
        rcases this with rfl | rfl | rfl | rfl | rfl | rfl | rfl | rfl | rfl | rfl | rfl | rfl | rfl | rfl | rfl | rfl | rfl | rfl <;> (cases valL _ v wd <;> rfl)
      · simp only [Bool.not_true, Bool.not_false, cond_false, cond_true, Bool.true_and, Bool.true_or]
        cases valL op v wd <;> rfl
  · rw [if_neg h, eq_false_of_ne_true h]; rfl
end Go.Fg.YtcehajipaclnlaaDoor
