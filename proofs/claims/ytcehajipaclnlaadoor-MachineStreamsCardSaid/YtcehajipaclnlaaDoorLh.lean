/-
  Chapter 12, plain: decoding; the laws.
-/
import Derived.Test.YtcehajipaclnlaaDoorLg
namespace Go.Fg.YtcehajipaclnlaaDoor
open Go.Fw
set_option linter.unusedVariables false
set_option linter.unusedSimpArgs false

theorem opB_eq {op : Int} (h : 1 ≤ op ∧ op ≤ 18) (wd : Bool) : Int.tmod (opB op wd) 128 = op ∧ decide (128 ≤ opB op wd) = wd ∧ 0 ≤ opB op wd ∧ opB op wd ≤ 255 := by
  unfold opB
  cases wd with
  | true => rw [if_pos rfl, Int.tmod_eq_emod_of_nonneg (by omega)]; exact ⟨by omega, by simp; omega, by omega, by omega⟩
  | false => rw [if_neg (by simp), Int.tmod_eq_emod_of_nonneg (by omega)]; exact ⟨by omega, by simp; omega, by omega, by omega⟩
theorem fold_pair {ar d a b v : Int} {wd : Bool} {args : List Int} : ∀ (l : List UInt8) (s : F6 × Int), l.foldl (fun s x => (setF ar d a b v args s.1 x, s.2 + ((encS ar d a b v wd args x).length : Int))) s = (l.foldl (setF ar d a b v args) s.1, s.2 + ((l.flatMap (encS ar d a b v wd args)).length : Int))
  | [], s => by simp
  | x :: l, s => by rw [List.foldl_cons, fold_pair l, List.foldl_cons, List.flatMap_cons, List.length_append]; congr 1; simp only; omega
theorem setF_len (ar d a b v : Int) (args : List Int) (s : F6) (x : UInt8) : (setF ar d a b v args s x).2.2.2.2.2.length ≤ s.2.2.2.2.2.length + args.length := by
  unfold setF
  repeat' split
  all_goals simp
theorem f13_ok {op ar d a b v : Int} {wd : Bool} {args : List Int} (h : chk op ar d a b v wd args = 0) (hv : I64 v) (ha : args.length ≤ 1000) {data : List Int} (hd : data.length ≤ 1000000000) {p : Nat} (hat : At data p (encL op ar d a b v wd args))
    {s : F6} (hs : s = canon op ar d a b v args) :
    f13 data (p : Int) = some (op, s.1, s.2.1, s.2.2.1, s.2.2.2.1, s.2.2.2.2.1, wd, ((encL op ar d a b v wd args).length : Int), 0, s.2.2.2.2.2) := by
  have h1 := (chk_ok.1 h).1
  have hop := opL_in h1
  have hlen := at_len hat (by simp [encL])
  unfold encL at hat
  obtain ⟨hat1, hat2⟩ := at_append hat
  have hl1 : 1 ≤ (encL op ar d a b v wd args).length := by simp [encL]
  have hb : data.getD (Int.toNat (p : Int)) 0 = opB op wd := by
    have := hat1 0 (by simp)
    rw [Int.toNat_natCast, List.getD_eq_getElem?_getD]
    simp at this
    rw [this]; rfl
  obtain ⟨b1, b2, b3, b4⟩ := opB_eq hop wd
  apply ok_eq
  unfold f13
  dsimp only
  rw [hb, w64_of (x := opB op wd) (by omega), b1, b2, w64_of (x := (p : Int) + 1) (by omega)]
  refine goF (by simp) (goF (by simp; omega) (goC (inB_iff.2 (by omega)) (goC (inB_iff.2 (by omega)) ?_)))
  refine goB (fun y => y = false) ?_ fun y hy => ?_
  · rw [f20_eq, f24_eq]
    refine goS rfl (goF (by simp; omega) (goI (fun hw => goS rfl (goR ?_)) fun _ => goR rfl))
    simp only [opL, hw, Bool.and_eq_true, Bool.or_eq_true, Bool.not_true, decide_eq_true_eq, Bool.false_eq_true, false_or] at h1
    simp; omega
  subst hy
  refine goF rfl (goC (inB_iff.2 (by omega)) ?_)
  have hA : Ascii (rowOf op) := ascii_row op.toNat
  have hgood := good h
  refine goB (fun y => y = tupD op wd data s ((p : Int) + ((encL op ar d a b v wd args).length : Int))) ?_ fun y hy => ?_
  · refine ok_for (rowOf op) (fun i t => stD op wd data (rowOf op) i t) (fun t x => (setF ar d a b v args t.1 x, t.2 + ((encS ar d a b v wd args x).length : Int)))
      (fun i t => (∃ q : Nat, t.2 = (q : Int) ∧ At data q (((rowOf op).drop i).flatMap (encS ar d a b v wd args))) ∧ t.1.2.2.2.2.2.length ≤ i * 1000) (s0 := ((0, 0, 0, 0, 0, []), (p : Int) + 1)) rfl ⟨⟨p + 1, rfl, by simpa using hat2⟩, by simp⟩ ?_ ?_
    · rintro i hi ⟨t, pl⟩ ⟨⟨q, hq, hAt⟩, hl⟩ _
      simp only at hq hl
      subst hq
      have hi4 := rowOf_len op
      have hL := rowOf_letter op _ (List.getElem_mem hi)
      dsimp only
      rw [List.drop_eq_getElem_cons hi, List.flatMap_cons] at hAt
      obtain ⟨q1, q2⟩ := at_append hAt
      refine goT (by dsimp only [stD]; rw [strN_at]; simpa using hi) ?_
      refine decStep op ar d a b v wd args hL (hgood _ (List.getElem_mem hi)) hv hd q1 rfl (runeAt_at hA hi) (by omega) (goR ⟨?_, ⟨q + (encS ar d a b v wd args (rowOf op)[i]).length, by simp, q2⟩, ?_⟩)
      · dsimp only [tupD, stD]
        rw [afterRune_at hA hi]
      · have := setF_len ar d a b v args t (rowOf op)[i]
        omega
    · rintro ⟨t, pl⟩ _ he
      rw [fold_pair] at he
      cases he
      refine goF (by dsimp only [stD]; rw [strN_at]; simp) (goR ?_)
      show _ = tupD _ _ _ _ _
      unfold tupD
      rw [hs]
      have : (p : Int) + 1 + (((rowOf op).flatMap (encS ar d a b v wd args)).length : Int) = (p : Int) + ((encL op ar d a b v wd args).length : Int) := by
        unfold encL; rw [List.length_append, List.length_singleton]; omega
      rw [← this]
      rfl
  subst hy
  dsimp only [tupD]
  obtain ⟨c1, c2, c3⟩ := canon_ok (wd := wd) h hs
  refine goF rfl ?_
  rw [f9_eq _ _ _ _ _ _ _ _ (by omega)]
  refine goS rfl ?_
  rw [c1]
  refine goF rfl (goR ?_)
  rw [w64_of (by omega)]
  have : (p : Int) + ((encL op ar d a b v wd args).length : Int) - (p : Int) = ((encL op ar d a b v wd args).length : Int) := by omega
  rw [this]
/-- At the end of the bytes there is none. -/
theorem f13_end {data : List Int} : Ok (f13 data (data.length : Int)) fun y => y.2.2.2.2.2.2.2.2.1 = 2 := by
  unfold f13
  dsimp only
  exact goF (by simp) (goT (by simp) (goR rfl))
theorem encL_len (op ar d a b v : Int) (wd : Bool) (args : List Int) : 1 ≤ (encL op ar d a b v wd args).length ∧ (encL op ar d a b v wd args).length ≤ 1 + 4 * (args.length + 8) := by
  unfold encL
  rw [List.length_append, List.length_singleton]
  have h4 := rowOf_len op
  have : ∀ l : List UInt8, (∀ x ∈ l, IsLetter x) → (l.flatMap (encS ar d a b v wd args)).length ≤ l.length * (args.length + 8) := by
    intro l
    induction l with
    | nil => simp
    | cons x l ih =>
      intro h
      have h1 := encS_len ar d a b v wd args (h x (by simp))
      have h2 := ih fun y hy => h y (by simp [hy])
      rw [List.flatMap_cons, List.length_append, List.length_cons, Nat.add_mul]; omega
  have h5 := this _ (rowOf_letter op)
  have : (rowOf op).length * (args.length + 8) ≤ 4 * (args.length + 8) := Nat.mul_le_mul_right _ h4
  omega
theorem f10_eq (op ar d a b v : Int) (wd : Bool) (args : List Int) (ha : args.length ≤ 1000) :
    f10 op ar d a b v wd args = some (if chk op ar d a b v wd args = 0 then ((encL op ar d a b v wd args).length : Int) else 0) := by
  unfold f10
  rw [f12_eq _ _ _ _ _ _ _ _ ha]
  show some _ = some _
  split <;> rfl
theorem chk_awake : chk 2 0 1 2 0 0 false [] = 0 := by decide
theorem encL_awake : encL 2 0 1 2 0 0 false [] = [2, 1, 2] := by decide
theorem f6_ok : f6 = some true := by
  unfold f6
  rw [f12_eq _ _ _ _ _ _ _ _ (by simp), if_pos chk_awake, encL_awake]
  rfl
end Go.Fg.YtcehajipaclnlaaDoor
