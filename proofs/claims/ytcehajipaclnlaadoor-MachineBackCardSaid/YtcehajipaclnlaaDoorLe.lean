/-
  Chapter 12, plain: instructions as bytes.
-/
import Derived.Test.YtcehajipaclnlaaDoorLd
namespace Go.Fg.YtcehajipaclnlaaDoor
open Go.Fw
set_option linter.unusedVariables false
set_option linter.unusedSimpArgs false

def IsLetter (x : UInt8) : Prop := x.toNat = 111 ∨ x.toNat = 100 ∨ x.toNat = 97 ∨ x.toNat = 98 ∨ x.toNat = 106 ∨ x.toNat = 110 ∨ x.toNat = 49 ∨ x.toNat = 50 ∨ x.toNat = 52 ∨ x.toNat = 56
instance (x : UInt8) : Decidable (IsLetter x) := by unfold IsLetter; infer_instance
theorem rowOf_letter (op : Int) : ∀ x ∈ rowOf op, IsLetter x := by
  have : ∀ r ∈ tbl0, ∀ x ∈ r, IsLetter x := by decide
  unfold rowOf
  by_cases h : op.toNat < tbl0.length
  · rw [getD_at _ h]; exact this _ (List.getElem_mem _)
  · rw [List.getD_eq_getElem?_getD, List.getElem?_eq_none (by omega)]; intro x hx; cases hx
/-- the bytes of a letter -/
def encS (ar d a b v : Int) (wd : Bool) (args : List Int) (x : UInt8) : List Int :=
  if x.toNat = 111 then putL ar 1 else if x.toNat = 100 then putL d 1 else if x.toNat = 97 then putL a 1 else if x.toNat = 98 then putL b 1
  else if x.toNat = 106 then putL v (if wd then 4 else 1) else if x.toNat = 110 then putL args.length 1 ++ args.flatMap (fun y => putL y 1) else putL v (x.toNat - 48)
def opB (op : Int) (wd : Bool) : Int := if wd then op + 128 else op
def encL (op ar d a b v : Int) (wd : Bool) (args : List Int) : List Int := [opB op wd] ++ (rowOf op).flatMap (encS ar d a b v wd args)
theorem flat1_len (args : List Int) : (args.flatMap (fun y => putL y 1)).length = args.length := by
  induction args with
  | nil => rfl
  | cons x l ih => rw [List.flatMap_cons, List.length_append, ih, putL_len, List.length_cons]; omega
theorem encS_len (ar d a b v : Int) (wd : Bool) (args : List Int) {x : UInt8} (hx : IsLetter x) : (encS ar d a b v wd args x).length ≤ args.length + 8 := by
  unfold encS IsLetter at *
  repeat' split
  all_goals simp only [List.length_append, putL_len, flat1_len]
  all_goals omega
theorem encStep {op : Int} (ar d a b v : Int) (wd : Bool) (args : List Int) (ha : args.length ≤ 1000) {x : UInt8} (hx : IsLetter x) {r : Int} (hr : r = (x.toNat : Int)) {s : List Int} (hs : s.length ≤ 100000) {β : Type} {k : List Int → Option β} {Q : β → Prop}
    (hk : Ok (k (s ++ encS ar d a b v wd args x)) Q) :
    Ok (Option.bind (
            bif (decide (r = (111 : Int))) then
              Option.bind (f22 ar (1 : Int) s) fun (c11 : (List Int)) =>
              some c11
            else
              Option.bind (
                bif (decide (r = (100 : Int))) then
                  Option.bind (f22 d (1 : Int) s) fun (c13 : (List Int)) =>
                  some c13
                else
                  Option.bind (
                    bif (decide (r = (97 : Int))) then
                      Option.bind (f22 a (1 : Int) s) fun (c15 : (List Int)) =>
                      some c15
                    else
                      Option.bind (
                        bif (decide (r = (98 : Int))) then
                          Option.bind (f22 b (1 : Int) s) fun (c17 : (List Int)) =>
                          some c17
                        else
                          Option.bind (
                            bif (decide (r = (106 : Int))) then
                              Option.bind (f23 wd) fun (c19 : Int) =>
                              Option.bind (f22 v c19 s) fun (c20 : (List Int)) =>
                              some c20
                            else
                              Option.bind (
                                bif (decide (r = (110 : Int))) then
                                  Option.bind (f22 ((List.length args) : Int) (1 : Int) s) fun (c23 : (List Int)) =>
                                  Option.bind (
                                    loopM (fun (s25 : (Int × (List Int))) =>
                                      bif (decide (s25.1 < ((List.length args) : Int))) then
                                        ck (inB s25.1 (List.length args)) <|
                                        Option.bind (f22 (List.getD args (Int.toNat s25.1) (0 : Int)) (1 : Int) s25.2) fun (c28 : (List Int)) =>
                                        some (.inl ((w64 (s25.1 + (1 : Int))), c28))
                                      else
                                        some (.inr s25.2)) ((0 : Int), c23)) fun (s30 : (List Int)) =>
                                  some s30
                                else
                                  Option.bind (f22 v (w64 (Go.IntKind.wrap .i32 (r - (48 : Int)))) s) fun (c33 : (List Int)) =>
                                  some c33) fun (s34 : (List Int)) =>
                              some s34) fun (s35 : (List Int)) =>
                          some s35) fun (s36 : (List Int)) =>
                      some s36) fun (s37 : (List Int)) =>
                  some s37) fun (s38 : (List Int)) =>
              some s38) k) Q := by
  have fin : ∀ {y : List Int}, y = s ++ encS ar d a b v wd args x → Ok (k y) Q := fun h => h ▸ hk
  refine goB (fun y => y = s ++ encS ar d a b v wd args x) ?_ fun y hy => fin hy
  have key : ∀ n : Nat, decide (r = (n : Int)) = decide (x.toNat = n) := fun n => by rw [hr]; exact decide_eq_decide.2 Int.ofNat_inj
  have p1 := fun v => put_eq v (n := 1) (by decide) (l := s) (by omega)
  have k1 := key 111
  have k2 := key 100
  have k3 := key 97
  have k4 := key 98
  have k5 := key 106
  have k6 := key 110
  simp only [Int.cast_ofNat_Int] at k1 k2 k3 k4 k5 k6 p1
  rw [k1, k2, k3, k4, k5, k6]
  refine goI (fun h => ?_) fun h1 => ?_
  · have h : x.toNat = 111 := by simpa using h
    exact goS (p1 _) (goR (by simp [encS, h]))
  refine goB _ (goI (fun h => ?_) fun h2 => ?_) fun y hy => goR hy
  · have h : x.toNat = 100 := by simpa using h
    exact goS (p1 _) (goR (by simp [encS, h]))
  refine goB _ (goI (fun h => ?_) fun h3 => ?_) fun y hy => goR hy
  · have h : x.toNat = 97 := by simpa using h
    exact goS (p1 _) (goR (by simp [encS, h]))
  refine goB _ (goI (fun h => ?_) fun h4 => ?_) fun y hy => goR hy
  · have h : x.toNat = 98 := by simpa using h
    exact goS (p1 _) (goR (by simp [encS, h]))
  refine goB _ (goI (fun h => ?_) fun h5 => ?_) fun y hy => goR hy
  · have h : x.toNat = 106 := by simpa using h
    unfold f23
    cases wd with
    | true =>
      have p4 := put_eq v (n := 4) (by decide) (l := s) (by omega)
      rw [show ((4 : Nat) : Int) = 4 from rfl] at p4
      exact goS (y := (4 : Int)) rfl (goS p4 (goR (by simp [encS, h])))
    | false => exact goS (y := (1 : Int)) rfl (goS (p1 _) (goR (by simp [encS, h])))
  refine goB _ (goI (fun h => ?_) fun h6 => ?_) fun y hy => goR hy
  · have h : x.toNat = 110 := by simpa using h
    refine goS (p1 _) (goB (fun y => y = s ++ putL args.length 1 ++ args.flatMap (fun y => putL y 1)) ?_ fun y hy => goR (by subst hy; simp [encS, h]))
    refine ok_for args (fun i s => (i, s)) (fun s y => s ++ putL y 1) (fun i s => s.length ≤ 100001 + i) rfl (by rw [List.length_append, putL_len]; omega) ?_ ?_
    · intro i hi s hs _
      refine goT (by simpa using hi) (goC (inB_iff.2 (by simp only; omega)) ?_)
      have hp := put_eq args[i] (n := 1) (by decide) (l := s) (by omega)
      rw [show ((1 : Nat) : Int) = 1 from rfl] at hp
      dsimp only
      rw [Int.toNat_natCast, getD_at _ hi]
      refine goS hp (goR ?_)
      rw [w64_of (by omega)]
      exact ⟨rfl, by rw [List.length_append, putL_len]; omega⟩
    · intro s hs he
      refine goF (by simp) (goR ?_)
      show s = _
      rw [he, foldl_flat]
  · have : (x.toNat = 49 ∨ x.toNat = 50 ∨ x.toNat = 52 ∨ x.toNat = 56) := by
      rw [decide_eq_false_iff_not] at h1 h2 h3 h4 h5 h6
      unfold IsLetter at hx
      omega
    have e : encS ar d a b v wd args x = putL v (x.toNat - 48) := by
      rw [decide_eq_false_iff_not] at h1 h2 h3 h4 h5 h6
      unfold encS
      rw [if_neg h1, if_neg h2, if_neg h3, if_neg h4, if_neg h5, if_neg h6]
    have e2 : w64 (Go.IntKind.wrap .i32 (r - 48)) = ((x.toNat - 48 : Nat) : Int) := by
      rw [wrap_i32, hr, w64_of (by split <;> omega)]
      split <;> omega
    rw [e2, e]
    exact goS (put_eq v (n := x.toNat - 48) (by omega) (by omega)) (goR rfl)
theorem f12_eq (op ar d a b v : Int) (wd : Bool) (args : List Int) (ha : args.length ≤ 1000) :
    f12 op ar d a b v wd args = some (if chk op ar d a b v wd args = 0 then (0, encL op ar d a b v wd args) else (chk op ar d a b v wd args, [])) := by
  apply ok_eq
  unfold f12
  rw [f9_eq _ _ _ _ _ _ _ _ ha]
  refine goS rfl ?_
  dsimp only
  refine goI (fun h => ?_) fun h => ?_
  · rw [if_neg (by simpa using h)]; exact goR rfl
  have h : chk op ar d a b v wd args = 0 := by simpa using h
  rw [if_pos h]
  have hop : 1 ≤ op ∧ op ≤ 18 ∧ (wd = true → 13 ≤ op ∧ op ≤ 15) := by
    unfold chk at h
    split at h
    · rename_i h1
      refine ⟨(opL_in h1).1, (opL_in h1).2, fun hw => ?_⟩
      subst hw
      simp only [opL, Bool.and_eq_true, Bool.or_eq_true, Bool.not_true, decide_eq_true_eq, Bool.false_eq_true, false_or] at h1
      exact h1.1.1.2
    · cases h
  have e0 : Go.IntKind.wrap .u8 op = op := by rw [wrap_u8]; omega
  rw [e0]
  refine goB (fun y => y = [opB op wd]) ?_ fun y hy => ?_
  · refine goI (fun hw => ?_) fun hw => goR ?_
    · have := hop.2.2 hw
      refine goC rfl (goC rfl (goR ?_))
      rw [hw]
      show [Go.IntKind.wrap .u8 (op + 128)] = [op + 128]
      rw [wrap_u8]; congr 1; omega
    · rw [hw]; rfl
  subst hy
  refine goC (inB_iff.2 ⟨by omega, by omega⟩) (goB (fun y => y = encL op ar d a b v wd args) ?_ fun y hy => goR (by rw [hy]))
  have hA : Ascii (rowOf op) := ascii_row op.toNat
  refine ok_for (rowOf op) (fun i s => (s, (rowOf op, i))) (fun s x => s ++ encS ar d a b v wd args x) (fun i s => s.length ≤ 1 + i * 1008) rfl (by simp) ?_ ?_
  · intro i hi s hs _
    dsimp only
    have hi4 := rowOf_len op
    have hL := rowOf_letter op _ (List.getElem_mem hi)
    rw [strN_at, afterRune_at hA hi]
    refine goT (by simpa using hi) ?_
    refine encStep (op := op) ar d a b v wd args ha hL (runeAt_at hA hi) (by omega) (goR ⟨rfl, ?_⟩)
    have := encS_len ar d a b v wd args hL
    rw [List.length_append]; omega
  · intro s hs he
    dsimp only
    rw [strN_at]
    refine goF (by simp) (goR ?_)
    show s = _
    rw [he, foldl_flat]; rfl
end Go.Fg.YtcehajipaclnlaaDoor
