/-
  Chapter 12, plain: bytes as instructions.
-/
import Derived.Test.YtcehajipaclnlaaDoorLe
namespace Go.Fg.YtcehajipaclnlaaDoor
open Go.Fw
set_option linter.unusedVariables false
set_option linter.unusedSimpArgs false

abbrev F6 := Int × (Int × (Int × (Int × (Int × List Int))))
/-- what reading a letter changes -/
def setF (ar d a b v : Int) (args : List Int) (s : F6) (x : UInt8) : F6 :=
  if x.toNat = 111 then (ar, s.2) else if x.toNat = 100 then (s.1, d, s.2.2) else if x.toNat = 97 then (s.1, s.2.1, a, s.2.2.2) else if x.toNat = 98 then (s.1, s.2.1, s.2.2.1, b, s.2.2.2.2)
  else if x.toNat = 110 then (s.1, s.2.1, s.2.2.1, s.2.2.2.1, s.2.2.2.2.1, s.2.2.2.2.2 ++ args) else (s.1, s.2.1, s.2.2.1, s.2.2.2.1, v, s.2.2.2.2.2)
/-- what a letter can say -/
def LOk (ar d a b v : Int) (wd : Bool) (args : List Int) (x : UInt8) : Prop :=
  (x.toNat = 111 → 0 ≤ ar ∧ ar ≤ 255) ∧ (x.toNat = 100 → 0 ≤ d ∧ d ≤ 255) ∧ (x.toNat = 97 → 0 ≤ a ∧ a ≤ 255) ∧ (x.toNat = 98 → 0 ≤ b ∧ b ≤ 255) ∧
  (x.toNat = 106 → if wd then -2147483648 ≤ v ∧ v ≤ 2147483647 else -128 ≤ v ∧ v ≤ 127) ∧ (x.toNat = 110 → args.length ≤ 255 ∧ ∀ y ∈ args, 0 ≤ y ∧ y ≤ 255) ∧
  (x.toNat = 49 → 0 ≤ v ∧ v ≤ 255) ∧ (x.toNat = 50 → 0 ≤ v ∧ v ≤ 65535) ∧ (x.toNat = 52 → 0 ≤ v ∧ v ≤ 4294967295)
abbrev DT := Int × (Int × (Int × (Int × (Int × (Int × (Bool × ((List Int) × (Int × (Bool × (List Int))))))))))
def tupD (op : Int) (wd : Bool) (data : List Int) (s : F6) (pl : Int) : DT := (op, s.1, s.2.1, s.2.2.1, s.2.2.2.1, s.2.2.2.2.1, wd, data, pl, false, s.2.2.2.2.2)
abbrev DT2 := Int × (Int × (Int × (Int × (Int × (Int × (Bool × ((List Int) × (Int × (Bool × ((List UInt8) × (Int × (List Int))))))))))))
def stD (op : Int) (wd : Bool) (data : List Int) (str : List UInt8) (i : Int) (s : F6 × Int) : DT2 := (op, s.1.1, s.1.2.1, s.1.2.2.1, s.1.2.2.2.1, s.1.2.2.2.2.1, wd, data, s.2, false, str, i, s.1.2.2.2.2.2)
set_option maxHeartbeats 1600000 in
theorem decStep (op ar d a b v : Int) (wd : Bool) (args : List Int) {x : UInt8} (hx : IsLetter x) (hL : LOk ar d a b v wd args x) (hv : I64 v) {data : List Int} (hd : data.length ≤ 1000000000) {p : Nat} (hat : At data p (encS ar d a b v wd args x))
    {s18 : DT2} {str : List UInt8} {i : Int} {s : F6} (hs18 : s18 = stD op wd data str i (s, (p : Int))) {r : Int} (hr : r = (x.toNat : Int)) (hargs : s.2.2.2.2.2.length ≤ 100000) {β : Type} {k : DT → Option β} {Q : β → Prop}
    (hk : Ok (k (tupD op wd data (setF ar d a b v args s x) ((p : Int) + (encS ar d a b v wd args x).length))) Q) :
    Ok (Option.bind (
                bif decide (r = (111 : Int)) then
                  Option.bind (f25 (1 : Int) s18.2.2.2.2.2.2.2.1 s18.2.2.2.2.2.2.2.2.1 s18.2.2.2.2.2.2.2.2.2.1) fun (c20 : (Int × ((List Int) × (Int × Bool)))) =>
                  some (s18.1, (c20.1, (s18.2.2.1, (s18.2.2.2.1, (s18.2.2.2.2.1, (s18.2.2.2.2.2.1, (s18.2.2.2.2.2.2.1, (c20.2.1, (c20.2.2.1, (c20.2.2.2, s18.2.2.2.2.2.2.2.2.2.2.2.2))))))))))
                else
                  Option.bind (
                    bif decide (r = (100 : Int)) then
                      Option.bind (f25 (1 : Int) s18.2.2.2.2.2.2.2.1 s18.2.2.2.2.2.2.2.2.1 s18.2.2.2.2.2.2.2.2.2.1) fun (c22 : (Int × ((List Int) × (Int × Bool)))) =>
                      some (s18.1, (s18.2.1, (c22.1, (s18.2.2.2.1, (s18.2.2.2.2.1, (s18.2.2.2.2.2.1, (s18.2.2.2.2.2.2.1, (c22.2.1, (c22.2.2.1, (c22.2.2.2, s18.2.2.2.2.2.2.2.2.2.2.2.2))))))))))
                    else
                      Option.bind (
                        bif decide (r = (97 : Int)) then
                          Option.bind (f25 (1 : Int) s18.2.2.2.2.2.2.2.1 s18.2.2.2.2.2.2.2.2.1 s18.2.2.2.2.2.2.2.2.2.1) fun (c24 : (Int × ((List Int) × (Int × Bool)))) =>
                          some (s18.1, (s18.2.1, (s18.2.2.1, (c24.1, (s18.2.2.2.2.1, (s18.2.2.2.2.2.1, (s18.2.2.2.2.2.2.1, (c24.2.1, (c24.2.2.1, (c24.2.2.2, s18.2.2.2.2.2.2.2.2.2.2.2.2))))))))))
                        else
                          Option.bind (
                            bif decide (r = (98 : Int)) then
                              Option.bind (f25 (1 : Int) s18.2.2.2.2.2.2.2.1 s18.2.2.2.2.2.2.2.2.1 s18.2.2.2.2.2.2.2.2.2.1) fun (c26 : (Int × ((List Int) × (Int × Bool)))) =>
                              some (s18.1, (s18.2.1, (s18.2.2.1, (s18.2.2.2.1, (c26.1, (s18.2.2.2.2.2.1, (s18.2.2.2.2.2.2.1, (c26.2.1, (c26.2.2.1, (c26.2.2.2, s18.2.2.2.2.2.2.2.2.2.2.2.2))))))))))
                            else
                              Option.bind (
                                bif decide (r = (106 : Int)) then
                                  Option.bind (f26 s18.2.2.2.2.2.2.1 s18.2.2.2.2.2.2.2.1 s18.2.2.2.2.2.2.2.2.1 s18.2.2.2.2.2.2.2.2.2.1) fun (c28 : (Int × ((List Int) × (Int × Bool)))) =>
                                  some (s18.1, (s18.2.1, (s18.2.2.1, (s18.2.2.2.1, (s18.2.2.2.2.1, (c28.1, (s18.2.2.2.2.2.2.1, (c28.2.1, (c28.2.2.1, (c28.2.2.2, s18.2.2.2.2.2.2.2.2.2.2.2.2))))))))))
                                else
                                  Option.bind (
                                    bif decide (r = (110 : Int)) then
                                      Option.bind (f25 (1 : Int) s18.2.2.2.2.2.2.2.1 s18.2.2.2.2.2.2.2.2.1 s18.2.2.2.2.2.2.2.2.2.1) fun (c30 : (Int × ((List Int) × (Int × Bool)))) =>
                                      Option.bind (
                                        loopM (fun (s31 : (Int × (Int × (Int × (Int × (Int × (Int × (Int × (Bool × ((List Int) × (Int × (Bool × (List Int))))))))))))) =>
                                          bif decide (s31.1 < c30.1) then
                                            Option.bind (f25 (1 : Int) s31.2.2.2.2.2.2.2.2.1 s31.2.2.2.2.2.2.2.2.2.1 s31.2.2.2.2.2.2.2.2.2.2.1) fun (c33 : (Int × ((List Int) × (Int × Bool)))) =>
                                            ck (true && (decide ((((List.length s31.2.2.2.2.2.2.2.2.2.2.2) + (List.length [c33.1])) * (8 : Nat)) ≤ (140737488355328 : Nat)))) <|
                                            some (.inl ((w64 (s31.1 + (1 : Int))), (s31.2.1, (s31.2.2.1, (s31.2.2.2.1, (s31.2.2.2.2.1, (s31.2.2.2.2.2.1, (s31.2.2.2.2.2.2.1, (s31.2.2.2.2.2.2.2.1, (c33.2.1, (c33.2.2.1, (c33.2.2.2, (s31.2.2.2.2.2.2.2.2.2.2.2 ++ [c33.1])))))))))))))
                                          else
                                            some (.inr (s31.2.1, (s31.2.2.1, (s31.2.2.2.1, (s31.2.2.2.2.1, (s31.2.2.2.2.2.1, (s31.2.2.2.2.2.2.1, (s31.2.2.2.2.2.2.2.1, (s31.2.2.2.2.2.2.2.2.1, (s31.2.2.2.2.2.2.2.2.2.1, (s31.2.2.2.2.2.2.2.2.2.2.1, s31.2.2.2.2.2.2.2.2.2.2.2)))))))))))) ((0 : Int), (s18.1, (s18.2.1, (s18.2.2.1, (s18.2.2.2.1, (s18.2.2.2.2.1, (s18.2.2.2.2.2.1, (s18.2.2.2.2.2.2.1, (c30.2.1, (c30.2.2.1, (c30.2.2.2, s18.2.2.2.2.2.2.2.2.2.2.2.2)))))))))))) fun (s37 : (Int × (Int × (Int × (Int × (Int × (Int × (Bool × ((List Int) × (Int × (Bool × (List Int)))))))))))) =>
                                      some (s37.1, (s37.2.1, (s37.2.2.1, (s37.2.2.2.1, (s37.2.2.2.2.1, (s37.2.2.2.2.2.1, (s37.2.2.2.2.2.2.1, (s37.2.2.2.2.2.2.2.1, (s37.2.2.2.2.2.2.2.2.1, (s37.2.2.2.2.2.2.2.2.2.1, s37.2.2.2.2.2.2.2.2.2.2))))))))))
                                    else
                                      Option.bind (f25 (w64 (Go.IntKind.wrap .i32 (r - (48 : Int)))) s18.2.2.2.2.2.2.2.1 s18.2.2.2.2.2.2.2.2.1 s18.2.2.2.2.2.2.2.2.2.1) fun (c40 : (Int × ((List Int) × (Int × Bool)))) =>
                                      some (s18.1, (s18.2.1, (s18.2.2.1, (s18.2.2.2.1, (s18.2.2.2.2.1, (c40.1, (s18.2.2.2.2.2.2.1, (c40.2.1, (c40.2.2.1, (c40.2.2.2, s18.2.2.2.2.2.2.2.2.2.2.2.2))))))))))) fun (s41 : (Int × (Int × (Int × (Int × (Int × (Int × (Bool × ((List Int) × (Int × (Bool × (List Int)))))))))))) =>
                                  some (s41.1, (s41.2.1, (s41.2.2.1, (s41.2.2.2.1, (s41.2.2.2.2.1, (s41.2.2.2.2.2.1, (s41.2.2.2.2.2.2.1, (s41.2.2.2.2.2.2.2.1, (s41.2.2.2.2.2.2.2.2.1, (s41.2.2.2.2.2.2.2.2.2.1, s41.2.2.2.2.2.2.2.2.2.2))))))))))) fun (s42 : (Int × (Int × (Int × (Int × (Int × (Int × (Bool × ((List Int) × (Int × (Bool × (List Int)))))))))))) =>
                              some (s42.1, (s42.2.1, (s42.2.2.1, (s42.2.2.2.1, (s42.2.2.2.2.1, (s42.2.2.2.2.2.1, (s42.2.2.2.2.2.2.1, (s42.2.2.2.2.2.2.2.1, (s42.2.2.2.2.2.2.2.2.1, (s42.2.2.2.2.2.2.2.2.2.1, s42.2.2.2.2.2.2.2.2.2.2))))))))))) fun (s43 : (Int × (Int × (Int × (Int × (Int × (Int × (Bool × ((List Int) × (Int × (Bool × (List Int)))))))))))) =>
                          some (s43.1, (s43.2.1, (s43.2.2.1, (s43.2.2.2.1, (s43.2.2.2.2.1, (s43.2.2.2.2.2.1, (s43.2.2.2.2.2.2.1, (s43.2.2.2.2.2.2.2.1, (s43.2.2.2.2.2.2.2.2.1, (s43.2.2.2.2.2.2.2.2.2.1, s43.2.2.2.2.2.2.2.2.2.2))))))))))) fun (s44 : (Int × (Int × (Int × (Int × (Int × (Int × (Bool × ((List Int) × (Int × (Bool × (List Int)))))))))))) =>
                      some (s44.1, (s44.2.1, (s44.2.2.1, (s44.2.2.2.1, (s44.2.2.2.2.1, (s44.2.2.2.2.2.1, (s44.2.2.2.2.2.2.1, (s44.2.2.2.2.2.2.2.1, (s44.2.2.2.2.2.2.2.2.1, (s44.2.2.2.2.2.2.2.2.2.1, s44.2.2.2.2.2.2.2.2.2.2))))))))))) fun (s45 : (Int × (Int × (Int × (Int × (Int × (Int × (Bool × ((List Int) × (Int × (Bool × (List Int)))))))))))) =>
                  some (s45.1, (s45.2.1, (s45.2.2.1, (s45.2.2.2.1, (s45.2.2.2.2.1, (s45.2.2.2.2.2.1, (s45.2.2.2.2.2.2.1, (s45.2.2.2.2.2.2.2.1, (s45.2.2.2.2.2.2.2.2.1, (s45.2.2.2.2.2.2.2.2.2.1, s45.2.2.2.2.2.2.2.2.2.2))))))))))) k) Q := by
  subst hs18
  obtain ⟨hL1, hL2, hL3, hL4, hL5, hL6, hL7, hL8, hL9⟩ := hL
  have fin : ∀ {y : DT}, y = tupD op wd data (setF ar d a b v args s x) ((p : Int) + (encS ar d a b v wd args x).length) → Ok (k y) Q := fun h => h ▸ hk
  obtain ⟨Y, hY⟩ : ∃ Y, Y = tupD op wd data (setF ar d a b v args s x) ((p : Int) + (encS ar d a b v wd args x).length) := ⟨_, rfl⟩
  rw [← hY] at fin hk
  refine goB (fun y => y = Y) ?_ fun y hy => fin hy
  have key : ∀ n : Nat, decide (r = (n : Int)) = decide (x.toNat = n) := fun n => by rw [hr]; exact decide_eq_decide.2 Int.ofNat_inj
  have k1 := key 111
  have k2 := key 100
  have k3 := key 97
  have k4 := key 98
  have k5 := key 106
  have k6 := key 110
  simp only [Int.cast_ofNat_Int] at k1 k2 k3 k4 k5 k6
  rw [k1, k2, k3, k4, k5, k6]
  dsimp only [stD]
  refine goI (fun h => ?_) fun h1 => ?_
  · have h : x.toNat = 111 := by simpa using h
    have e1 : encS ar d a b v wd args x = putL ar 1 := by simp [encS, h]
    have e2 : setF ar d a b v args s x = (ar, s.2) := by simp [setF, h]
    rw [e1] at hat; rw [e1, e2, putL_len] at hY; subst hY
    exact goS (get1 hat hd (hL1 h)) (goR rfl)
  refine goB (fun y => y = Y) (goI (fun h => ?_) fun h2 => ?_) fun y hy => goR hy
  · have h : x.toNat = 100 := by simpa using h
    have e1 : encS ar d a b v wd args x = putL d 1 := by simp [encS, h]
    have e2 : setF ar d a b v args s x = (s.1, d, s.2.2) := by simp [setF, h]
    rw [e1] at hat; rw [e1, e2, putL_len] at hY; subst hY
    exact goS (get1 hat hd (hL2 h)) (goR rfl)
  refine goB (fun y => y = Y) (goI (fun h => ?_) fun h3 => ?_) fun y hy => goR hy
  · have h : x.toNat = 97 := by simpa using h
    have e1 : encS ar d a b v wd args x = putL a 1 := by simp [encS, h]
    have e2 : setF ar d a b v args s x = (s.1, s.2.1, a, s.2.2.2) := by simp [setF, h]
    rw [e1] at hat; rw [e1, e2, putL_len] at hY; subst hY
    exact goS (get1 hat hd (hL3 h)) (goR rfl)
  refine goB (fun y => y = Y) (goI (fun h => ?_) fun h4 => ?_) fun y hy => goR hy
  · have h : x.toNat = 98 := by simpa using h
    have e1 : encS ar d a b v wd args x = putL b 1 := by simp [encS, h]
    have e2 : setF ar d a b v args s x = (s.1, s.2.1, s.2.2.1, b, s.2.2.2.2) := by simp [setF, h]
    rw [e1] at hat; rw [e1, e2, putL_len] at hY; subst hY
    exact goS (get1 hat hd (hL4 h)) (goR rfl)
  refine goB (fun y => y = Y) (goI (fun h => ?_) fun h5 => ?_) fun y hy => goR hy
  · have h : x.toNat = 106 := by simpa using h
    have e1 : encS ar d a b v wd args x = putL v (if wd then 4 else 1) := by simp [encS, h]
    have e2 : setF ar d a b v args s x = (s.1, s.2.1, s.2.2.1, s.2.2.2.1, v, s.2.2.2.2.2) := by simp [setF, h]
    rw [e1] at hat; rw [e1, e2, putL_len] at hY; subst hY
    refine goS (signed_eq hat hd (hL5 h)) (goR ?_)
    cases wd <;> rfl
  refine goB (fun y => y = Y) (goI (fun h => ?_) fun h6 => ?_) fun y hy => goR hy
  · have h : x.toNat = 110 := by simpa using h
    have e1 : encS ar d a b v wd args x = putL args.length 1 ++ args.flatMap (fun y => putL y 1) := by simp [encS, h]
    have e2 : setF ar d a b v args s x = (s.1, s.2.1, s.2.2.1, s.2.2.2.1, s.2.2.2.2.1, s.2.2.2.2.2 ++ args) := by simp [setF, h]
    obtain ⟨ha1, ha2⟩ := hL6 h
    rw [e1] at hat
    rw [e1, e2, List.length_append, flat1_len, putL_len] at hY
    obtain ⟨hat1, hat2⟩ := at_append hat
    rw [putL_len] at hat2
    refine goS (get1 hat1 hd (by omega)) ?_
    dsimp only
    refine goB (fun y => y = Y) ?_ fun y hy => goR hy
    refine ok_for args (fun i (t : List Int × Int) => (i, op, s.1, s.2.1, s.2.2.1, s.2.2.2.1, s.2.2.2.2.1, wd, data, t.2, false, t.1)) (fun t y => (t.1 ++ [y], t.2 + 1)) (fun i t => t.2 = (p : Int) + 1 + i ∧ At data (p + 1 + i) ((args.drop i).flatMap (fun y => putL y 1)) ∧ t.1.length ≤ 100000 + i) (s0 := (s.2.2.2.2.2, (p : Int) + 1)) rfl ⟨by simp, by simpa using hat2, by simp only; omega⟩ ?_ ?_
    · rintro i hi ⟨l, pl⟩ ⟨hpl, hAt, hl⟩ _
      simp only at hpl hl
      dsimp only
      refine goT (by simpa using hi) ?_
      rw [List.drop_eq_getElem_cons hi, List.flatMap_cons] at hAt
      obtain ⟨q1, q2⟩ := at_append hAt
      have hg := get1 q1 hd (ha2 _ (List.getElem_mem _))
      rw [show ((p + 1 + i : Nat) : Int) = pl by omega] at hg
      refine goS hg (goC (by simp; omega) (goR ?_))
      dsimp only
      rw [w64_of (by omega)]
      refine ⟨rfl, by omega, ?_, by rw [List.length_append, List.length_singleton]; omega⟩
      rw [putL_len] at q2
      exact q2
    · rintro ⟨l, pl⟩ ⟨hpl, hAt, hl⟩ he
      simp only at hpl
      dsimp only
      refine goF (by simp) (goR (show _ = Y from ?_))
      have e3 : ∀ (ys : List Int) (t : List Int × Int), ys.foldl (fun t y => (t.1 ++ [y], t.2 + 1)) t = (t.1 ++ ys, t.2 + ys.length) := by
        intro ys
        induction ys with
        | nil => intro t; simp
        | cons y ys ih => intro t; rw [List.foldl_cons, ih]; simp; omega
      rw [e3] at he
      cases he
      rw [hY]
      unfold tupD
      have : (p : Int) + 1 + (args.length : Int) = (p : Int) + ((1 + args.length : Nat) : Int) := by omega
      rw [this]
  · rw [decide_eq_false_iff_not] at h1 h2 h3 h4 h5 h6
    have hdig : (x.toNat = 49 ∨ x.toNat = 50 ∨ x.toNat = 52 ∨ x.toNat = 56) := by
      unfold IsLetter at hx
      omega
    have e1 : encS ar d a b v wd args x = putL v (x.toNat - 48) := by
      unfold encS
      rw [if_neg h1, if_neg h2, if_neg h3, if_neg h4, if_neg h5, if_neg h6]
    have e2 : setF ar d a b v args s x = (s.1, s.2.1, s.2.2.1, s.2.2.2.1, v, s.2.2.2.2.2) := by
      unfold setF
      rw [if_neg h1, if_neg h2, if_neg h3, if_neg h4, if_neg h6]
    have e3 : w64 (Go.IntKind.wrap .i32 (r - 48)) = ((x.toNat - 48 : Nat) : Int) := by
      rw [wrap_i32, hr, w64_of (by split <;> omega)]
      split <;> omega
    rw [e1] at hat
    rw [e1, e2, putL_len] at hY
    rw [e3]
    rcases hdig with h | h | h | h
    · rw [h] at hat hY
      rw [h]
      subst hY
      exact goS (get1 hat hd (hL7 h)) (goR rfl)
    · rw [h] at hat hY
      rw [h]
      subst hY
      exact goS (get2 hat hd (hL8 h)) (goR rfl)
    · rw [h] at hat hY
      rw [h]
      subst hY
      exact goS (get4 hat hd (hL9 h)) (goR rfl)
    · rw [h] at hat hY
      rw [h]
      subst hY
      exact goS (get8 hat hd hv) (goR rfl)
end Go.Fg.YtcehajipaclnlaaDoor
