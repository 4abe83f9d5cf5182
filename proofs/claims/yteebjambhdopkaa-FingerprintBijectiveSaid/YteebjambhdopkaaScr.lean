/-
  The walks of FingerprintBijective: what Scramble, Join and Bytes of nothing return, and the law itself. No condition.
-/
import Derived.Test.YteebjambhdopkaaRows
import Derived.Test.YteebjambhdopkaaMath
import Derived.WalkKit
import Derived.Lib.Hide
namespace Go.Proofs.Yteebjambhdopkaa.Fp
open Go.RowKit
theorem ret_int {k : IntKind} {a b : Int} (h : a = b) : Ending.returned (.int k a) = .returned (.int k b) := by rw [h]
set_option maxHeartbeats 400000 in
theorem scr (x : Int) (w : World) : Calls Try.prog 5 #[.int .u64 x] w fun e w' => e = .returned (.int .u64 (scrI x)) ∧ w = w' := by
  go_enter Try.func5, Try.ntmps5
  go_wp2
  go_ret
  exact ⟨rfl, rfl⟩
set_option maxHeartbeats 400000 in
theorem rscr (x : Int) (w : World) : Calls Try.prog 8 #[.int .u64 x] w fun e w' => e = .returned (.int .u64 (scrI x)) ∧ w = w' := by
  go_enter Try.func8, Try.ntmps8
  go_wp2
  go_ret
  exact ⟨rfl, rfl⟩
set_option maxHeartbeats 400000 in
theorem join (x y : Int) (w : World) : Calls Try.prog 6 #[.int .u64 x, .int .u64 y] w fun e w' => e = .returned (.int .u64 (joinI x y)) ∧ w = w' := by
  go_enter Try.func6, Try.ntmps6
  go_wp2_with (go_at_call 5; refine (scr _ _).mono ?_; rintro e w' ⟨rfl, rfl⟩)
  go_ret
  exact ⟨rfl, rfl⟩
set_option maxHeartbeats 400000 in
theorem bytesNil (w : World) : Calls Try.prog 7 #[.slice none 0 0] w fun e w' => e = .returned (.int .u64 (scrI 14695981039346656037)) ∧ w = w' := by
  go_enter Try.func7, Try.ntmps7
  go_wp2_with fail
  refine wp_loop_rounds 1 ?_
  rw [rounds_succ]
  go_wp2_with (go_at_call 5; refine (scr _ _).mono ?_; rintro e w' ⟨rfl, rfl⟩)
  go_ret
  exact ⟨rfl, rfl⟩
set_option maxHeartbeats 400000 in
theorem awake (w : World) : Calls Try.prog 4 #[] w fun e w' => e = .returned (.bool true) ∧ w = w' := by
  have h0 : (scrI 14695981039346656037 == scrI 14695981039346656037) = true := beq_self_eq_true _
  have h1 : (scrI 1 != 0) = true := by decide +kernel
  go_enter Try.func4, Try.ntmps4
  go_wp2_with fail
  refine (bytesNil _).mono ?_
  rintro e w' ⟨rfl, rfl⟩
  go_wp2_with fail
  refine (rscr _ _).mono ?_
  rintro e w' ⟨rfl, rfl⟩
  go_wp2_with fail
  refine (scr _ _).mono ?_
  rintro e w' ⟨rfl, rfl⟩
  go_wp2_with fail
  go_ret
  exact ⟨rfl, rfl⟩

theorem eq_tt (c : Bool) (h : c = true) : (true == c) = c := by rw [h]; rfl
set_option maxHeartbeats 1000000 in
/-- THE WALK, the six comparisons decided ahead: q says whether x and y are one. -/
theorem steps (x y z b v : Int) (q : Bool) (hq : (x == y) = q) (h1 : (scrI x == scrI y) = q) (h2 : (scrI x != scrI v) = true) (h3 : (joinI x z != joinI v z) = true)
    (h4 : (joinI z x != joinI z v) = true) (h5 : (joinI x z == joinI y z) = q) (hb0 : 0 ≤ b) (hb1 : b < 256) (hv : bits BinOp.xor IntKind.u64 x (IntKind.u64.wrap (2 ^ (b % 64).toNat)) = v)
    (w : World) : Calls Try.prog 3 #[.int .u64 x, .int .u64 y, .int .u64 z, .int .u8 b] w fun e w' => e = .returned (.bool true) ∧ w = w' := by
  have h6 : (q == q) = true := beq_self_eq_true _
  have H1 := Lib.hid h1; have H2 := Lib.hid h2; have H3 := Lib.hid h3; have H4 := Lib.hid h4; have H5 := Lib.hid h5; have Hq := Lib.hid hq; have Hv := Lib.hid hv
  clear h1 h2 h3 h4 h5 hq hv
  go_enter Try.func3, Try.ntmps3
  go_wp2_with fail
  refine (awake _).mono ?_
  rintro e w' ⟨rfl, rfl⟩
  go_wp2_with fail
  rw [Hv.out]
  refine (scr _ _).mono ?_
  rintro e w' ⟨rfl, rfl⟩
  go_wp2_with fail
  refine (scr _ _).mono ?_
  rintro e w' ⟨rfl, rfl⟩
  have hq := Hq.out
  have h1 := H1.out
  go_wp2_with fail
  clear hq h1
  refine (scr _ _).mono ?_
  rintro e w' ⟨rfl, rfl⟩
  go_wp2_with fail
  refine (scr _ _).mono ?_
  rintro e w' ⟨rfl, rfl⟩
  have h2 := H2.out
  go_wp2_with fail
  clear h2
  refine (join _ _ _).mono ?_
  rintro e w' ⟨rfl, rfl⟩
  go_wp2_with fail
  refine (join _ _ _).mono ?_
  rintro e w' ⟨rfl, rfl⟩
  have h3 := H3.out
  go_wp2_with fail
  clear h3
  refine (join _ _ _).mono ?_
  rintro e w' ⟨rfl, rfl⟩
  go_wp2_with fail
  refine (join _ _ _).mono ?_
  rintro e w' ⟨rfl, rfl⟩
  have h4 := H4.out
  go_wp2_with fail
  clear h4
  refine (join _ _ _).mono ?_
  rintro e w' ⟨rfl, rfl⟩
  go_wp2_with fail
  refine (join _ _ _).mono ?_
  rintro e w' ⟨rfl, rfl⟩
  have h5 := H5.out
  have hq := Hq.out
  go_wp2_with fail
  go_ret
  exact ⟨rfl, rfl⟩
theorem law (x y z b : Int) (hx0 : 0 ≤ x) (hx1 : x < 18446744073709551616) (hy0 : 0 ≤ y) (hy1 : y < 18446744073709551616)
    (hb0 : 0 ≤ b) (hb1 : b < 256) (w : World) : Calls Try.prog 3 #[.int .u64 x, .int .u64 y, .int .u64 z, .int .u8 b] w fun e w' => e = .returned (.bool true) ∧ w = w' := by
  have hf := flip_ne x hx0 hx1 (b % 64).toNat (by omega)
  obtain ⟨v, hv⟩ : ∃ v, bits BinOp.xor IntKind.u64 x (IntKind.u64.wrap (2 ^ (b % 64).toNat)) = v := ⟨_, rfl⟩
  rw [hv] at hf
  obtain ⟨hne, hv0, hv1⟩ := hf
  have g2 : (scrI x != scrI v) = true := by rw [bne_iff_ne]; exact fun h => hne (scrI_inj _ _ hx0 hx1 hv0 hv1 h).symm
  have g3 : (joinI x z != joinI v z) = true := by rw [bne_iff_ne]; exact fun h => hne (joinI_inj_left _ _ _ hx0 hx1 hv0 hv1 h).symm
  have g4 : (joinI z x != joinI z v) = true := by rw [bne_iff_ne]; exact fun h => hne (joinI_inj_right _ _ _ hx0 hx1 hv0 hv1 h).symm
  by_cases he : x = y
  · exact steps x y z b v true (by rw [he]; exact beq_self_eq_true _) (by rw [he]; exact beq_self_eq_true _) g2 g3 g4 (by rw [he]; exact beq_self_eq_true _) hb0 hb1 hv w
  · exact steps x y z b v false (beq_eq_false_iff_ne.2 he) (beq_eq_false_iff_ne.2 fun h => he (scrI_inj _ _ hx0 hx1 hy0 hy1 h)) g2 g3 g4
      (beq_eq_false_iff_ne.2 fun h => he (joinI_inj_left _ _ _ hx0 hx1 hy0 hy1 h)) hb0 hb1 hv w
end Go.Proofs.Yteebjambhdopkaa.Fp
