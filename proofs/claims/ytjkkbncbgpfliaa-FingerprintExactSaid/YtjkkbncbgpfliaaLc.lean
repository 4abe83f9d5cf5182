/-
  Chapter 2, plain: the sort of slices (3): the length of a number in bits, the patterns that are broken, the partitions.
-/
import Derived.Test.YtjkkbncbgpfliaaLb
import Derived.Laws.Bits64
import Derived.Laws.Bits64b
namespace Go.Fg.Ytjkkbncbgpfliaa
open Go.Fw Go.Sort
set_option linter.unusedVariables false
set_option linter.unusedSimpArgs false
set_option maxRecDepth 10000

def len8 : List UInt8 := (([(0 : UInt8), (1 : UInt8), (2 : UInt8), (2 : UInt8), (3 : UInt8), (3 : UInt8), (3 : UInt8), (3 : UInt8), (4 : UInt8), (4 : UInt8), (4 : UInt8), (4 : UInt8), (4 : UInt8), (4 : UInt8), (4 : UInt8), (4 : UInt8), (5 : UInt8), (5 : UInt8), (5 : UInt8), (5 : UInt8), (5 : UInt8), (5 : UInt8), (5 : UInt8), (5 : UInt8), (5 : UInt8), (5 : UInt8), (5 : UInt8), (5 : UInt8), (5 : UInt8), (5 : UInt8), (5 : UInt8), (5 : UInt8), (6 : UInt8), (6 : UInt8), (6 : UInt8), (6 : UInt8), (6 : UInt8), (6 : UInt8), (6 : UInt8), (6 : UInt8), (6 : UInt8), (6 : UInt8), (6 : UInt8), (6 : UInt8), (6 : UInt8), (6 : UInt8), (6 : UInt8), (6 : UInt8), (6 : UInt8), (6 : UInt8), (6 : UInt8), (6 : UInt8), (6 : UInt8), (6 : UInt8), (6 : UInt8), (6 : UInt8), (6 : UInt8), (6 : UInt8), (6 : UInt8), (6 : UInt8), (6 : UInt8), (6 : UInt8), (6 : UInt8), (6 : UInt8)] ++ [(7 : UInt8), (7 : UInt8), (7 : UInt8), (7 : UInt8), (7 : UInt8), (7 : UInt8), (7 : UInt8), (7 : UInt8), (7 : UInt8), (7 : UInt8), (7 : UInt8), (7 : UInt8), (7 : UInt8), (7 : UInt8), (7 : UInt8), (7 : UInt8), (7 : UInt8), (7 : UInt8), (7 : UInt8), (7 : UInt8), (7 : UInt8), (7 : UInt8), (7 : UInt8), (7 : UInt8), (7 : UInt8), (7 : UInt8), (7 : UInt8), (7 : UInt8), (7 : UInt8), (7 : UInt8), (7 : UInt8), (7 : UInt8), (7 : UInt8), (7 : UInt8), (7 : UInt8), (7 : UInt8), (7 : UInt8), (7 : UInt8), (7 : UInt8), (7 : UInt8), (7 : UInt8), (7 : UInt8), (7 : UInt8), (7 : UInt8), (7 : UInt8), (7 : UInt8), (7 : UInt8), (7 : UInt8), (7 : UInt8), (7 : UInt8), (7 : UInt8), (7 : UInt8), (7 : UInt8), (7 : UInt8), (7 : UInt8), (7 : UInt8), (7 : UInt8), (7 : UInt8), (7 : UInt8), (7 : UInt8), (7 : UInt8), (7 : UInt8), (7 : UInt8), (7 : UInt8)]) ++ ([(8 : UInt8), (8 : UInt8), (8 : UInt8), (8 : UInt8), (8 : UInt8), (8 : UInt8), (8 : UInt8), (8 : UInt8), (8 : UInt8), (8 : UInt8), (8 : UInt8), (8 : UInt8), (8 : UInt8), (8 : UInt8), (8 : UInt8), (8 : UInt8), (8 : UInt8), (8 : UInt8), (8 : UInt8), (8 : UInt8), (8 : UInt8), (8 : UInt8), (8 : UInt8), (8 : UInt8), (8 : UInt8), (8 : UInt8), (8 : UInt8), (8 : UInt8), (8 : UInt8), (8 : UInt8), (8 : UInt8), (8 : UInt8), (8 : UInt8), (8 : UInt8), (8 : UInt8), (8 : UInt8), (8 : UInt8), (8 : UInt8), (8 : UInt8), (8 : UInt8), (8 : UInt8), (8 : UInt8), (8 : UInt8), (8 : UInt8), (8 : UInt8), (8 : UInt8), (8 : UInt8), (8 : UInt8), (8 : UInt8), (8 : UInt8), (8 : UInt8), (8 : UInt8), (8 : UInt8), (8 : UInt8), (8 : UInt8), (8 : UInt8), (8 : UInt8), (8 : UInt8), (8 : UInt8), (8 : UInt8), (8 : UInt8), (8 : UInt8), (8 : UInt8), (8 : UInt8)] ++ [(8 : UInt8), (8 : UInt8), (8 : UInt8), (8 : UInt8), (8 : UInt8), (8 : UInt8), (8 : UInt8), (8 : UInt8), (8 : UInt8), (8 : UInt8), (8 : UInt8), (8 : UInt8), (8 : UInt8), (8 : UInt8), (8 : UInt8), (8 : UInt8), (8 : UInt8), (8 : UInt8), (8 : UInt8), (8 : UInt8), (8 : UInt8), (8 : UInt8), (8 : UInt8), (8 : UInt8), (8 : UInt8), (8 : UInt8), (8 : UInt8), (8 : UInt8), (8 : UInt8), (8 : UInt8), (8 : UInt8), (8 : UInt8), (8 : UInt8), (8 : UInt8), (8 : UInt8), (8 : UInt8), (8 : UInt8), (8 : UInt8), (8 : UInt8), (8 : UInt8), (8 : UInt8), (8 : UInt8), (8 : UInt8), (8 : UInt8), (8 : UInt8), (8 : UInt8), (8 : UInt8), (8 : UInt8), (8 : UInt8), (8 : UInt8), (8 : UInt8), (8 : UInt8), (8 : UInt8), (8 : UInt8), (8 : UInt8), (8 : UInt8), (8 : UInt8), (8 : UInt8), (8 : UInt8), (8 : UInt8), (8 : UInt8), (8 : UInt8), (8 : UInt8), (8 : UInt8)]))
noncomputable def f38' (p0 : Int) : Option Int :=
  let n0 : Bool := (decide ((4294967296 : Int) ≤ p0))
  Option.bind (
    bif n0 then
      let n1 : Int := (Int.fdiv p0 ((2 : Int) ^ (min (Int.toNat (32 : Int)) (64 : Nat))))
      some (n1, (32 : Int))
    else
      some (p0, (0 : Int))) fun (s2 : (Int × Int)) =>
  let n3 : Bool := (decide ((65536 : Int) ≤ s2.1))
  Option.bind (
    bif n3 then
      let n4 : Int := (Int.fdiv s2.1 ((2 : Int) ^ (min (Int.toNat (16 : Int)) (64 : Nat))))
      let n5 : Int := (w64 (s2.2 + (16 : Int)))
      some (n4, n5)
    else
      some (s2.1, s2.2)) fun (s6 : (Int × Int)) =>
  let n7 : Bool := (decide ((256 : Int) ≤ s6.1))
  Option.bind (
    bif n7 then
      let n8 : Int := (Int.fdiv s6.1 ((2 : Int) ^ (min (Int.toNat (8 : Int)) (64 : Nat))))
      let n9 : Int := (w64 (s6.2 + (8 : Int)))
      some (n8, n9)
    else
      some (s6.1, s6.2)) fun (s10 : (Int × Int)) =>
  let n11 : Int := (Go.IntKind.wrap .u8 s10.1)
  ck (inB n11 (List.length len8)) <|
  let n12 : Int := ((UInt8.toNat (List.getD len8 (Int.toNat n11) (0 : UInt8))) : Int)
  let n13 : Int := (w64 n12)
  let n14 : Int := (w64 (s10.2 + n13))
  some n14
theorem f38_eq : f38 = f38' := rfl
theorem len8_ok : ∀ k : Nat, k < 256 → (len8.getD k 0).toNat = bitsLen k := by decide +kernel
theorem len8_len : len8.length = 256 := by decide +kernel
theorem bitsLen_shift {n : Nat} (s : Nat) (h : 2 ^ s ≤ n) : bitsLen (n / 2 ^ s) + s = bitsLen n := by
  have hp : 0 < 2 ^ s := Nat.two_pow_pos s
  have key : ∀ k, bitsLen (n / 2 ^ s) + s ≤ k ↔ bitsLen n ≤ k := by
    intro k
    rw [bitsLen_le_iff n k]
    rcases Nat.lt_or_ge k s with hk | hk
    · have h1 : ¬ n < 2 ^ k := by
        have := Nat.pow_lt_pow_right (a := 2) (by omega) hk
        omega
      constructor
      · intro h2; omega
      · intro h2; exact absurd h2 h1
    · obtain ⟨j, rfl⟩ : ∃ j, k = j + s := ⟨k - s, by omega⟩
      have := bitsLen_le_iff (n / 2 ^ s) j
      rw [Nat.pow_add, ← Nat.div_lt_iff_lt_mul hp, ← this]
      omega
  exact Nat.le_antisymm ((key _).2 (Nat.le_refl _)) ((key _).1 (Nat.le_refl _))
theorem bitsLen_le64 {n : Nat} (h : n < 4294967296) : bitsLen n ≤ 32 := (bitsLen_le_iff n 32).2 h
theorem u8_of {n : Nat} (h : n < 256) : Go.IntKind.wrap .u8 (n : Int) = n := by
  unfold Go.IntKind.wrap
  simp [Go.IntKind.signed, Go.IntKind.bits]
  omega
theorem u64_of {n : Int} (h : 0 ≤ n) (h' : n < 18446744073709551616) : Go.IntKind.wrap .u64 n = n := by
  rw [Go.IntKind.wrap_u64]; omega
theorem len64_eq {n : Nat} (h : n < 4294967296) : f38 n = some (bitsLen n : Int) := by
  rw [f38_eq]
  have hb := bitsLen_le64 h
  have tail : ∀ (m k : Nat), m < 256 → k ≤ 1000 → ck (inB (Go.IntKind.wrap .u8 (m : Int)) (List.length len8)) (some (w64 ((k : Int) + w64 (((len8.getD (Go.IntKind.wrap .u8 (m : Int)).toNat 0).toNat : Nat) : Int)))) = some ((bitsLen m + k : Nat) : Int) := by
    intro m k hm hk
    rw [u8_of hm, len8_len, Int.toNat_natCast, len8_ok m hm]
    have : bitsLen m ≤ 8 := (bitsLen_le_iff m 8).2 hm
    rw [show inB (m : Int) 256 = true from inB_iff.2 (by omega), w64_of (x := ((bitsLen m : Nat) : Int)) (by omega), w64_of (by omega)]
    show some _ = some _
    congr 1; omega
  unfold f38'
  simp only
  rw [show decide ((4294967296 : Int) ≤ (n : Int)) = false from by simp; omega]
  simp only [cond_false, Option.bind_some]
  by_cases h16 : 65536 ≤ n
  · rw [show decide ((65536 : Int) ≤ (n : Int)) = true from by simp; omega]
    simp only [cond_true, Option.bind_some]
    have e1 : Int.fdiv (n : Int) (2 ^ min (Int.toNat 16) 64) = ((n / 2 ^ 16 : Nat) : Int) := by
      rw [Int.fdiv_eq_ediv_of_nonneg _ (by decide)]; rfl
    have g1 := bitsLen_shift 16 (by omega : 2 ^ 16 ≤ n)
    rw [e1, w64_of (x := (0 : Int) + 16) (by omega)]
    by_cases h8 : 256 ≤ n / 2 ^ 16
    · rw [show decide ((256 : Int) ≤ ((n / 2 ^ 16 : Nat) : Int)) = true from by simp; omega]
      simp only [cond_true, Option.bind_some]
      have e2 : Int.fdiv ((n / 2 ^ 16 : Nat) : Int) (2 ^ min (Int.toNat 8) 64) = ((n / 2 ^ 16 / 2 ^ 8 : Nat) : Int) := by
        rw [Int.fdiv_eq_ediv_of_nonneg _ (by decide)]; rfl
      have g2 := bitsLen_shift 8 (by omega : 2 ^ 8 ≤ n / 2 ^ 16)
      rw [e2, w64_of (x := (0 : Int) + 16 + 8) (by omega)]
      have := tail (n / 2 ^ 16 / 2 ^ 8) 24 (by omega) (by omega)
      rw [show ((24 : Nat) : Int) = 0 + 16 + 8 from rfl] at this
      rw [this]; congr 2; omega
    · rw [show decide ((256 : Int) ≤ ((n / 2 ^ 16 : Nat) : Int)) = false from by simp; omega]
      simp only [cond_false, Option.bind_some]
      have := tail (n / 2 ^ 16) 16 (by omega) (by omega)
      rw [show ((16 : Nat) : Int) = 0 + 16 from rfl] at this
      rw [this]; congr 2
  · rw [show decide ((65536 : Int) ≤ (n : Int)) = false from by simp; omega]
    simp only [cond_false, Option.bind_some]
    by_cases h8 : 256 ≤ n
    · rw [show decide ((256 : Int) ≤ (n : Int)) = true from by simp; omega]
      simp only [cond_true, Option.bind_some]
      have e2 : Int.fdiv (n : Int) (2 ^ min (Int.toNat 8) 64) = ((n / 2 ^ 8 : Nat) : Int) := by
        rw [Int.fdiv_eq_ediv_of_nonneg _ (by decide)]; rfl
      have g2 := bitsLen_shift 8 (by omega : 2 ^ 8 ≤ n)
      rw [e2, w64_of (x := (0 : Int) + 8) (by omega)]
      have := tail (n / 2 ^ 8) 8 (by omega) (by omega)
      rw [show ((8 : Nat) : Int) = 0 + 8 from rfl] at this
      rw [this]; congr 2
    · rw [show decide ((256 : Int) ≤ (n : Int)) = false from by simp; omega]
      simp only [cond_false, Option.bind_some]
      have := tail n 0 (by omega) (by omega)
      rw [show ((0 : Nat) : Int) = 0 from rfl] at this
      rw [this]; congr 2
theorem len_eq {n : Nat} (h : n < 4294967296) : f27 n = some (bitsLen n : Int) := by
  unfold f27; rw [len64_eq h]; rfl

theorem xor_eq {r : Nat} (h : r < 18446744073709551616) : f41 r = some ((xorNextN r : Int), (xorNextN r : Int)) := by
  have p : (18446744073709551616 : Nat) = 2 ^ 64 := by decide
  have ha : r ^^^ (r * 8192 % 18446744073709551616) < 18446744073709551616 := by rw [p]; exact Nat.xor_lt_two_pow (by omega) (by omega)
  have hb : (r ^^^ (r * 8192 % 18446744073709551616)) ^^^ ((r ^^^ (r * 8192 % 18446744073709551616)) / 128) < 18446744073709551616 := by
    generalize (r ^^^ (r * 8192 % 18446744073709551616)) = A at ha ⊢
    rw [p]; exact Nat.xor_lt_two_pow (by omega) (by omega)
  unfold f41
  simp only
  have e1 : Go.IntKind.wrap .u64 ((r : Int) * 2 ^ min (Int.toNat 13) 64) = ((r * 8192 % 18446744073709551616 : Nat) : Int) := by
    rw [Go.IntKind.wrap_u64, show (2 : Int) ^ min (Int.toNat 13) 64 = 8192 from rfl]; omega
  rw [e1, bits_xor_u64_nat _ _ h (by omega)]
  have e2 : ∀ x : Nat, Int.fdiv (x : Int) (2 ^ min (Int.toNat 7) 64) = ((x / 128 : Nat) : Int) := fun x => by
    rw [Int.fdiv_eq_ediv_of_nonneg _ (by decide)]; rfl
  rw [e2, bits_xor_u64_nat _ _ ha (by omega)]
  have e3 : ∀ x : Nat, Go.IntKind.wrap .u64 ((x : Int) * 2 ^ min (Int.toNat 17) 64) = ((x * 131072 % 18446744073709551616 : Nat) : Int) := fun x => by
    rw [Go.IntKind.wrap_u64, show (2 : Int) ^ min (Int.toNat 17) 64 = 131072 from rfl]; omega
  rw [e3, bits_xor_u64_nat _ _ hb (by omega)]
  rfl
theorem npot_eq {n : Nat} (h : n ≤ 1000000) : f40 n = some ((2 ^ bitsLen n : Nat) : Int) := by
  unfold f40
  have hb : bitsLen n ≤ 20 := (bitsLen_le_iff n 20).2 (by omega)
  rw [u64_of (n := (n : Int)) (by omega) (by omega)]
  simp only
  rw [len_eq (by omega)]
  simp only [Option.bind_some]
  rw [show decide ((0 : Int) ≤ ((bitsLen n : Nat) : Int)) = true from by simp]
  show some _ = some _
  have e : min (Int.toNat ((bitsLen n : Nat) : Int)) 64 = bitsLen n := by rw [Int.toNat_natCast]; omega
  have hp : 2 ^ bitsLen n ≤ 2 ^ 20 := Nat.pow_le_pow_right (by omega) hb
  rw [e, Int.one_mul, show (2 : Int) ^ bitsLen n = ((2 ^ bitsLen n : Nat) : Int) from by rw [Int.natCast_pow]; rfl]
  generalize 2 ^ bitsLen n = q at hp ⊢
  rw [u64_of (by omega) (by omega)]

theorem break_eq {a b : Nat} {l : List Int} (hab : a ≤ b) (hb : b ≤ l.length) (hl : l.length ≤ 1000000) : f30 a b l = some (breakPatterns l.toArray a b).toList := by
  apply ok_eq
  unfold f30
  simp only [ok_bind, ok_ck, ok_some]
  have em : (b : Int) - a = ((b - a : Nat) : Int) := by omega
  rw [em, w64_of (x := ((b - a : Nat) : Int)) (by omega)]
  refine ok_mono (Q := fun y => y.length = l.length ∧ y = (breakPatterns l.toArray a b).toList) ?_ fun y hy => ⟨by simp [hy.1], hy.2⟩
  unfold breakPatterns
  simp only [ok_bif, dec_iff, dec_iff']
  refine ⟨fun h8 => ?_, fun h8 => ?_⟩
  · rw [if_pos (by omega)]
    rw [npot_eq (by omega), ok_bind, ok_some]
    simp only [ok_bind, ok_some]
    have e4 : w64 ((((b - a : Nat) : Int)).tdiv 4) = (((b - a) / 4 : Nat) : Int) := by rw [show (4 : Int) = ((4 : Nat) : Int) from rfl, tdiv_nat, w64_of (by omega)]
    have e5 : w64 ((((b - a) / 4 : Nat) : Int) * 2) = (((b - a) / 4 * 2 : Nat) : Int) := by rw [w64_of (by omega)]; omega
    rw [e4, e5, w64_of (x := (a : Int) + (((b - a) / 4 * 2 : Nat) : Int)) (by omega), w64_of (x := (a : Int) + (((b - a) / 4 * 2 : Nat) : Int) - 1) (by omega), w64_of (x := (a : Int) + (((b - a) / 4 * 2 : Nat) : Int) + 1) (by omega),
      u64_of (n := ((b - a : Nat) : Int)) (by omega) (by omega)]
    generalize hidx : a + (b - a) / 4 * 2 - 1 = idx
    have hm1 : 2 ^ bitsLen (b - a) ≤ 2 * (b - a) := two_pow_bitsLen_le (by omega)
    have hm0 : 0 < 2 ^ bitsLen (b - a) := Nat.two_pow_pos _
    have hsh : (1 <<< bitsLen (b - a) : Nat) = 2 ^ bitsLen (b - a) := Nat.one_shiftLeft _
    rw [hsh]
    generalize hM : 2 ^ bitsLen (b - a) = M at hm1 hm0
    let stk : Nat → UInt64 × Array Int := fun k => Nat.rec (UInt64.ofNat (b - a), l.toArray) (fun j st => breakStep a (b - a) M st (idx + j)) k
    have hk : ∀ k, stk (k + 1) = breakStep a (b - a) M (stk k) (idx + k) := fun k => rfl
    have hfin : (breakStep a (b - a) M (breakStep a (b - a) M (breakStep a (b - a) M (UInt64.ofNat (b - a), l.toArray) idx) (idx + 1)) (idx + 2)).2 = (stk 3).2 := rfl
    rw [hfin]
    refine ok_loop (fun s : Int × List Int × Int => ∃ k : Nat, k ≤ 3 ∧ s.1 = ((idx + k : Nat) : Int) ∧ s.2.1.toArray = (stk k).2 ∧ s.2.2 = ((stk k).1.toNat : Int) ∧ s.2.1.length = l.length) (fun s => idx + 3 - s.1.toNat)
      ⟨0, by omega, by simp only; omega, rfl, by
        simp only
        show ((b - a : Nat) : Int) = ((UInt64.ofNat (b - a)).toNat : Int)
        rw [UInt64.toNat_ofNat_of_lt' (by show b - a < 18446744073709551616; omega)], rfl⟩ fun s ⟨k, k1, k2, k3, k4, k5⟩ => ?_
    obtain ⟨i, m, r⟩ := s
    simp only at k2 k3 k4 k5
    subst k2; subst k4
    simp only [ok_bif, ok_bind, ok_some, ok_ck, sumQ_inl, sumQ_inr, dec_iff, dec_iff', inB_iff, nn]
    refine ⟨fun hlt => ?_, fun hge => ?_⟩
    · have hr := (stk k).1.toNat_lt
      rw [xor_eq hr, ok_some]
      simp only
      have hx := xorNextN_lt _ hr
      rw [u64_of (n := (M : Int) - 1) (by omega) (by omega), show (M : Int) - 1 = ((M - 1 : Nat) : Int) from by omega, bits_and_u64_nat _ _ hx (by omega)]
      have hand : xorNextN (stk k).1.toNat &&& (M - 1) ≤ M - 1 := Nat.and_le_right
      rw [w64_of (x := ((xorNextN (stk k).1.toNat &&& (M - 1) : Nat) : Int)) (by omega)]
      have step : ∀ o : Nat, o < b - a → (stk (k + 1)).2 = swp (stk k).2 (idx + k) (a + o) → (stk (k + 1)).1.toNat = xorNextN (stk k).1.toNat →
          (0 ≤ w64 ((a : Int) + (o : Int)) ∧ w64 ((a : Int) + (o : Int)) < m.length) ∧ (0 ≤ ((idx + k : Nat) : Int) ∧ ((idx + k : Nat) : Int) < m.length) ∧ (0 ≤ ((idx + k : Nat) : Int) ∧ ((idx + k : Nat) : Int) < m.length) ∧
          (0 ≤ w64 ((a : Int) + (o : Int)) ∧ w64 ((a : Int) + (o : Int)) < (m.set ((idx + k : Nat) : Int).toNat (m.getD (w64 ((a : Int) + (o : Int))).toNat 0)).length) ∧
          (∃ k', k' ≤ 3 ∧ w64 (((idx + k : Nat) : Int) + 1) = ((idx + k' : Nat) : Int) ∧ ((m.set ((idx + k : Nat) : Int).toNat (m.getD (w64 ((a : Int) + (o : Int))).toNat 0)).set (w64 ((a : Int) + (o : Int))).toNat (m.getD ((idx + k : Nat) : Int).toNat 0)).toArray = (stk k').2 ∧
            ((xorNextN (stk k).1.toNat : Nat) : Int) = ((stk k').1.toNat : Int) ∧ ((m.set ((idx + k : Nat) : Int).toNat (m.getD (w64 ((a : Int) + (o : Int))).toNat 0)).set (w64 ((a : Int) + (o : Int))).toNat (m.getD ((idx + k : Nat) : Int).toNat 0)).length = l.length) ∧
          idx + 3 - (w64 (((idx + k : Nat) : Int) + 1)).toNat < idx + 3 - ((idx + k : Nat) : Int).toNat := by
        intro o ho h1 h2
        rw [w64_of (x := (a : Int) + (o : Int)) (by omega), w64_of (x := ((idx + k : Nat) : Int) + 1) (by omega), Int.toNat_natCast, show ((a : Int) + (o : Int)).toNat = a + o from by omega]
        refine ⟨by omega, by omega, by omega, by rw [List.length_set]; omega, ⟨k + 1, by omega, by omega, ?_, by rw [h2], by simp [k5]⟩, by omega⟩
        rw [h1, ← k3, swp_eq]
      have hstk : stk (k + 1) = (xorNext (stk k).1, swp (stk k).2 (idx + k) (a + (if (xorNext (stk k).1).toNat &&& (M - 1) ≥ b - a then ((xorNext (stk k).1).toNat &&& (M - 1)) - (b - a) else (xorNext (stk k).1).toNat &&& (M - 1)))) := rfl
      rw [xorNext_toNat] at hstk
      refine ⟨fun hge => ?_, fun hlt2 => ?_⟩
      · rw [if_pos (by omega)] at hstk
        rw [w64_of (x := ((xorNextN (stk k).1.toNat &&& (M - 1) : Nat) : Int) - ((b - a : Nat) : Int)) (by omega), show ((xorNextN (stk k).1.toNat &&& (M - 1) : Nat) : Int) - ((b - a : Nat) : Int) = (((xorNextN (stk k).1.toNat &&& (M - 1)) - (b - a) : Nat) : Int) from by omega]
        exact step _ (by omega) (by rw [hstk]) (by rw [hstk, xorNext_toNat])
      · rw [if_neg (by omega)] at hstk
        exact step _ (by omega) (by rw [hstk]) (by rw [hstk, xorNext_toNat])
    · have : k = 3 := by omega
      subst this
      exact ⟨k5, by rw [← k3]⟩
  · rw [if_neg (by omega)]
    exact ok_some.2 ⟨rfl, rfl⟩
end Go.Fg.Ytjkkbncbgpfliaa
