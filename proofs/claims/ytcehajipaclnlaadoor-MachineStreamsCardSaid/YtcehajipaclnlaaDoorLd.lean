/-
  Chapter 12, plain: numbers as bytes.
-/
import Derived.Test.YtcehajipaclnlaaDoorLc
namespace Go.Fg.YtcehajipaclnlaaDoor
open Go.Fw
set_option linter.unusedVariables false
set_option linter.unusedSimpArgs false

def u64n (v : Int) : Nat := (Go.IntKind.wrap .u64 v).toNat
theorem wrap_u64 (v : Int) : Go.IntKind.wrap .u64 v = v % 18446744073709551616 := by
  have e1 : ((2 : Int) ^ (Go.IntKind.u64).bits) = 18446744073709551616 := by decide
  unfold Go.IntKind.wrap; rw [e1]; simp [Go.IntKind.signed]
theorem wrap_u8 (v : Int) : Go.IntKind.wrap .u8 v = v % 256 := by
  have e1 : ((2 : Int) ^ (Go.IntKind.u8).bits) = 256 := by decide
  unfold Go.IntKind.wrap; rw [e1]; simp [Go.IntKind.signed]
theorem wrap_i8 (v : Int) : Go.IntKind.wrap .i8 v = if 128 ≤ v % 256 then v % 256 - 256 else v % 256 := by
  have e1 : ((2 : Int) ^ (Go.IntKind.i8).bits) = 256 := by decide
  have e2 : ((2 : Int) ^ ((Go.IntKind.i8).bits - 1)) = 128 := by decide
  unfold Go.IntKind.wrap; rw [e1, e2]; simp [Go.IntKind.signed]
theorem wrap_i32 (v : Int) : Go.IntKind.wrap .i32 v = if 2147483648 ≤ v % 4294967296 then v % 4294967296 - 4294967296 else v % 4294967296 := by
  have e1 : ((2 : Int) ^ (Go.IntKind.i32).bits) = 4294967296 := by decide
  have e2 : ((2 : Int) ^ ((Go.IntKind.i32).bits - 1)) = 2147483648 := by decide
  unfold Go.IntKind.wrap; rw [e1, e2]; simp [Go.IntKind.signed]
theorem wrap_i64 (v : Int) : w64 v = if 9223372036854775808 ≤ v % 18446744073709551616 then v % 18446744073709551616 - 18446744073709551616 else v % 18446744073709551616 := by
  have e1 : ((2 : Int) ^ (Go.IntKind.i64).bits) = 18446744073709551616 := by decide
  have e2 : ((2 : Int) ^ ((Go.IntKind.i64).bits - 1)) = 9223372036854775808 := by decide
  show Go.IntKind.wrap .i64 v = _
  unfold Go.IntKind.wrap; rw [e1, e2]; simp [Go.IntKind.signed]
theorem u64n_cast (v : Int) : (u64n v : Int) = v % 18446744073709551616 := by
  unfold u64n; rw [wrap_u64, Int.toNat_of_nonneg (Int.emod_nonneg _ (by decide))]
theorem u64n_lt (v : Int) : u64n v < 18446744073709551616 := by
  have := u64n_cast v; omega
/-- the byte i of a number -/
def byteL (v : Int) (i : Nat) : Int := ((u64n v / 256 ^ i % 256 : Nat) : Int)
def putL (v : Int) (n : Nat) : List Int := (List.range n).map (byteL v)
theorem putL_len (v : Int) (n : Nat) : (putL v n).length = n := by simp [putL]
theorem pow8 (i : Nat) : (2 : Nat) ^ (8 * i) = 256 ^ i := by rw [Nat.pow_mul]
theorem put_eq (v : Int) {n : Nat} (hn : n ≤ 8) {l : List Int} (hl : l.length ≤ 1000000) : f22 v (n : Int) l = some (l ++ putL v n) := by
  apply ok_eq
  unfold f22
  dsimp only
  refine goB (fun y => y = l ++ putL v n) ?_ fun y hy => goR hy
  refine ok_for (List.range n) (fun i s => (i, s)) (fun s i => s ++ [byteL v i]) (fun i s => s.length ≤ 1000000 + i) rfl hl ?_ ?_
  · intro i hi s hs _
    dsimp only
    simp only [List.length_range] at hi
    refine goT (by simpa using hi) ?_
    rw [w64_of (x := 8 * (i : Int)) (by omega), w64_of (x := (i : Int) + 1) (by omega)]
    refine goC (by simp; omega) (goC (by simp; omega) (goR ?_))
    refine ⟨?_, by rw [List.length_append, List.length_singleton]; omega⟩
    have e1 : min (Int.toNat (8 * (i : Int))) 64 = 8 * i := by omega
    have e2 : ((2 : Int) ^ (8 * i)) = ((256 ^ i : Nat) : Int) := by rw [← pow8]; simp
    rw [e1, e2, List.getElem_range, wrap_u8, Int.fdiv_eq_ediv_of_nonneg _ (Int.natCast_nonneg _)]
    have e3 : Go.IntKind.wrap .u64 v = (u64n v : Int) := by rw [u64n_cast, wrap_u64]
    rw [e3]
    rfl
  · intro s hs he
    dsimp only
    refine goF (by simp) (goR ?_)
    show s = _
    rw [he]
    have : ∀ (l : List Nat) (acc : List Int), l.foldl (fun s i => s ++ [byteL v i]) acc = acc ++ l.map (byteL v) := by
      intro l
      induction l with
      | nil => simp
      | cons x l ih => intro acc; rw [List.foldl_cons, ih]; simp
    exact this _ _

/-- what lies at a place -/
def At (data : List Int) (p : Nat) (bs : List Int) : Prop := ∀ i, i < bs.length → data[p + i]? = bs[i]?
theorem at_append {data : List Int} {p : Nat} {a b : List Int} (h : At data p (a ++ b)) : At data p a ∧ At data (p + a.length) b := by
  refine ⟨fun i hi => ?_, fun i hi => ?_⟩
  · rw [h i (by rw [List.length_append]; omega), List.getElem?_append_left hi]
  · rw [Nat.add_assoc, h (a.length + i) (by rw [List.length_append]; omega), List.getElem?_append_right (by omega)]
    congr 1; omega
theorem at_mid (head bs tail : List Int) : At (head ++ bs ++ tail) head.length bs := by
  intro i hi
  rw [List.append_assoc, List.getElem?_append_right (by omega), List.getElem?_append_left (by omega)]
  congr 1; omega
theorem at_len {data : List Int} {p : Nat} {bs : List Int} (h : At data p bs) (h0 : 0 < bs.length) : p + bs.length ≤ data.length := by
  have := h (bs.length - 1) (by omega)
  rw [List.getElem?_eq_getElem (l := bs) (by omega)] at this
  have := (List.getElem?_eq_some_iff.1 this).1
  omega
theorem bits_or {a b : Nat} (ha : a < 18446744073709551616) (hb : b < 18446744073709551616) : Go.bits .or .u64 (a : Int) (b : Int) = ((a ||| b : Nat) : Int) := by
  unfold Go.bits
  dsimp only
  rw [wrap_u64]
  have e : ∀ n : Nat, n < 18446744073709551616 → (BitVec.ofInt (Go.IntKind.u64).bits (n : Int)).toNat = n := by
    intro n h
    rw [BitVec.toNat_ofInt]
    have : (((2 ^ (Go.IntKind.u64).bits : Nat)) : Int) = 18446744073709551616 := by decide
    rw [this]; omega
  rw [BitVec.toNat_or, e a ha, e b hb]
  have h64 : a ||| b < 2 ^ 64 := Nat.or_lt_two_pow (by simpa using ha) (by simpa using hb)
  have : a ||| b < 18446744073709551616 := by simpa using h64
  omega
theorem get_eq {v : Int} {n : Nat} (hn : 1 ≤ n ∧ n ≤ 8) {data : List Int} {p : Nat} (h : At data p (putL v n)) (hd : data.length ≤ 1000000000) :
    f25 (n : Int) data (p : Int) false = some (w64 ((u64n v % 256 ^ n : Nat) : Int), (data, ((p : Int) + n, false))) := by
  have hlen := at_len h (by rw [putL_len]; omega)
  rw [putL_len] at hlen
  apply ok_eq
  unfold f25
  dsimp only
  refine goB (fun y => y = (data, ((p : Int), false))) (goF rfl (goR ?_)) fun y hy => ?_
  · rw [w64_of (by omega)]
    have : decide (((data.length : Int) - (p : Int)) < (n : Int)) = false := by simp; omega
    rw [this]
  subst hy
  dsimp only
  refine goF rfl (goB (fun y => y = ((u64n v % 256 ^ n : Nat) : Int)) ?_ fun y hy => goR ?_)
  · refine ok_for (List.range n) (fun i s => (s, i)) (fun s i => ((u64n v % 256 ^ (i + 1) : Nat) : Int)) (fun i s => s = ((u64n v % 256 ^ i : Nat) : Int)) rfl (by simp [Nat.mod_one]) ?_ ?_
    · intro i hi s hs _
      simp only [List.length_range] at hi
      dsimp only
      refine goT (by simpa using hi) ?_
      rw [w64_of (x := (p : Int) + i) (by omega)]
      refine goC (inB_iff.2 ⟨by omega, by omega⟩) ?_
      rw [w64_of (x := 8 * (i : Int)) (by omega), w64_of (x := (i : Int) + 1) (by omega)]
      refine goC (by simp; omega) (goR ?_)
      have hb : data.getD (Int.toNat ((p : Int) + i)) 0 = byteL v i := by
        have e : Int.toNat ((p : Int) + i) = p + i := by omega
        have := h i (by rw [putL_len]; exact hi)
        rw [e, List.getD_eq_getElem?_getD, this]
        simp [putL, hi]
      have e1 : min (Int.toNat (8 * (i : Int))) 64 = 8 * i := by omega
      have e2 : ((2 : Int) ^ (8 * i)) = ((256 ^ i : Nat) : Int) := by rw [← pow8]; simp
      have hlt : u64n v / 256 ^ i % 256 < 256 := Nat.mod_lt _ (by decide)
      have hpow : 256 * 256 ^ i ≤ 18446744073709551616 := by
        have : 256 * 256 ^ i = 256 ^ (i + 1) := by rw [Nat.pow_succ, Nat.mul_comm]
        rw [this]
        exact Nat.le_trans (Nat.pow_le_pow_right (by decide) (show i + 1 ≤ 8 by omega)) (by decide)
      have hpos : 0 < 256 ^ i := Nat.pow_pos (by decide)
      have hmul : u64n v / 256 ^ i % 256 * 256 ^ i < 18446744073709551616 := by
        have : u64n v / 256 ^ i % 256 * 256 ^ i < 256 * 256 ^ i := (Nat.mul_lt_mul_right hpos).2 hlt
        omega
      have hacc : u64n v % 256 ^ i < 256 ^ i := Nat.mod_lt _ hpos
      have ew : Go.IntKind.wrap .u64 (byteL v i) = byteL v i := by
        rw [wrap_u64]; unfold byteL; omega
      have ew2 : Go.IntKind.wrap .u64 (byteL v i * ((256 ^ i : Nat) : Int)) = ((u64n v / 256 ^ i % 256 * 256 ^ i : Nat) : Int) := by
        rw [wrap_u64]
        unfold byteL
        rw [← Int.natCast_mul]
        omega
      rw [hb, e1, e2, ew, ew2, hs, bits_or (by omega) hmul, List.getElem_range]
      have e3 : (u64n v % 256 ^ i ||| u64n v / 256 ^ i % 256 * 256 ^ i) = u64n v % 256 ^ (i + 1) := by
        have h1 := Nat.shiftLeft_add_eq_or_of_lt (b := u64n v % 256 ^ i) (i := 8 * i) (by rw [pow8]; exact hacc) (u64n v / 256 ^ i % 256)
        rw [Nat.shiftLeft_eq, pow8] at h1
        rw [Nat.or_comm, ← h1, Nat.pow_succ, Nat.mod_mul, Nat.mul_comm (256 ^ i), Nat.add_comm]
      rw [e3]
      exact ⟨rfl, rfl⟩
    · intro s hs _
      dsimp only
      rw [List.length_range] at hs
      exact goF (by simp) (goR hs)
  · subst hy
    rw [w64_of (x := (p : Int) + n) (by omega)]
/-- A number that fits in its bytes comes back. -/
theorem get_back {v : Int} {n : Nat} (hn : 1 ≤ n ∧ n ≤ 8) {data : List Int} {p : Nat} (h : At data p (putL v n)) (hd : data.length ≤ 1000000000) (hv : 0 ≤ v) (hv' : v < ((256 ^ n : Nat) : Int)) (h64 : I64 v) :
    f25 (n : Int) data (p : Int) false = some (v, (data, ((p : Int) + n, false))) := by
  have h64' : v ≤ 9223372036854775807 := h64.2
  rw [get_eq hn h hd]
  have e : u64n v = v.toNat := by have := u64n_cast v; omega
  have e2 : v.toNat % 256 ^ n = v.toNat := Nat.mod_eq_of_lt (by omega)
  rw [e, e2, Int.toNat_of_nonneg hv, w64_of (by omega)]
theorem get1 {v : Int} {data : List Int} {p : Nat} (h : At data p (putL v 1)) (hd : data.length ≤ 1000000000) (hv : 0 ≤ v ∧ v ≤ 255) :
    f25 1 data (p : Int) false = some (v, (data, ((p : Int) + 1, false))) :=
  get_back (n := 1) ⟨by decide, by decide⟩ h hd hv.1 (by show v < 256; omega) ⟨by show -9223372036854775808 ≤ v; omega, by show v ≤ 9223372036854775807; omega⟩
theorem get2 {v : Int} {data : List Int} {p : Nat} (h : At data p (putL v 2)) (hd : data.length ≤ 1000000000) (hv : 0 ≤ v ∧ v ≤ 65535) :
    f25 2 data (p : Int) false = some (v, (data, ((p : Int) + 2, false))) :=
  get_back (n := 2) ⟨by decide, by decide⟩ h hd hv.1 (by show v < 65536; omega) ⟨by show -9223372036854775808 ≤ v; omega, by show v ≤ 9223372036854775807; omega⟩
theorem get4 {v : Int} {data : List Int} {p : Nat} (h : At data p (putL v 4)) (hd : data.length ≤ 1000000000) (hv : 0 ≤ v ∧ v ≤ 4294967295) :
    f25 4 data (p : Int) false = some (v, (data, ((p : Int) + 4, false))) :=
  get_back (n := 4) ⟨by decide, by decide⟩ h hd hv.1 (by show v < 4294967296; omega) ⟨by show -9223372036854775808 ≤ v; omega, by show v ≤ 9223372036854775807; omega⟩
theorem get8 {v : Int} {data : List Int} {p : Nat} (h : At data p (putL v 8)) (hd : data.length ≤ 1000000000) (hv : I64 v) :
    f25 8 data (p : Int) false = some (v, (data, ((p : Int) + 8, false))) := by
  have h0 : -9223372036854775808 ≤ v := hv.1
  have h1 : v ≤ 9223372036854775807 := hv.2
  have := get_eq (n := 8) ⟨by decide, by decide⟩ h hd
  rw [show ((8 : Nat) : Int) = 8 from rfl] at this
  rw [this]
  have e2 : u64n v % 256 ^ 8 = u64n v := Nat.mod_eq_of_lt (u64n_lt v)
  rw [e2, u64n_cast, wrap_i64]
  have : (if 9223372036854775808 ≤ v % 18446744073709551616 % 18446744073709551616 then v % 18446744073709551616 % 18446744073709551616 - 18446744073709551616 else v % 18446744073709551616 % 18446744073709551616) = v := by
    split <;> omega
  rw [this]
theorem signed_eq {v : Int} {wd : Bool} {data : List Int} {p : Nat} (h : At data p (putL v (if wd then 4 else 1))) (hd : data.length ≤ 1000000000)
    (hv : if wd then -2147483648 ≤ v ∧ v ≤ 2147483647 else -128 ≤ v ∧ v ≤ 127) :
    f26 wd data (p : Int) false = some (v, (data, ((p : Int) + (if wd then 4 else 1), false))) := by
  unfold f26 f23
  have hu := u64n_cast v
  cases wd with
  | true =>
    simp only [if_true] at h hv
    have := get_eq (n := 4) ⟨by decide, by decide⟩ h hd
    rw [show ((4 : Nat) : Int) = 4 from rfl] at this
    simp only [cond_true, Option.bind, this, if_true]
    have e : w64 (Go.IntKind.wrap .i32 (w64 ((u64n v % 256 ^ 4 : Nat) : Int))) = v := by
      rw [w64_of (x := ((u64n v % 256 ^ 4 : Nat) : Int)) (by omega), wrap_i32]
      rw [w64_of (by split <;> omega)]
      split <;> omega
    rw [e]
  | false =>
    simp only [if_false, Bool.false_eq_true] at h hv
    have := get_eq (n := 1) ⟨by decide, by decide⟩ h hd
    rw [show ((1 : Nat) : Int) = 1 from rfl] at this
    simp only [cond_false, Option.bind, this, if_false, Bool.false_eq_true]
    have e : w64 (Go.IntKind.wrap .i8 (w64 ((u64n v % 256 ^ 1 : Nat) : Int))) = v := by
      rw [w64_of (x := ((u64n v % 256 ^ 1 : Nat) : Int)) (by omega), wrap_i8]
      rw [w64_of (by split <;> omega)]
      split <;> omega
    rw [e]
end Go.Fg.YtcehajipaclnlaaDoor
