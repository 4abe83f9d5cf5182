/-
  PLAIN MATHEMATICS OF CHAPTER 2: the mixing of 64 bits is injective: shown over bit vectors, carried to the integers in which the model computes.
-/
import Derived.WalkKit
namespace Go.Proofs.Ytjkkbncbgpfliaa.Fp

/-- x xor x / 2^33 is injective. -/
theorem shift_inj (x y : BitVec 64) (h : x ^^^ (x >>> 33) = y ^^^ (y >>> 33)) : x = y := by
  apply BitVec.eq_of_getLsbD_eq
  intro i hi
  have key : ∀ j, j < 64 → (x.getLsbD j ^^ x.getLsbD (33 + j)) = (y.getLsbD j ^^ y.getLsbD (33 + j)) := by
    intro j hj
    have := congrArg (fun b => b.getLsbD j) h
    simpa using this
  by_cases h33 : 33 + i < 64
  · have h1 := key i hi
    have h2 := key (33 + i) h33
    have e1 : x.getLsbD (33 + (33 + i)) = false := BitVec.getLsbD_of_ge _ _ (by omega)
    have e2 : y.getLsbD (33 + (33 + i)) = false := BitVec.getLsbD_of_ge _ _ (by omega)
    rw [e1, e2] at h2
    simp at h2
    rw [h2] at h1
    simpa using h1
  · have h1 := key i hi
    have e1 : x.getLsbD (33 + i) = false := BitVec.getLsbD_of_ge _ _ (by omega)
    have e2 : y.getLsbD (33 + i) = false := BitVec.getLsbD_of_ge _ _ (by omega)
    rw [e1, e2] at h1
    simpa using h1

/-- A product with a number that has an inverse is injective. -/
theorem mul_inj (c d : BitVec 64) (hcd : c * d = 1#64) (x y : BitVec 64) (h : x * c = y * c) : x = y := by
  have : x * c * d = y * c * d := by rw [h]
  rw [BitVec.mul_assoc, BitVec.mul_assoc, hcd, BitVec.mul_one, BitVec.mul_one] at this
  exact this

def scrV (x : BitVec 64) : BitVec 64 :=
  let a := (x ^^^ (x >>> 33)) * 0xFF51AFD7ED558CCD#64
  let b := (a ^^^ (a >>> 33)) * 0xC4CEB9FE1A85EC53#64
  b ^^^ (b >>> 33)

theorem scrV_inj (x y : BitVec 64) (h : scrV x = scrV y) : x = y := by
  unfold scrV at h
  have h1 := shift_inj _ _ h
  have h2 := mul_inj 0xC4CEB9FE1A85EC53#64 0x9cb4b2f8129337db#64 (by decide) _ _ h1
  have h3 := shift_inj _ _ h2
  have h4 := mul_inj 0xFF51AFD7ED558CCD#64 0x4f74430c22a54005#64 (by decide) _ _ h3
  exact shift_inj _ _ h4

/-! ### The same over the model's integers -/
open Go

def mixI (x : Int) : Int := bits BinOp.xor IntKind.u64 x (x / 8589934592)
def mulI (x c : Int) : Int := IntKind.u64.wrap (x * c)
def scrI (x : Int) : Int := mixI (mulI (mixI (mulI (mixI x) 18397679294719823053)) 14181476777654086739)
def joinI (a b : Int) : Int := scrI (IntKind.u64.wrap (a + IntKind.u64.wrap (11400714819323198485 * scrI (IntKind.u64.wrap (b + 1)))))

theorem wrap_u64' (n : Int) : IntKind.u64.wrap n = n % 18446744073709551616 := by simp [IntKind.wrap, IntKind.bits, IntKind.signed]
theorem wrap_toNat (n : Int) : IntKind.u64.wrap n = ((BitVec.ofInt 64 n).toNat : Int) := by
  rw [wrap_u64', BitVec.toNat_ofInt, Int.toNat_of_nonneg (Int.emod_nonneg _ (by decide))]; rfl
theorem ofInt_cast (b : BitVec 64) : BitVec.ofInt 64 (b.toNat : Int) = b := by
  apply BitVec.eq_of_toNat_eq
  rw [BitVec.toNat_ofInt]
  have := b.isLt
  omega
theorem wrap_cast (b : BitVec 64) : IntKind.u64.wrap (b.toNat : Int) = b.toNat := by rw [wrap_toNat, ofInt_cast]
theorem mix_cast (b : BitVec 64) : mixI (b.toNat : Int) = ((b ^^^ (b >>> 33)).toNat : Int) := by
  have e : BitVec.ofInt 64 ((b.toNat : Int) / 8589934592) = b >>> 33 := by
    have : ((b.toNat : Int) / (8589934592 : Int)) = ((b >>> 33).toNat : Int) := by
      rw [BitVec.toNat_ushiftRight, Nat.shiftRight_eq_div_pow]; rfl
    exact (congrArg (BitVec.ofInt 64) this).trans (ofInt_cast _)
  unfold mixI bits
  show IntKind.u64.wrap ((BitVec.ofInt 64 (b.toNat : Int) ^^^ BitVec.ofInt 64 ((b.toNat : Int) / 8589934592)).toNat : Int) = _
  rw [ofInt_cast, e, wrap_cast]
theorem mul_cast (b c : BitVec 64) : mulI (b.toNat : Int) (c.toNat : Int) = ((b * c).toNat : Int) := by
  unfold mulI
  rw [wrap_u64', BitVec.toNat_mul]; rfl
theorem scr_cast (b : BitVec 64) : scrI (b.toNat : Int) = ((scrV b).toNat : Int) := by
  unfold scrI scrV
  have c1 : (18397679294719823053 : Int) = ((0xFF51AFD7ED558CCD#64).toNat : Int) := rfl
  have c2 : (14181476777654086739 : Int) = ((0xC4CEB9FE1A85EC53#64).toNat : Int) := rfl
  rw [c1, c2, mix_cast, mul_cast, mix_cast, mul_cast, mix_cast]
theorem cast_of (x : Int) (h0 : 0 ≤ x) (h1 : x < 18446744073709551616) : ∃ b : BitVec 64, x = (b.toNat : Int) :=
  ⟨BitVec.ofInt 64 x, by rw [← wrap_toNat, wrap_u64', Int.emod_eq_of_lt h0 h1]⟩
theorem scrI_range (x : Int) (h0 : 0 ≤ x) (h1 : x < 18446744073709551616) : 0 ≤ scrI x ∧ scrI x < 18446744073709551616 := by
  obtain ⟨b, rfl⟩ := cast_of x h0 h1
  rw [scr_cast]
  have := (scrV b).isLt
  omega
theorem scrI_inj (x y : Int) (h0 : 0 ≤ x) (h1 : x < 18446744073709551616) (g0 : 0 ≤ y) (g1 : y < 18446744073709551616) (h : scrI x = scrI y) : x = y := by
  obtain ⟨b, rfl⟩ := cast_of x h0 h1
  obtain ⟨c, rfl⟩ := cast_of y g0 g1
  rw [scr_cast, scr_cast] at h
  have := scrV_inj b c (BitVec.eq_of_toNat_eq (by omega))
  rw [this]
theorem add_inj (a b c : Int) (h0 : 0 ≤ a) (h1 : a < 18446744073709551616) (g0 : 0 ≤ b) (g1 : b < 18446744073709551616) (h : IntKind.u64.wrap (a + c) = IntKind.u64.wrap (b + c)) : a = b := by
  simp only [wrap_u64'] at h
  omega
theorem wrap_range (n : Int) : 0 ≤ IntKind.u64.wrap n ∧ IntKind.u64.wrap n < 18446744073709551616 := by
  rw [wrap_u64']; omega
theorem joinI_inj_left (a b c : Int) (h0 : 0 ≤ a) (h1 : a < 18446744073709551616) (g0 : 0 ≤ b) (g1 : b < 18446744073709551616) (h : joinI a c = joinI b c) : a = b := by
  unfold joinI at h
  have := scrI_inj _ _ (wrap_range _).1 (wrap_range _).2 (wrap_range _).1 (wrap_range _).2 h
  exact add_inj _ _ _ h0 h1 g0 g1 this
theorem joinI_inj_right (a b c : Int) (h0 : 0 ≤ a) (h1 : a < 18446744073709551616) (g0 : 0 ≤ b) (g1 : b < 18446744073709551616) (h : joinI c a = joinI c b) : a = b := by
  unfold joinI at h
  have h2 := scrI_inj _ _ (wrap_range _).1 (wrap_range _).2 (wrap_range _).1 (wrap_range _).2 h
  rw [Int.add_comm c, Int.add_comm c] at h2
  have h3 := add_inj _ _ _ (wrap_range _).1 (wrap_range _).2 (wrap_range _).1 (wrap_range _).2 h2
  have ra := scrI_range _ (wrap_range (a + 1)).1 (wrap_range (a + 1)).2
  have rb := scrI_range _ (wrap_range (b + 1)).1 (wrap_range (b + 1)).2
  obtain ⟨u, hu⟩ := cast_of _ ra.1 ra.2
  obtain ⟨v, hv⟩ := cast_of _ rb.1 rb.2
  have c3 : (11400714819323198485 : Int) = ((0x9E3779B97F4A7C15#64).toNat : Int) := rfl
  rw [hu, hv, Int.mul_comm _ (u.toNat : Int), Int.mul_comm _ (v.toNat : Int), c3] at h3
  have h4 : mulI (u.toNat : Int) ((0x9E3779B97F4A7C15#64).toNat : Int) = mulI (v.toNat : Int) ((0x9E3779B97F4A7C15#64).toNat : Int) := h3
  rw [mul_cast, mul_cast] at h4
  have h5 := mul_inj 0x9E3779B97F4A7C15#64 0xf1de83e19937733d#64 (by decide) u v (BitVec.eq_of_toNat_eq (by omega))
  have h6 : scrI (IntKind.u64.wrap (a + 1)) = scrI (IntKind.u64.wrap (b + 1)) := by rw [hu, hv, h5]
  have h7 := scrI_inj _ _ (wrap_range _).1 (wrap_range _).2 (wrap_range _).1 (wrap_range _).2 h6
  exact add_inj _ _ _ h0 h1 g0 g1 h7

/-- x with one bit turned is another number. -/
theorem flip_ne (x : Int) (h0 : 0 ≤ x) (h1 : x < 18446744073709551616) (k : Nat) (hk : k < 64) :
    bits BinOp.xor IntKind.u64 x (IntKind.u64.wrap (2 ^ k)) ≠ x ∧ 0 ≤ bits BinOp.xor IntKind.u64 x (IntKind.u64.wrap (2 ^ k)) ∧
      bits BinOp.xor IntKind.u64 x (IntKind.u64.wrap (2 ^ k)) < 18446744073709551616 := by
  obtain ⟨b, rfl⟩ := cast_of x h0 h1
  have e : IntKind.u64.wrap (2 ^ k) = ((BitVec.twoPow 64 k).toNat : Int) := by
    rw [wrap_toNat]
    congr 2
    apply BitVec.eq_of_toNat_eq
    rw [BitVec.toNat_ofInt, BitVec.toNat_twoPow]
    have : ((2 : Int) ^ k) = ((2 ^ k : Nat) : Int) := by rw [Int.natCast_pow]; rfl
    rw [this]
    omega
  rw [e]
  unfold bits
  show IntKind.u64.wrap ((BitVec.ofInt 64 (b.toNat : Int) ^^^ BitVec.ofInt 64 ((BitVec.twoPow 64 k).toNat : Int)).toNat : Int) ≠ _ ∧ _
  rw [ofInt_cast, ofInt_cast, wrap_cast]
  have hr := (b ^^^ BitVec.twoPow 64 k).isLt
  refine ⟨fun h => ?_, ?_⟩
  · have hb : b ^^^ BitVec.twoPow 64 k = b := BitVec.eq_of_toNat_eq (by omega)
    have := congrArg (fun v => v.getLsbD k) hb
    simp [hk] at this
  · show 0 ≤ IntKind.u64.wrap ((BitVec.ofInt 64 (b.toNat : Int) ^^^ BitVec.ofInt 64 ((BitVec.twoPow 64 k).toNat : Int)).toNat : Int) ∧ IntKind.u64.wrap ((BitVec.ofInt 64 (b.toNat : Int) ^^^ BitVec.ofInt 64 ((BitVec.twoPow 64 k).toNat : Int)).toNat : Int) < _
    rw [ofInt_cast, ofInt_cast, wrap_cast]
    omega
end Go.Proofs.Ytjkkbncbgpfliaa.Fp
