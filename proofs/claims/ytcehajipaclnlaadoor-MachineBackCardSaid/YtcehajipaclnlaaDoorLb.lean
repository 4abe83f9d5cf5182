/-
  Chapter 12, plain: the draw of an instruction.
-/
import Derived.Test.YtcehajipaclnlaaDoorLa
namespace Go.Fg.YtcehajipaclnlaaDoor
open Go.Fw
set_option linter.unusedVariables false
set_option linter.unusedSimpArgs false

abbrev CT := Int × (Int × (Int × (Int × (Int × (Int × (Bool × ((List Int) × (Int × (List Int)))))))))
abbrev JT := (List Int) × (Int × (Int × (Int × (Int × (Int × (Int × (Int × Bool)))))))
abbrev ST := (List Int) × (Int × (Int × (Int × (Int × (Int × (Int × (Int × (Bool × (List Int)))))))))
def COk (l : List Int) (y : CT) : Prop := y.2.2.2.2.2.2.2.1 = l ∧ 0 ≤ y.2.2.2.2.2.2.2.2.1 ∧ y.2.2.2.2.2.2.2.2.2.length ≤ 4 ∧ I64 y.2.2.2.2.2.1
def J (l : List Int) (y : JT) : Prop := y.1 = l ∧ 0 ≤ y.2.1 ∧ I64 y.2.2.2.2.2.2.2.1
def SOk (l : List Int) (y : ST) : Prop := y.1 = l ∧ 0 ≤ y.2.1 ∧ I64 y.2.2.2.2.2.2.2.1 ∧ y.2.2.2.2.2.2.2.2.2.length ≤ 4
theorem small64 {v : Int} (h0 : 0 ≤ v) (h : v < 65536) : I64 v := ⟨by show -9223372036854775808 ≤ v; omega, by show v ≤ 9223372036854775807; omega⟩
theorem int_draw {l : List Int} {i : Int} {β : Type} {k : Int × (List Int × Int) → Option β} {Q : β → Prop} (hl : Bytes l) (hi : 0 ≤ i)
    (h : ∀ v j, I64 v → 0 ≤ j → Ok (k (v, (l, j))) Q) : Ok (Option.bind (f15 l i) k) Q := by
  rw [ok_bind]
  refine ok_mono (int_ok hl hi) ?_
  rintro ⟨v, l', j⟩ ⟨h1, h2, h3⟩
  simp only at h1 h2 h3
  subst h2
  exact h v j h1 h3
theorem code_ok {l : List Int} {i : Int} (hl : Bytes l) (hi : 0 ≤ i) : Ok (f8 l i) (COk l) := by
  unfold f8
  refine draw hl hi (by decide) fun v0 i0 a0 b0 c0 => ?_
  refine draw hl c0 (by decide) fun v1 i1 a1 b1 c1 => ?_
  refine draw hl c1 (by decide) fun v2 i2 a2 b2 c2 => ?_
  refine draw hl c2 (by decide) fun v3 i3 a3 b3 c3 => ?_
  refine draw hl c3 (by decide) fun v4 i4 a4 b4 c4 => ?_
  refine draw hl c4 (by decide) fun v5 i5 a5 b5 c5 => ?_
  refine draw hl c5 (by decide) fun v6 i6 a6 b6 c6 => ?_
  refine goB (SOk l) ?_ ?_
  · refine ok_loop (fun s : (Int × ((List Int) × (Int × (Int × (Int × (Int × (Int × (Int × (Int × (Bool × (List Int))))))))))) => 0 ≤ s.1 ∧ s.1 < 4 ∧ s.2.1 = l ∧ 0 ≤ s.2.2.1 ∧ I64 s.2.2.2.2.2.2.2.2.1 ∧ (s.2.2.2.2.2.2.2.2.2.2.length : Int) ≤ 4 - s.1) (fun s => s.1.toNat) ⟨a6, b6, rfl, c6, small64 a5 (Int.lt_trans b5 (by decide)), by simp only [List.length_nil]; omega⟩ ?_
    rintro ⟨n, l', i', op, ar, d, a, b, v, wd, args⟩ ⟨k0, k1, k2, k3, k4, k5⟩
    simp only at k0 k1 k2 k3 k4 k5
    subst k2
    dsimp only
    refine goI (fun h => ?_) fun h => goR ⟨rfl, k3, k4, by simp only; omega⟩
    rw [dec_iff] at h
    refine draw hl k3 (by decide) fun v7 i7 a7 b7 c7 => ?_
    dsimp only
    refine goC (by simp; omega) (goR ?_)
    rw [w64_of (x := n - 1) (by omega)]
    refine ⟨⟨by simp only; omega, by simp only; omega, rfl, c7, k4, by simp; omega⟩, by simp only; omega⟩
  rintro ⟨l', i', op, ar, d, a, b, v, wd, args⟩ ⟨k2, k3, k4, k5⟩
  simp only at k2 k3 k4 k5
  subst k2
  dsimp only
  refine goB (J l') (goI (fun _ => draw hl k3 (by decide) fun v j va vb vc => goR ⟨rfl, vc, k4⟩) fun _ => goR ⟨rfl, k3, k4⟩) ?_
  rintro ⟨l, i', op, ar, d, a, b, v, wd⟩ ⟨k2, k3, k4⟩
  simp only at k2 k3 k4
  subst k2
  dsimp only
  refine goB (J l) (goI (fun _ => draw hl k3 (by decide) fun v j va vb vc => goR ⟨rfl, vc, k4⟩) fun _ => goR ⟨rfl, k3, k4⟩) ?_
  rintro ⟨l', i', op, ar, d, a, b, v, wd⟩ ⟨k2, k3, k4⟩
  simp only at k2 k3 k4
  subst k2
  dsimp only
  refine goB (J l') (goI (fun _ => draw hl k3 (by decide) fun v j va vb vc => goR ⟨rfl, vc, k4⟩) fun _ => goI (fun _ => draw hl k3 (by decide) fun v j va vb vc => goR ⟨rfl, vc, k4⟩) fun _ => goI (fun _ => draw hl k3 (by decide) fun v j va vb vc => goR ⟨rfl, vc, k4⟩) fun _ => goR ⟨rfl, k3, k4⟩) ?_
  rintro ⟨l, i', op, ar, d, a, b, v, wd⟩ ⟨k2, k3, k4⟩
  simp only at k2 k3 k4
  subst k2
  dsimp only
  refine draw hl k3 (by decide) fun v8 i8 a8 b8 c8 => ?_
  dsimp only
  refine goB (J l) ?_ ?_
  · refine goI (fun _ => int_draw hl c8 fun v j va vc => goR ⟨rfl, vc, va⟩) fun _ => ?_
    refine goB (J l) (goI (fun _ => int_draw hl c8 fun v j va vc => int_draw hl vc fun v j va vc => goR ⟨rfl, vc, k4⟩) fun _ => ?_) fun y hy => goR hy
    refine goB (J l) (goI (fun _ => draw hl c8 (by decide) fun v j va vb vc => draw hl vc (by decide) fun v j va vb vc => goR ⟨rfl, vc, k4⟩) fun _ => ?_) fun y hy => goR hy
    refine goB (J l) (goI (fun _ => draw hl c8 (by decide) fun v j va vb vc => ?_) fun _ => goR ⟨rfl, c8, k4⟩) fun y hy => goR hy
    dsimp only
    refine goC (inB_iff.2 ⟨va, by simpa using vb⟩) (goR ⟨rfl, vc, ?_⟩)
    have : ∀ x ∈ [(-128 : Int), (-129 : Int), (127 : Int), (128 : Int), (-2147483648 : Int), (2147483647 : Int), (2147483648 : Int), (31 : Int), (32 : Int), (63 : Int), (64 : Int), (4095 : Int), (4096 : Int)], I64 x := by
      simp [I64]
    dsimp only
    rw [getD_at 0 (by simp; omega)]
    exact this _ (List.getElem_mem _)
  · rintro ⟨l', i', op, ar, d, a, b, v, wd⟩ ⟨k2, k3, k4⟩
    simp only at k2 k3 k4
    subst k2
    exact goR ⟨rfl, k3, k5, k4⟩
end Go.Fg.YtcehajipaclnlaaDoor
