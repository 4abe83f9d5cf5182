/-
  Chapter 12, plain: the laws of back and streams.
-/
import Derived.Test.YtcehajipaclnlaaDoorLi
namespace Go.Fg.YtcehajipaclnlaaDoor
open Go.Fw
set_option linter.unusedVariables false
set_option linter.unusedSimpArgs false

theorem equal_refl {a : List Int} (h : a.length ≤ 1099511627776) : f14 a a = some true := by
  apply ok_eq
  unfold f14
  dsimp only
  refine goF (by simp) (goE (fun _ => True) ?_ fun _ _ => goR rfl)
  refine ok_for a (fun i _ => i) (fun s _ => s) (fun i (_ : Unit) => True) (s0 := ()) rfl trivial ?_ ?_
  · intro i hi s _ _
    refine goT (by simpa using hi) (goC (inB_iff.2 (by omega)) (goC (inB_iff.2 (by omega)) (goF (by simp) (goR ?_))))
    rw [w64_of (by omega)]
    exact ⟨rfl, trivial⟩
  · intro s _ _
    exact goF (by simp) (goR trivial)
theorem back_ok {l h t : List Int} (hl : Bytes l) (hh : Bytes h) (ht : Bytes t) : f5 l h t = some true := by
  apply ok_eq
  unfold f5
  have hh' : h.length ≤ 9223372036854775807 := hh.1
  refine goB (fun y => y = (decide ((300 : Int) < h.length) || decide ((300 : Int) < t.length))) ?_ fun y hy => ?_
  · refine goS f6_ok (goF rfl (goI (fun h1 => goR ?_) fun h1 => goR ?_))
    · rw [h1]; rfl
    · rw [h1]; rfl
  subst hy
  refine goI (fun h1 => ?_) fun h1 => ?_
  · refine goB (fun y => y = true) (goI (fun h2 => goR rfl) fun h2 => goR ?_) fun y hy => goR hy
    rw [h2, Bool.false_or] at h1
    exact h1
  rw [Bool.or_eq_false_iff, decide_eq_false_iff_not, decide_eq_false_iff_not] at h1
  refine goB _ (new_ok hl (by decide)) ?_
  rintro ⟨l0, i0⟩ ⟨hi, hl0⟩
  simp only at hi hl0
  subst hi
  refine goB _ (code_ok hl0 (by simp)) ?_
  rintro ⟨op, ar, d, a, b, v, wd, l1, i1, args⟩ ⟨q1, q2, q3, q4⟩
  simp only at q1 q2 q3 q4
  dsimp only
  rw [f12_eq op ar d a b v wd args (by omega), f10_eq op ar d a b v wd args (by omega)]
  by_cases hc : chk op ar d a b v wd args = 0
  · rw [if_pos hc, if_pos hc]
    have hle := encL_len op ar d a b v wd args
    refine goS rfl (goF rfl (goC (by simp; omega) (goC (by simp; omega) (goC (by simp; omega) ?_))))
    dsimp only
    rw [List.nil_append]
    have hlen : (h ++ encL op ar d a b v wd args ++ t).length ≤ 1000000000 := by
      rw [List.length_append, List.length_append]; omega
    obtain ⟨s, hs⟩ : ∃ s, s = canon op ar d a b v args := ⟨_, rfl⟩
    refine goS (f13_ok hc q4 (by omega) hlen (at_mid h _ t) hs) ?_
    dsimp only
    obtain ⟨c1, c2, c3⟩ := canon_ok (wd := wd) hc hs
    rw [f12_eq _ _ _ _ _ _ _ _ (by omega), if_pos c1, c2]
    refine goS rfl (goB (fun y => y = true) ?_ fun y hy => goR hy)
    refine goT (by simp) (goT (by simp) (goT (by simp) ?_))
    dsimp only
    rw [equal_refl (by omega)]
    refine goS rfl (goT rfl (goS rfl (goT (by simp) (goR (by simp)))))
  · rw [if_neg hc, if_neg hc]
    refine goS rfl (goT (by simpa using hc) (goB (fun y => y = true) (goT rfl (goS rfl (goR rfl))) fun y hy => goR hy))

/-- a chunk of bytes that is one instruction -/
def Chunk (c : List Int) : Prop := (1 ≤ c.length ∧ c.length ≤ 100) ∧ ∀ (data : List Int) (p : Nat), data.length ≤ 1000000000 → At data p c → Ok (f13 data (p : Int)) fun y => y.2.2.2.2.2.2.2.1 = (c.length : Int) ∧ y.2.2.2.2.2.2.2.2.1 = 0
theorem chunk_of {op ar d a b v : Int} {wd : Bool} {args : List Int} (h : chk op ar d a b v wd args = 0) (hv : I64 v) (ha : args.length ≤ 4) : Chunk (encL op ar d a b v wd args) := by
  have hle := encL_len op ar d a b v wd args
  refine ⟨⟨hle.1, by omega⟩, fun data p hd hat => ?_⟩
  exact ok_of (f13_ok h hv (by omega) hd hat rfl) ⟨rfl, rfl⟩
theorem flatten_len {cs : List (List Int)} (h : ∀ c ∈ cs, c.length ≤ 100) : cs.flatten.length ≤ cs.length * 100 := by
  induction cs with
  | nil => simp
  | cons c cs ih =>
    have h1 := h c (by simp)
    have h2 := ih fun c hc => h c (by simp [hc])
    rw [List.flatten_cons, List.length_append, List.length_cons, Nat.add_mul]; omega
theorem sum_take (cs : List (List Int)) : ∀ a : Int, (cs.map fun c => (c.length : Int)).foldl (fun s x => s + x) a = a + (cs.flatten.length : Int) := by
  induction cs with
  | nil => simp
  | cons c cs ih => intro a; rw [List.map_cons, List.foldl_cons, ih, List.flatten_cons, List.length_append]; omega
theorem streams_ok {l : List Int} (hl : Bytes l) : f4 l = some true := by
  apply ok_eq
  unfold f4
  refine goS f6_ok (goF rfl (goB _ (new_ok hl (by decide)) ?_))
  rintro ⟨l0, i0⟩ ⟨hi, hl0⟩
  simp only at hi hl0
  subst hi
  refine draw hl0 (by simp) (by decide) fun v0 j0 va vb vc => ?_
  dsimp only
  refine goB (fun y : List Int × List Int => ∃ cs : List (List Int), cs.length ≤ 12 ∧ y.1 = cs.flatten ∧ y.2 = cs.map (fun c => (c.length : Int)) ∧ ∀ c ∈ cs, Chunk c) ?_ ?_
  · refine ok_loop (fun s : Int × (List Int × (Int × (List Int × List Int))) => 0 ≤ s.1 ∧ s.1 ≤ 12 ∧ s.2.1 = l0 ∧ 0 ≤ s.2.2.1 ∧ ∃ cs : List (List Int), (cs.length : Int) ≤ 12 - s.1 ∧ s.2.2.2.1 = cs.flatten ∧ s.2.2.2.2 = cs.map (fun c => (c.length : Int)) ∧ ∀ c ∈ cs, Chunk c) (fun s => s.1.toNat)
      ⟨va, by simp only; omega, rfl, vc, [], by simp only [List.length_nil]; omega, rfl, rfl, by simp⟩ ?_
    rintro ⟨n, l', i', buf, sizes⟩ ⟨k0, k1, k2, k3, cs, k4, k5, k6, k7⟩
    simp only at k0 k1 k2 k3 k4 k5 k6
    subst k2 k5 k6
    dsimp only
    refine goI (fun h => ?_) fun h => goR ⟨cs, by omega, rfl, rfl, k7⟩
    rw [dec_iff] at h
    refine goB _ (code_ok hl0 k3) ?_
    rintro ⟨op, ar, d, a, b, v, wd, l1, i1, args⟩ ⟨q1, q2, q3, q4⟩
    simp only at q1 q2 q3 q4
    subst q1
    dsimp only
    rw [f12_eq op ar d a b v wd args (by omega)]
    refine goS rfl ?_
    have hfl := flatten_len fun c hc => (k7 c hc).1.2
    have hcs : cs.length ≤ 12 := by omega
    by_cases hc : chk op ar d a b v wd args = 0
    · rw [if_pos hc]
      have hle := encL_len op ar d a b v wd args
      refine goB (fun y => y = (cs.flatten ++ encL op ar d a b v wd args, (cs.map fun c => (c.length : Int)) ++ [((encL op ar d a b v wd args).length : Int)])) (goT rfl (goC (by simp only [Bool.true_and, decide_eq_true_eq]; omega) (goC (by simp; omega) (goR rfl)))) fun y hy => ?_
      subst hy
      refine goR ?_
      rw [w64_of (by omega)]
      refine ⟨⟨by omega, by omega, rfl, q2, cs ++ [encL op ar d a b v wd args], by simp; omega, by simp, by simp, ?_⟩, by omega⟩
      intro c hc'
      rcases List.mem_append.1 hc' with hc' | hc'
      · exact k7 c hc'
      · rw [List.mem_singleton] at hc'; subst hc'; exact chunk_of hc q4 (by omega)
    · rw [if_neg hc]
      refine goB (fun y => y = (cs.flatten, cs.map fun c => (c.length : Int))) (goF (decide_eq_false hc) (goR rfl)) fun y hy => ?_
      subst hy
      refine goR ?_
      rw [w64_of (by omega)]
      exact ⟨⟨by omega, by omega, rfl, q2, cs, by omega, rfl, rfl, k7⟩, by omega⟩
  · rintro ⟨data, sizes⟩ ⟨cs, k4, k5, k6, k7⟩
    simp only at k5 k6
    have hfl := flatten_len fun c hc => (k7 c hc).1.2
    have hd : data.length ≤ 1000000000 := by rw [k5]; omega
    have hsz : sizes.length = cs.length := by rw [k6]; simp
    dsimp only
    refine goE (fun s => s = (data.length : Int)) ?_ fun s hs => ?_
    · refine ok_for sizes (fun i s => (s, i)) (fun s x => s + x) (fun i s => ∃ q : Nat, s = (q : Int) ∧ q ≤ i * 100 ∧ At data q ((cs.drop i).flatten)) (s0 := 0) rfl ⟨0, rfl, by simp, fun i hi => by rw [k5]; simp⟩ ?_ ?_
      · rintro i hi s ⟨q, hq, hq2, hAt⟩ _
        subst hq
        have hic : i < cs.length := by omega
        refine goT (by simpa using hi) ?_
        rw [List.drop_eq_getElem_cons hic, List.flatten_cons] at hAt
        obtain ⟨q1, q2⟩ := at_append hAt
        obtain ⟨⟨c1, c2⟩, c3⟩ := k7 _ (List.getElem_mem hic)
        have hsi : sizes[i] = (cs[i].length : Int) := by subst k6; simp
        refine goB _ (c3 data q hd q1) ?_
        rintro ⟨op, ar, d, a, b, v, wd, sz, er, args⟩ ⟨r1, r2⟩
        simp only at r1 r2
        subst r1 r2
        refine goB (fun y => y = false) (goF rfl (goC (inB_iff.2 (by simp only; omega)) (goR ?_))) fun y hy => ?_
        · rw [Int.toNat_natCast, Int.toNat_natCast, getD_at _ hi, hsi]; simp
        subst hy
        refine goF rfl (goR ?_)
        dsimp only
        rw [w64_of (x := (i : Int) + 1) (by omega), w64_of (x := (q : Int) + (cs[i].length : Int)) (by omega), hsi]
        exact ⟨rfl, q + cs[i].length, by omega, by omega, q2⟩
      · rintro s ⟨q, hq, hq2, hAt⟩ he
        refine goF (by simp) (goR ?_)
        show s = _
        rw [he, k6, sum_take, k5]; omega
    · subst hs
      refine goB _ f13_end ?_
      rintro ⟨op, ar, d, a, b, v, wd, sz, er, args⟩ r2
      simp only at r2
      subst r2
      refine goB (fun y => y = true) (goT (by simp) (goR rfl)) fun y hy => goR hy
end Go.Fg.YtcehajipaclnlaaDoor
