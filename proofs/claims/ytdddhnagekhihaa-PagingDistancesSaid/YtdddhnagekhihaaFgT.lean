/-
  paging.touches: what its iterator hands on.
-/
import Derived.RangeFuncBox
import Derived.RangeFuncLeaves
import Derived.WalkKit
import Derived.OwnWalkIn
import Derived.TacticsInMore
import Derived.LoopNIn
import Derived.LoopIn
import Derived.Test.YtdddhnagekhihaaFgA
namespace Go.Fg.Ytdddhnagekhihaa
open Go.Fw Go.Proofs Go.RowKit

attribute [local go_sem] Oper.semAt_some
set_option linter.unusedVariables false

def ixOf : Value → Int
  | .int _ z => z
  | _ => 0
/-- The pages of a fetch. -/
def pagesOf (size : Int) (f : FetchS) : List Int :=
  bif decide (f.size < 1) || decide (f.size > 1048576) || decide (f.address < 0) || decide (f.address > 1048576) then []
  else (List.range ((f.address + f.size - 1) / size - f.address / size + 1).toNat).map fun (k : Nat) => f.address / size + (k : Int)
def rowsOf (size : Int) : Nat → List FetchS → List (Int × Int)
  | _, [] => []
  | i, f :: fs => (pagesOf size f).map (fun p => ((i : Int), p)) ++ rowsOf size (i + 1) fs
def touchesL (size : Int) (fs : List FetchS) : List (Int × Int) :=
  bif decide (size < 1) || decide (size > 65536) then [] else rowsOf size 0 fs


theorem rowsOf_append (size : Int) : ∀ (xs ys : List FetchS) (i : Nat), rowsOf size i (xs ++ ys) = rowsOf size i xs ++ rowsOf size (i + xs.length) ys
  | [], ys, i => by simp [rowsOf]
  | x :: xs, ys, i => by
    simp only [List.cons_append, rowsOf, rowsOf_append size xs ys, List.append_assoc, List.length_cons]
    congr 3; omega
theorem rowsOf_take (size : Int) (fs : List FetchS) (k : Nat) (h : k < fs.length) : rowsOf size 0 (fs.take (k + 1)) = rowsOf size 0 (fs.take k) ++ (pagesOf size fs[k]).map (fun p => ((k : Int), p)) := by
  rw [List.take_succ_eq_append_getElem h, rowsOf_append]
  simp [rowsOf, Nat.min_eq_left (Nat.le_of_lt h)]
theorem rowsOf_split (size : Int) (fs : List FetchS) (k : Nat) (h : k < fs.length) : ∃ r, rowsOf size 0 fs = rowsOf size 0 (fs.take k) ++ (pagesOf size fs[k]).map (fun p => ((k : Int), p)) ++ r := by
  refine ⟨rowsOf size (0 + (fs.take (k + 1)).length) (fs.drop (k + 1)), ?_⟩
  rw [← rowsOf_take size fs k h, ← rowsOf_append, List.take_append_drop]
theorem pagesOf_good (size : Int) (f : FetchS) (f1 : ¬ f.size < 1) (f2 : ¬ 1048576 < f.size) (f3 : ¬ f.address < 0) (f4 : ¬ 1048576 < f.address) :
    pagesOf size f = (List.range ((f.address + f.size - 1) / size - f.address / size + 1).toNat).map fun (k : Nat) => f.address / size + (k : Int) := by
  simp [pagesOf, f1, f2, f3, f4]
theorem rowsOf_get (size : Int) (fs : List FetchS) (k : Nat) (h : k < fs.length) (f1 : ¬ fs[k].size < 1) (f2 : ¬ 1048576 < fs[k].size) (f3 : ¬ fs[k].address < 0) (f4 : ¬ 1048576 < fs[k].address) (m : Nat) (hm : m < ((fs[k].address + fs[k].size - 1) / size - fs[k].address / size + 1).toNat) :
    (rowsOf size 0 fs)[(rowsOf size 0 (fs.take k)).length + m]? = some ((k : Int), fs[k].address / size + (m : Int)) := by
  obtain ⟨r, hr⟩ := rowsOf_split size fs k h
  rw [hr, List.append_assoc, List.getElem?_append_right (by omega), Nat.add_sub_cancel_left, pagesOf_good size _ f1 f2 f3 f4, List.getElem?_append_left (by simpa using hm)]
  simp [hm]

theorem cell_new (w : World) (c : Array Value) (e : TypeId) (o : Nat) (v : Value) (h : c[o]? = some v) : (w.alloc (.cells c e)).cell? ⟨w.heap.size, o, none⟩ = some v := by
  have h1 := World.alloc_heap_new w (.cells c e)
  unfold World.cell?
  simp only [h1, h]
  rfl
theorem f38_ntmps : Try.f38.ntmps = 60 := by kernel_rfl

set_option maxRecDepth 100000 in
set_option maxHeartbeats 2000000 in
theorem tou_bad (l b0 b1 : Nat) (size : Int) (W : World) (hb0 : W.cell? ⟨b0, 0, none⟩ = some (.int .i64 size)) (hs : size < 1 ∨ size > 65536) :
    CallsIn Fence.wide 1 Try.prog 38 #[.func (.yield l) #[] #[], .pointer (some ⟨b0, 0, none⟩), .pointer (some ⟨b1, 0, none⟩)] W fun e B => (∃ v, e = .returned v) ∧ B = W := by
  refine callsIn_of_wp Try.func38 rfl trivial ?_ rfl
  simp only [f38_ntmps, List.size_toArray, List.length_cons, List.length_nil, Nat.reduceAdd, Nat.reduceSub, Array.replicate_succ, Array.replicate_zero, List.push_toArray, List.append_toArray, List.nil_append, List.cons_append]
  refine wpIn_seq ?_
  by_cases h1 : size < 1
  · have e1 : decide (size < 1) = true := decide_eq_true h1
    gi_wp2
    refine bodyPost_ret (results_none rfl _ _ _) rfl ?_
    exact ⟨⟨_, rfl⟩, rfl⟩
  · have h2 : size > 65536 := by omega
    have e1 : decide (size < 1) = false := decide_eq_false h1
    have e2 : decide (65536 < size) = true := decide_eq_true h2
    gi_wp2
    refine bodyPost_ret (results_none rfl _ _ _) rfl ?_
    exact ⟨⟨_, rfl⟩, rfl⟩

set_option maxRecDepth 100000 in
set_option maxHeartbeats 4000000 in
theorem tou_good (l b0 b1 bs off cap : Nat) (size : Int) (fs : List FetchS) (hs1 : ¬ size < 1) (hs2 : ¬ 65536 < size) (hbig : fs.length < 4611686018427387904) (J : Nat → List Nat → World → Prop)
    (hb0 : ∀ k D A, J k D A → A.cell? ⟨b0, 0, none⟩ = some (.int .i64 size)) (hb1 : ∀ k D A, J k D A → A.cell? ⟨b1, 0, none⟩ = some (.slice (some ⟨bs, off, none⟩) fs.length cap))
    (hc : ∀ k D A, J k D A → ∀ i (h : i < fs.length), A.cell? ⟨bs, off + i * 3, none⟩ = some (.int .i64 fs[i].address) ∧ A.cell? ⟨bs, off + i * 3 + 1, none⟩ = some (.int .i64 fs[i].size) ∧ A.cell? ⟨bs, off + i * 3 + 2, none⟩ = some (.int .i64 fs[i].kind))
    (hgrow : ∀ k D A B D', J k D A → Grows A B → (∀ b ∈ D', b ∈ D ∨ (A.heap.size ≤ b ∧ b < B.heap.size)) → J k D' B)
    (hround : ∀ k row D A, (rowsOf size 0 fs)[k]? = some row → J k D A → YieldAt Fence.wide 0 Try.prog l #[.int .i64 row.1, .int .i64 row.2] A fun e B => e = .returned (.bool true) ∧ J (k + 1) D B ∧ ∀ b ∈ D, B.heap[b]? = A.heap[b]?)
    (W : World) (h0 : J 0 [] W) :
    CallsIn Fence.wide 1 Try.prog 38 #[.func (.yield l) #[] #[], .pointer (some ⟨b0, 0, none⟩), .pointer (some ⟨b1, 0, none⟩)] W fun e B => (∃ v, e = .returned v) ∧ ∃ D, J (rowsOf size 0 fs).length D B := by
  refine callsIn_of_wp Try.func38 rfl trivial ?_ rfl
  simp only [f38_ntmps, List.size_toArray, List.length_cons, List.length_nil, Nat.reduceAdd, Nat.reduceSub, Array.replicate_succ, Array.replicate_zero, List.push_toArray, List.append_toArray, List.nil_append, List.cons_append]
  have e1 : decide (size < 1) = false := decide_eq_false hs1
  have e2 : decide (65536 < size) = false := decide_eq_false hs2
  have c0 := hb0 _ _ _ h0
  have c1 := hb1 _ _ _ h0
  gi_wp2
  gi_loopw [15] (fun i wr => ∃ k : Nat, k ≤ fs.length ∧ i = .int .i64 k ∧ ∃ D, J (rowsOf size 0 (fs.take k)).length D wr) (fun i _ => fs.length - (ixOf i).toNat)
  case atStart => exact ⟨0, Nat.zero_le _, rfl, [], h0⟩
  case round =>
    obtain ⟨k, hk, rfl, D, hJ⟩ := hrel
    by_cases hlt : k < fs.length
    · obtain ⟨d0, d1, d2⟩ := hc _ _ _ hJ k hlt
      have hbad : pagesOf size fs[k] = [] → J (rowsOf size 0 (fs.take (k + 1))).length D (wr.alloc (.cells #[.int .i64 fs[k].address, .int .i64 fs[k].size, .int .i64 fs[k].kind] 44)) := fun hpg => by
        rw [rowsOf_take size fs k hlt, hpg]
        simp only [List.map_nil, List.append_nil]
        exact hgrow _ D wr _ D hJ (Grows.alloc _ _) (fun b hb => .inl hb)
      by_cases f1 : fs[k].size < 1
      · have g1 : decide (fs[k].size < 1) = true := decide_eq_true f1
        gi_wp2
        go_roundw
        case rel => exact ⟨k + 1, by omega, by simp, D, hbad (by simp [pagesOf, f1])⟩
        case measure => simp [ixOf]; omega
      have g1 : decide (fs[k].size < 1) = false := decide_eq_false f1
      by_cases f2 : 1048576 < fs[k].size
      · have g2 : decide (1048576 < fs[k].size) = true := decide_eq_true f2
        gi_wp2
        go_roundw
        case rel => exact ⟨k + 1, by omega, by simp, D, hbad (by simp [pagesOf, f2])⟩
        case measure => simp [ixOf]; omega
      have g2 : decide (1048576 < fs[k].size) = false := decide_eq_false f2
      by_cases f3 : fs[k].address < 0
      · have g3 : decide (fs[k].address < 0) = true := decide_eq_true f3
        gi_wp2
        go_roundw
        case rel => exact ⟨k + 1, by omega, by simp, D, hbad (by simp [pagesOf, f3])⟩
        case measure => simp [ixOf]; omega
      have g3 : decide (fs[k].address < 0) = false := decide_eq_false f3
      by_cases f4 : 1048576 < fs[k].address
      · have g4 : decide (1048576 < fs[k].address) = true := decide_eq_true f4
        gi_wp2
        go_roundw
        case rel => exact ⟨k + 1, by omega, by simp, D, hbad (by simp [pagesOf, f4])⟩
        case measure => simp [ixOf]; omega
      have g4 : decide (1048576 < fs[k].address) = false := decide_eq_false f4
      have hne : size ≠ 0 := by omega
      have hJ1 := hgrow _ D wr (wr.alloc (.cells #[.int .i64 fs[k].address, .int .i64 fs[k].size, .int .i64 fs[k].kind] 44)) (wr.heap.size :: D) hJ (Grows.alloc _ _) (fun b hb => by
        rcases List.mem_cons.1 hb with rfl | hb
        · exact .inr ⟨Nat.le_refl _, by rw [World.size_alloc]; exact Nat.lt_succ_self _⟩
        · exact .inl hb)
      have c0' := hb0 _ _ _ hJ1
      have n1 : (1 : Int) ≤ size := by omega
      have hlo : 0 ≤ fs[k].address / size := Int.ediv_nonneg (by omega) (by omega)
      have hhi : (fs[k].address + fs[k].size - 1) / size ≤ 2097152 := Int.le_trans (Int.ediv_le_self _ (by omega)) (by omega)
      have hmono : fs[k].address / size ≤ (fs[k].address + fs[k].size - 1) / size := Int.ediv_le_ediv (by omega) (by omega)
      have hrow := rowsOf_get size fs k hlt f1 f2 f3 f4
      have hend : (rowsOf size 0 (fs.take (k + 1))).length = (rowsOf size 0 (fs.take k)).length + ((fs[k].address + fs[k].size - 1) / size - fs[k].address / size + 1).toNat := by
        rw [rowsOf_take size fs k hlt, pagesOf_good size _ f1 f2 f3 f4]; simp
      have k0 : (wr.alloc (.cells #[.int .i64 fs[k].address, .int .i64 fs[k].size, .int .i64 fs[k].kind] 44)).cell? ⟨wr.heap.size, 0, none⟩ = some (.int .i64 fs[k].address) := cell_new _ _ _ _ _ rfl
      have k1 : (wr.alloc (.cells #[.int .i64 fs[k].address, .int .i64 fs[k].size, .int .i64 fs[k].kind] 44)).cell? ⟨wr.heap.size, 1, none⟩ = some (.int .i64 fs[k].size) := cell_new _ _ _ _ _ rfl
      gi_wp2
      generalize wr.alloc (.cells #[.int .i64 fs[k].address, .int .i64 fs[k].size, .int .i64 fs[k].kind] 44) = wo at *
      generalize wr.heap.size = bf at *
      gi_loopw [6] (fun p wi => ∃ m : Nat, p = .int .i64 (fs[k].address / size + m) ∧ (m : Int) ≤ (fs[k].address + fs[k].size - 1) / size - fs[k].address / size + 1 ∧ J ((rowsOf size 0 (fs.take k)).length + m) (bf :: D) wi ∧ wi.cell? ⟨bf, 0, none⟩ = some (.int .i64 fs[k].address) ∧ wi.cell? ⟨bf, 1, none⟩ = some (.int .i64 fs[k].size))
        (fun p _ => ((fs[k].address + fs[k].size - 1) / size + 1 - ixOf p).toNat)
      case atStart => exact ⟨0, by simp, by omega, by simpa using hJ1, k0, k1⟩
      case round =>
        obtain ⟨m, rfl, hm, hJm, m0, m1⟩ := hrel
        have cm := hb0 _ _ _ hJm
        by_cases hmt : fs[k].address / size + m ≤ (fs[k].address + fs[k].size - 1) / size
        · have g5 : decide (fs[k].address / size + m ≤ (fs[k].address + fs[k].size - 1) / size) = true := decide_eq_true hmt
          obtain ⟨fn, tmps, assign, body, hy, hR⟩ := hround _ _ _ _ (hrow m (by omega)) hJm
          dsimp only at hy
          gi_wp2
          refine hR.mono ?_
          rintro e B ⟨rfl, hJ3, hk3⟩
          have hbB := hk3 bf (List.mem_cons_self ..)
          gi_wp2
          go_roundw
          case rel => exact ⟨m + 1, by simp [Int.add_assoc], by omega, hJ3, (World.cell?_of_block (w := wr) hbB).trans m0, (World.cell?_of_block (w := wr) hbB).trans m1⟩
          case measure => simp [ixOf]; omega
        · have g5 : decide (fs[k].address / size + m ≤ (fs[k].address + fs[k].size - 1) / size) = false := decide_eq_false hmt
          gi_wp2
          go_roundw
          case rel =>
            refine ⟨k + 1, by omega, by simp, bf :: D, ?_⟩
            rw [hend]
            have : m = ((fs[k].address + fs[k].size - 1) / size - fs[k].address / size + 1).toNat := by omega
            rw [← this]; exact hJm
          case measure => simp [ixOf]; omega
    · obtain rfl : k = fs.length := by omega
      gi_wp2
      go_end0
      exact ⟨⟨_, rfl⟩, D, by simpa using hJ⟩

set_option maxRecDepth 100000 in
set_option maxHeartbeats 4000000 in
theorem tou_nil (l b0 b1 : Nat) (ao : Option Addr) (cap : Nat) (size : Int) (hs1 : ¬ size < 1) (hs2 : ¬ 65536 < size)
    (W : World) (hb0 : W.cell? ⟨b0, 0, none⟩ = some (.int .i64 size)) (hb1 : W.cell? ⟨b1, 0, none⟩ = some (.slice ao 0 cap)) :
    CallsIn Fence.wide 1 Try.prog 38 #[.func (.yield l) #[] #[], .pointer (some ⟨b0, 0, none⟩), .pointer (some ⟨b1, 0, none⟩)] W fun e B => (∃ v, e = .returned v) ∧ B = W := by
  refine callsIn_of_wp Try.func38 rfl trivial ?_ rfl
  simp only [f38_ntmps, List.size_toArray, List.length_cons, List.length_nil, Nat.reduceAdd, Nat.reduceSub, Array.replicate_succ, Array.replicate_zero, List.push_toArray, List.append_toArray, List.nil_append, List.cons_append]
  have e1 : decide (size < 1) = false := decide_eq_false hs1
  have e2 : decide (65536 < size) = false := decide_eq_false hs2
  gi_wp2
  gi_loopw [15] (fun i wr => i = .int .i64 0 ∧ wr = W) (fun i _ => 0)
  case atStart => exact ⟨rfl, rfl⟩
  case round =>
    obtain ⟨rfl, rfl⟩ := hrel
    gi_wp2
    go_end0
    exact ⟨⟨_, rfl⟩, rfl⟩

theorem f30_ntmps : Try.f30.ntmps = 6 := by kernel_rfl
set_option maxRecDepth 100000 in
set_option maxHeartbeats 4000000 in
theorem tou_call (size : Int) (sv : Value) (hsv : sv.oneCell' = true) (w : World) :
    CallsIn Fence.wide 1 Try.prog 30 #[.int .i64 size, sv] w fun e B => e = .returned (.func (.func 38) #[] #[.pointer (some ⟨w.heap.size, 0, none⟩), .pointer (some ⟨w.heap.size + 1, 0, none⟩)]) ∧ B = (w.alloc (.cells #[.int .i64 size] 3)).alloc (.cells #[sv] 31) := by
  refine callsIn_of_wp Try.func30 rfl trivial ?_ rfl
  simp only [f30_ntmps, List.size_toArray, List.length_cons, List.length_nil, Nat.reduceAdd, Nat.reduceSub, Array.replicate_succ, Array.replicate_zero, List.push_toArray, List.append_toArray, List.nil_append, List.cons_append]
  gi_wp2
  go_ret
  exact ⟨rfl, rfl⟩

/-! ### The contract -/
def fTou (size : Int) (fs : List FetchS) : Option (List (Int × Int)) := match decide (fs.length < 4611686018427387904) with
  | true => some (touchesL size fs)
  | false => none
noncomputable def spTou : TSpec := ⟨sg30, fun x => fTou x.1 x.2⟩
theorem encRows_fetch (l : List FetchS) : encRows (.st 3) l = l.map erFetchS := rfl
theorem encRows_pair (l : List (Int × Int)) : encRows (.prod (.int .i64) (.int .i64)) l = l.map fun x => [P.int .i64 x.1, P.int .i64 x.2] := rfl

theorem tou_iter (w : World) (b0 b1 : Nat) (S : List Nat) (size : Int) (fs : List FetchS) (hbig : fs.length < 4611686018427387904) (hb0 : b0 ∈ S) (hb1 : b1 ∈ S) (h0 : w.cell? ⟨b0, 0, none⟩ = some (.int .i64 size))
    (h1 : (∃ ao cap, fs = [] ∧ w.cell? ⟨b1, 0, none⟩ = some (.slice ao 0 cap)) ∨ ∃ bs off cap, bs ∈ S ∧ w.cell? ⟨b1, 0, none⟩ = some (.slice (some ⟨bs, off, none⟩) fs.length cap) ∧
      ∀ i (h : i < fs.length), w.cell? ⟨bs, off + i * 3, none⟩ = some (.int .i64 fs[i].address) ∧ w.cell? ⟨bs, off + i * 3 + 1, none⟩ = some (.int .i64 fs[i].size) ∧ w.cell? ⟨bs, off + i * 3 + 2, none⟩ = some (.int .i64 fs[i].kind)) :
    IterOf Try.prog w S (encRows (.prod (.int .i64) (.int .i64)) (touchesL size fs)) (.func (.func 38) #[] #[.pointer (some ⟨b0, 0, none⟩), .pointer (some ⟨b1, 0, none⟩)]) := by
  refine ⟨38, _, rfl, enters_of Try.func38 rfl rfl, fun l J W hS hgrow hround hJ => ?_⟩
  have hkeep : ∀ k D A, J k D A → ∀ b ∈ S, ∀ o, A.cell? ⟨b, o, none⟩ = w.cell? ⟨b, o, none⟩ := fun k D A h b hb o => World.cell?_of_block (w := w) (hS k D A h b hb)
  have a0 : ∀ k D A, J k D A → A.cell? ⟨b0, 0, none⟩ = some (.int .i64 size) := fun k D A h => (hkeep k D A h b0 hb0 0).trans h0
  rw [encRows_pair] at hround ⊢
  rw [List.length_map]
  by_cases hs1 : size < 1
  · have e : touchesL size fs = [] := by simp [touchesL, hs1]
    rw [e]
    exact callsIn_wide.1 (CallsIn.mono (tou_bad l b0 b1 size W (a0 _ _ _ hJ) (.inl hs1)) fun e B he => ⟨he.1, [], by rw [he.2]; exact hJ⟩)
  by_cases hs2 : 65536 < size
  · have e : touchesL size fs = [] := by simp [touchesL, hs2]
    rw [e]
    exact callsIn_wide.1 (CallsIn.mono (tou_bad l b0 b1 size W (a0 _ _ _ hJ) (.inr hs2)) fun e B he => ⟨he.1, [], by rw [he.2]; exact hJ⟩)
  have e : touchesL size fs = rowsOf size 0 fs := by simp [touchesL, hs1, hs2]
  rw [e] at hround ⊢
  rcases h1 with ⟨ao, cap, rfl, h1⟩ | ⟨bs, off, cap, hbs, h1, h2⟩
  · exact callsIn_wide.1 (CallsIn.mono (tou_nil l b0 b1 ao cap size hs1 hs2 W (a0 _ _ _ hJ) ((hkeep _ _ _ hJ b1 hb1 0).trans h1)) fun e B he => ⟨he.1, [], by rw [he.2]; exact hJ⟩)
  · refine callsIn_wide.1 (tou_good l b0 b1 bs off cap size fs hs1 hs2 hbig J a0 (fun k D A h => (hkeep k D A h b1 hb1 0).trans h1) (fun k D A h i hi => ?_) hgrow (fun k row D A hr h => ?_) W hJ)
    · obtain ⟨c0, c1, c2⟩ := h2 i hi
      exact ⟨(hkeep k D A h bs hbs _).trans c0, (hkeep k D A h bs hbs _).trans c1, (hkeep k D A h bs hbs _).trans c2⟩
    · exact hround k [P.int .i64 row.1, P.int .i64 row.2] D A (by rw [List.getElem?_map, hr]; rfl) h

theorem cells_of {w : World} {b o : Nat} {v : Value} (h : w.cell? ⟨b, o, none⟩ = some v) : ∃ c e f, w.heap[b]? = some (.cells c e f) := by
  unfold World.cell? at h
  simp only at h
  cases hb : w.heap[b]? with
  | none => rw [hb] at h; cases h
  | some x =>
    rw [hb] at h
    cases x with
    | cells c e f => exact ⟨c, e, f, rfl⟩
    | _ => cases h
theorem fetch_inv {w : World} {ok : Nat → Prop} {fs : List FetchS} {v : Value} (h : RepP w ok (P.mkSl 3 (fs.map erFetchS)) v) : (∃ ao cap, fs = [] ∧ v = .slice ao 0 cap) ∨
    ∃ bs off cap, v = .slice (some ⟨bs, off, none⟩) fs.length cap ∧ ok bs ∧ (∃ c e f, w.heap[bs]? = some (.cells c e f)) ∧
      ∀ i (h : i < fs.length), w.cell? ⟨bs, off + i * 3, none⟩ = some (.int .i64 fs[i].address) ∧ w.cell? ⟨bs, off + i * 3 + 1, none⟩ = some (.int .i64 fs[i].size) ∧ w.cell? ⟨bs, off + i * 3 + 2, none⟩ = some (.int .i64 fs[i].kind) := by
  cases fs with
  | nil =>
    have h : RepP w ok (.sl 0 []) v := h
    cases h with
    | nil _ ao cap => exact .inl ⟨ao, cap, rfl, rfl⟩
    | sl _ _ a cap => exact .inl ⟨some a, cap, rfl, rfl⟩
  | cons f r =>
    have h : RepP w ok (.sl 3 ((f :: r).map erFetchS)) v := h
    generalize hx : P.sl 3 ((f :: r).map erFetchS) = x at h
    cases h with
    | sl sz l a cap g hs hok hcap hlen hc hr =>
      simp only [P.sl.injEq] at hx
      obtain ⟨rfl, rfl⟩ := hx
      obtain ⟨bs, off, sp⟩ := a
      simp only at hs hok hc; subst hs
      have key : ∀ i (h : i < (f :: r).length) (j : Nat) (z : Int), (erFetchS (f :: r)[i])[j]? = some (P.int .i64 z) → w.cell? ⟨bs, off + i * 3 + j, none⟩ = some (.int .i64 z) := fun i hi j z hz => by
        have h1 : ((f :: r).map erFetchS)[i]? = some (erFetchS (f :: r)[i]) := by rw [List.getElem?_map, List.getElem?_eq_getElem hi]; rfl
        rw [hc i _ h1 j _ hz]
        have := hr i _ h1 j _ hz
        rw [this.int_inv]
      refine .inr ⟨bs, off, cap, by rw [List.length_map], hok, ?_, fun i hi => ⟨key i hi 0 _ rfl, key i hi 1 _ rfl, key i hi 2 _ rfl⟩⟩
      exact cells_of (key 0 (by simp) 0 _ rfl)
    | _ => cases hx

theorem lsound30 : TSound Try.prog 30 spTou := by
  refine ⟨rfl, enters_of Try.func30 rfl rfl, fun E w vals gh ins outs hR hB hw0 hRel hlen => ?_⟩
  obtain ⟨⟨size, fs⟩, y, hy, rfl, rfl⟩ := hR
  change Int at size; change List FetchS at fs; change List (Int × Int) at y
  have hy : fTou size fs = some y := hy
  unfold fTou at hy
  split at hy
  rotate_left
  · cases hy
  rename_i hc
  simp only [decide_eq_true_eq] at hc
  simp only [Option.some.injEq] at hy; subst hy
  have r0 : vals.getD 0 undef = .int .i64 size := by
    have h0 : RepS E _ gh w (.v (.one (.p true false (.int .i64 size)))) (vals.getD 0 undef) := hRel.slots 0
    exact h0.p_inv.int_inv
  have r1 : RepP w (E.ok (Fw.mk sg30.pin.er ((Tup.toL sg30.pin.tys (size, fs)).map enc1)) gh w true false) (P.mkSl 3 (fs.map erFetchS)) (vals.getD 1 undef) := by
    have h0 : RepS E _ gh w (.v (.one (.p true false (P.mkSl 3 (fs.map erFetchS))))) (vals.getD 1 undef) := hRel.slots 1
    exact h0.p_inv
  generalize hsv : vals.getD 1 undef = sv at r1
  have hvals : vals.toArray = #[.int .i64 size, sv] := by
    have hl3 : vals.length = 2 := hlen
    match vals, hl3 with
    | [a, b], _ => simp at r0 hsv; simp [r0, hsv]
  rw [hvals]
  refine Calls.mono (callsIn_wide.1 (tou_call size sv r1.oneCell w)) fun e w' ⟨he, hw⟩ => ?_
  have hsz : w'.heap.size = w.heap.size + 2 := by rw [hw, World.size_alloc, World.size_alloc]
  have hold : ∀ b, b < w.heap.size → w'.heap[b]? = w.heap[b]? := fun b hb => by
    rw [hw, Below.heap_alloc _ _ _ (by rw [World.size_alloc]; omega), Below.heap_alloc _ _ _ hb]
  have hn0 : w'.heap[w.heap.size]? = some (.cells #[.int .i64 size] 3) := by
    rw [hw, Below.heap_alloc _ _ _ (by rw [World.size_alloc]; omega)]; exact World.alloc_heap_new w _
  have hn1 : w'.heap[w.heap.size + 1]? = some (.cells #[sv] 31) := by
    rw [hw]; have := World.alloc_heap_new (w.alloc (.cells #[.int .i64 size] 3)) (.cells #[sv] 31); rwa [World.size_alloc] at this
  have hos : w'.os = w.os ∧ w'.tape = w.tape ∧ w'.output = w.output := by rw [hw]; exact ⟨rfl, rfl, rfl⟩
  have hno : ∀ g, (Fw.mk sg30.pout.er ((Tup.toL sg30.pout.tys (touchesL size fs)).map enc1)).o g = .none := fun g => mk_o_none (by simp [Shape.nms, sg30, TSh.er])
  have hok' : ∀ b, ((E.FA b) ∨ E.B0 ≤ b ∨ Globs.has b) → b < w'.heap.size → E.ok (Fw.mk sg30.pout.er ((Tup.toL sg30.pout.tys (touchesL size fs)).map enc1)) gh w' true false b := fun b h1 h2 => by
    refine ⟨?_, h2, fun g ad ho => ?_⟩
    · rcases h1 with h1 | h1 | h1
      · exact .inl ⟨rfl, h1⟩
      · exact .inr (.inr (.inl h1))
      · exact .inr (.inr (.inr h1))
    · rw [hno] at ho; cases ho
  have hrep : RepP w' (E.ok (Fw.mk sg30.pout.er ((Tup.toL sg30.pout.tys (touchesL size fs)).map enc1)) gh w' true false) (.seq (encRows (.prod (.int .i64) (.int .i64)) (touchesL size fs))) (.func (.func 38) #[] #[.pointer (some ⟨w.heap.size, 0, none⟩), .pointer (some ⟨w.heap.size + 1, 0, none⟩)]) := by
    have c0 : w'.cell? ⟨w.heap.size, 0, none⟩ = some (.int .i64 size) := by unfold World.cell?; simp only [hn0]; rfl
    have c1 : w'.cell? ⟨w.heap.size + 1, 0, none⟩ = some sv := by unfold World.cell?; simp only [hn1]; rfl
    have k0 : E.ok (Fw.mk sg30.pout.er ((Tup.toL sg30.pout.tys (touchesL size fs)).map enc1)) gh w' true false w.heap.size ∧ ∃ c e f, w'.heap[w.heap.size]? = some (.cells c e f) := ⟨hok' _ (.inr (.inl (by rw [hB]; exact Nat.le_refl _))) (by omega), _, _, _, hn0⟩
    have k1 : E.ok (Fw.mk sg30.pout.er ((Tup.toL sg30.pout.tys (touchesL size fs)).map enc1)) gh w' true false (w.heap.size + 1) ∧ ∃ c e f, w'.heap[w.heap.size + 1]? = some (.cells c e f) := ⟨hok' _ (.inr (.inl (by rw [hB]; exact Nat.le_succ _))) (by omega), _, _, _, hn1⟩
    rcases fetch_inv r1 with ⟨ao, cap, hnil, rfl⟩ | ⟨bs, off, cap, rfl, hok, hce, hcl⟩
    · refine .seq _ _ [w.heap.size, w.heap.size + 1] rfl (fun b hb => ?_) ?_
      · rcases List.mem_cons.1 hb with rfl | hb
        · exact k0
        · rw [List.mem_singleton] at hb; subst hb; exact k1
      · exact tou_iter w' _ _ _ size fs hc (by simp) (by simp) c0 (.inl ⟨ao, cap, hnil, c1⟩)
    · have hbs := hold bs hok.2.1
      have kb : E.ok (Fw.mk sg30.pout.er ((Tup.toL sg30.pout.tys (touchesL size fs)).map enc1)) gh w' true false bs ∧ ∃ c e f, w'.heap[bs]? = some (.cells c e f) := by
        refine ⟨hok' bs ?_ (by have := hok.2.1; omega), by rw [hbs]; exact hce⟩
        rcases hok.1 with ⟨_, h1⟩ | ⟨h1, _⟩ | h1
        · exact .inl h1
        · cases h1
        · exact .inr h1
      refine .seq _ _ [w.heap.size, w.heap.size + 1, bs] rfl (fun b hb => ?_) ?_
      · rcases List.mem_cons.1 hb with rfl | hb
        · exact k0
        · rcases List.mem_cons.1 hb with rfl | hb
          · exact k1
          · rw [List.mem_singleton] at hb; subst hb; exact kb
      · refine tou_iter w' _ _ _ size fs hc (by simp) (by simp) c0 (.inr ⟨bs, off, cap, by simp, c1, fun i hi => ?_⟩)
        have e : ∀ o, w'.cell? ⟨bs, o, none⟩ = w.cell? ⟨bs, o, none⟩ := fun o => World.cell?_of_block (w := w) hbs
        rw [e, e, e]; exact hcl i hi
  refine ⟨[_], gh, rfl, he, ?_, fun g hg => by cases hg⟩
  have hs0 : (Fw.mk sg30.pout.er ((Tup.toL sg30.pout.tys (touchesL size fs)).map enc1)).s 0 = .v (.one (.p true false (.seq (encRows (.prod (.int .i64) (.int .i64)) (touchesL size fs))))) := rfl
  have hs1 : ∀ t, (Fw.mk sg30.pout.er ((Tup.toL sg30.pout.tys (touchesL size fs)).map enc1)).s (t + 1) = .no := fun t => rfl
  have hus : ∀ g, (Fw.mk sg30.pout.er ((Tup.toL sg30.pout.tys (touchesL size fs)).map enc1)).used g = false := fun g => rfl
  show Rel E (Fw.mk sg30.pout.er ((Tup.toL sg30.pout.tys (touchesL size fs)).map enc1)) gh _ w'
  generalize Fw.mk sg30.pout.er ((Tup.toL sg30.pout.tys (touchesL size fs)).map enc1) = s at *
  exact {
    slots := fun t => by
      cases t with
      | zero => rw [hs0]; exact .v _ _ (.one _ _ (.p _ _ _ _ hrep))
      | succ t => rw [hs1]; exact .no _
    objs := fun g => by rw [hno]; trivial
    inj := fun g g' a a' h1 => by rw [hno] at h1; cases h1
    wr := fun g a h1 => by rw [hno] at h1; cases h1
    wi := fun g a i sz l ad h1 => by rw [hno] at h1; cases h1
    wb := hRel.wb
    frame := fun b hb hw => by rw [hold b (by rw [← hB]; exact hb)]; exact hRel.frame b hb hw
    size := by rw [hB]; omega
    os := hos.1.trans hRel.os
    tape := hos.2.1.trans hRel.tape
    output := hos.2.2.trans hRel.output
    us := fun t g hg => by
      cases t with
      | zero => rw [hs0] at hg; simp [S.names, V.names, W.names] at hg
      | succ t => rw [hs1] at hg; simp [S.names] at hg
    uo := fun g g' hg => by rw [hno] at hg; simp [O.names] at hg
    ul := fun g hg => absurd (hno g) hg }
end Go.Fg.Ytdddhnagekhihaa
