/-
  Chapter 17, plain: CacheSets.
-/
import Derived.Test.YtdioheaklahnnaaLh
namespace Go.Fg.Ytdioheaklahnnaa
open Go.Fw
set_option linter.unusedVariables false
set_option linter.unusedSimpArgs false

def sumN (f : Nat → Int) : Nat → Int
  | 0 => 0
  | n + 1 => sumN f n + f n
theorem sumN_same {f f' : Nat → Int} : ∀ {n : Nat}, (∀ k, k < n → f' k = f k) → sumN f' n = sumN f n
  | 0, _ => rfl
  | n + 1, h => by
    show sumN f' n + f' n = sumN f n + f n
    rw [sumN_same (n := n) fun k hk => h k (by omega), h n (by omega)]
theorem sumN_one {f f' : Nat → Int} {k0 : Nat} {d : Int} : ∀ {n : Nat}, k0 < n → (∀ k, k < n → k ≠ k0 → f' k = f k) → f' k0 = f k0 + d → sumN f' n = sumN f n + d
  | 0, h, _, _ => by omega
  | n + 1, h, h1, h2 => by
    show sumN f' n + f' n = sumN f n + f n + d
    by_cases e : k0 = n
    · subst e
      rw [sumN_same fun k hk => h1 k (by omega) (by omega), h2]; omega
    · rw [sumN_one (n := n) (by omega) (fun k hk => h1 k (by omega)) h2, h1 n (by omega) (fun e' => e e'.symm)]; omega
/-- one set alone -/
def stepK (sets w : Int) (k : Nat) (st : Int × List (List Int)) (t : Int) : Int × List (List Int) := if Int.tmod t sets = k then stepA w st t else st
theorem setOf_one (s : List Int) (t : Int) : setOf [s] t = 0 := by
  unfold setOf
  show (t.tmod 1).toNat = 0
  rw [Int.tmod_one]; rfl
theorem stepA_one {w m : Int} {s : List Int} {t : Int} : stepA w (m, [s]) t = (if t ∈ s then m else m + 1, [useL s w t]) := by
  unfold stepA hitL accessL
  simp only [setOf_one]
  by_cases h : t ∈ s <;> simp [h]
theorem sets_fold {sets w : Int} {L : Nat} (hL : sets = L) (h0 : 0 < L) : ∀ (T : List Int) (full : Int × List (List Int)) (g : Nat → Int × List (List Int)), (∀ u ∈ T, 0 ≤ u) → full.2.length = L →
    full.1 = sumN (fun k => (g k).1) L → (∀ k, k < L → (g k).2 = [full.2.getD k []]) →
    (T.foldl (stepA w) full).1 = sumN (fun k => (T.foldl (stepK sets w k) (g k)).1) L
  | [], full, g, _, _, h, _ => h
  | t :: T, full, g, hT, hl, h, hg => by
    rw [List.foldl_cons]
    have ht := hT t (by simp)
    have hm := tmod_lt (a := t) (b := L) ht (by omega)
    have hk0 : (t.tmod L).toNat < L := by omega
    have hset : setOf full.2 t = (t.tmod L).toNat := by unfold setOf; rw [hl]
    refine sets_fold hL h0 T _ (fun k => stepK sets w k (g k) t) (fun u hu => hT u (by simp [hu])) (by rw [← hl]; exact hit_len) ?_ ?_
    · have e1 : (stepA w full t).1 = full.1 + (if hitL full.2 t then 0 else 1) := by
        show (if hitL full.2 t = true then full.1 else full.1 + 1) = _
        split <;> omega
      rw [e1, h]
      refine (sumN_one (k0 := (t.tmod L).toNat) (d := if hitL full.2 t then 0 else 1) hk0 (fun k hk hne => ?_) ?_).symm
      · unfold stepK; rw [if_neg (by rw [hL]; omega)]
      · have hgk := hg _ hk0
        unfold stepK
        rw [if_pos (by rw [hL]; omega)]
        have e2 : g (t.tmod L).toNat = ((g (t.tmod L).toNat).1, [full.2.getD (t.tmod L).toNat []]) := Prod.ext rfl hgk
        rw [e2, stepA_one]
        unfold hitL
        rw [hset]
        simp only [decide_eq_true_eq]
        split <;> omega
    · intro k hk
      show (stepK sets w k (g k) t).2 = [(accessL full.2 w t).getD k []]
      have hgk := hg _ hk
      unfold stepK accessL
      rw [hset, List.getD_eq_getElem?_getD, List.getElem?_set]
      by_cases e : Int.tmod t sets = k
      · have e' : (t.tmod L).toNat = k := by rw [← hL]; omega
        rw [if_pos e, if_pos e', e', if_pos (by omega)]
        have e2 : g k = ((g k).1, [full.2.getD k []]) := Prod.ext rfl hgk
        rw [e2, stepA_one]; rfl
      · rw [if_neg e, if_neg (by rw [hL] at e; omega), hgk, List.getD_eq_getElem?_getD]
theorem sets17 {l : List Int} (hl : Bytes l) : f7 l = some true := by
  apply ok_eq
  unfold f7
  refine goS awake_ok ?_
  refine goF rfl ?_
  refine goB _ (new_ok hl (by decide)) fun c2 ⟨k2, hb⟩ => ?_
  obtain ⟨cs, at0⟩ := c2
  simp only at k2 hb
  subst k2
  refine goB _ (model_ok hb (Int.le_refl _)) ?_
  rintro m ⟨u1, u2, u3, u4, u5⟩
  rw [u4]
  refine goB _ (trace_ok hb u5 (by decide)) ?_
  rintro ⟨cs4, j4, t⟩ ⟨rfl, h4, ht, hf⟩
  simp only at h4 ht hf
  dsimp only
  generalize m.2.2.2.2.2.2.1 = size at *
  generalize m.2.2.2.2.2.2.2.1 = sets at *
  generalize m.2.2.2.2.2.2.2.2.1 = ways at *
  have hlen : t.length ≤ 1048576 := by omega
  have hfm : ∀ (k : Nat) (a : List FetchS) (s : Int × List (List Int)), a.foldl (fun s f => (touchedL size f.address f.size).foldl (stepK sets ways k) s) s = (linesOf size a).foldl (stepK sets ways k) s := by
    intro k a
    induction a with
    | nil => intro s; rfl
    | cons f a ih => intro s; rw [List.foldl_cons, ih]; show _ = (touchedL size f.address f.size ++ linesOf size a).foldl (stepK sets ways k) s; rw [List.foldl_append]
  have hnn : ∀ u ∈ linesOf size t, 0 ≤ u := by
    intro u hu
    obtain ⟨f, hf1, hf2⟩ := List.mem_flatMap.1 hu
    exact touched_nonneg u hf2
  have hadd : ∀ (k : Nat) (T : List Int) (a : Int) (x : List (List Int)), (T.foldl (stepK sets ways k) (a, x)).1 = a + (T.foldl (stepK sets ways k) (0, x)).1 ∧ (T.foldl (stepK sets ways k) (a, x)).2 = (T.foldl (stepK sets ways k) (0, x)).2 := by
    intro k T
    induction T with
    | nil => intro a x; simp
    | cons u T ih =>
      intro a x
      rw [List.foldl_cons, List.foldl_cons]
      by_cases e : Int.tmod u sets = k
      · have e1 (a : Int) : stepK sets ways k (a, x) u = (if hitL x u then a else a + 1, accessL x ways u) := by unfold stepK; rw [if_pos e]; rfl
        rw [e1, e1]
        have h1 := ih (if hitL x u then a else a + 1) (accessL x ways u)
        have h2 := ih (if hitL x u then 0 else 0 + 1) (accessL x ways u)
        refine ⟨?_, h1.2.trans h2.2.symm⟩
        rw [h1.1, h2.1]
        split <;> omega
      · have e1 (a : Int) : stepK sets ways k (a, x) u = (a, x) := by unfold stepK; rw [if_neg e]
        rw [e1, e1]
        exact ih a x
  let G : Nat → Int := fun k => ((linesOf size t).foldl (stepK sets ways k) (0, [[]])).1
  refine goE (fun y => y = sumN G sets.toNat) ?_ ?_
  · refine ok_loop (fun s : Int × Int => 0 ≤ s.2 ∧ s.2 ≤ sets ∧ s.1 = sumN G s.2.toNat ∧ 0 ≤ s.1 ∧ s.1 ≤ s.2 * 1152921504606846976) (fun s => (sets - s.2).toNat) ⟨Int.le_refl _, by simp only; omega, rfl, by simp, by simp⟩ ?_
    rintro ⟨sum, k⟩ ⟨q1, q2, q3, q4, q5⟩
    simp only at q1 q2 q3 q4 q5
    dsimp only
    refine goI (fun h => ?_) fun h => ?_
    · have h := of_decide_eq_true h
      refine goS (newc_ok' 1) ?_
      refine goF rfl ?_
      refine goB (fun y => y = sum + G k.toNat ∧ sum ≤ y ∧ y ≤ sum + 1152921504606846976) ?_ ?_
      · refine ok_for t (fun i (s : Int × List (List Int)) => (s.1, (i, s.2))) (fun s f => (touchedL size f.address f.size).foldl (stepK sets ways k.toNat) s) (fun i s => (sum ≤ s.1 ∧ s.1 ≤ sum + i * 1048576) ∧ SetsOk 1 ways s.2 ) (s0 := (sum, newL 1)) rfl ⟨⟨by simp, by simp⟩, newL_ok (n := 1) (ways := ways)⟩ ?_ ?_
        · rintro i hi ⟨m, x⟩ ⟨⟨m1, m2⟩, kx⟩ _
          simp only at m1 m2 kx
          have hd : t.getD (Int.toNat ((Int.toNat (i : Int) : Nat) : Int)) (FetchS.mk 0 0 0) = t[i] := by rw [Int.toNat_natCast, Int.toNat_natCast]; exact getD_at _ hi
          dsimp only
          refine goT (decide_eq_true (by omega)) (goC (inB_iff.2 ⟨by omega, by omega⟩) ?_)
          rw [hd]
          refine goS (touched_ok ..) ?_
          have hln := touched_len size t[i].address t[i].size
          have hnn := touched_nonneg (size := size) (a := t[i].address) (n := t[i].size)
          generalize touchedL size t[i].address t[i].size = q at *
          refine goB (fun y => y = q.foldl (stepK sets ways k.toNat) (m, x) ∧ (sum ≤ y.1 ∧ y.1 ≤ sum + (i + 1) * 1048576) ∧ SetsOk 1 ways y.2) ?_ ?_
          · refine ok_for q (fun i (s : Int × List (List Int)) => (s.1, (i, s.2))) (stepK sets ways k.toNat) (fun j s => (sum ≤ s.1 ∧ s.1 ≤ sum + i * 1048576 + j) ∧ SetsOk 1 ways s.2) (s0 := (m, x)) rfl ⟨⟨m1, by simpa using m2⟩, kx⟩ ?_ ?_
            · rintro j hj ⟨m, x⟩ ⟨⟨m1, m2⟩, kx⟩ _
              simp only at m1 m2 kx
              have hd : q.getD (Int.toNat ((Int.toNat (j : Int) : Nat) : Int)) 0 = q[j] := by rw [Int.toNat_natCast, Int.toNat_natCast]; exact getD_at _ hj
              have hq := hnn _ (List.getElem_mem hj)
              have hmod := tmod_lt (a := q[j]) (b := sets) hq (by omega)
              dsimp only
              refine goT (decide_eq_true (by omega)) ?_
              rw [hd]
              refine goB (fun y => y = stepK sets ways k.toNat (m, x) q[j] ∧ (sum ≤ y.1 ∧ y.1 ≤ sum + i * 1048576 + (j + 1)) ∧ SetsOk 1 ways y.2) ?_ ?_
              · refine goC (inB_iff.2 ⟨by omega, by omega⟩) (goC (by rw [not_iff]; exact decide_eq_false (by omega)) ?_)
                refine goI (fun h1 => ?_) fun h1 => ?_
                · have h1 : ¬ Int.tmod q[j] sets = k := of_decide_eq_false (cast not_iff h1)
                  have e : stepK sets ways k.toNat (m, x) q[j] = (m, x) := by unfold stepK; rw [if_neg (by omega)]
                  rw [e]
                  exact goR ⟨rfl, ⟨m1, by simp only; omega⟩, kx⟩
                · have h1 : Int.tmod q[j] sets = k := of_decide_eq_true (cast not_iff' h1)
                  have e : stepK sets ways k.toNat (m, x) q[j] = (if hitL x q[j] then m else m + 1, accessL x ways q[j]) := by unfold stepK; rw [if_pos (by omega)]; rfl
                  have ka := accessL_ok (line := q[j]) kx hq (by decide)
                  refine goC (inB_iff.2 ⟨by omega, by omega⟩) ?_
                  refine goS (access_ok (small_of kx (by decide) (by omega)) (by rw [kx.1]; decide) (by omega) hq) ?_
                  rw [e]
                  refine goB (fun y => y = if hitL x q[j] then m else m + 1) ?_ ?_
                  · refine goI (fun h2 => ?_) fun h2 => ?_
                    · have h2 : hitL x q[j] = false := cast not_iff h2
                      rw [w64_of (by omega)]
                      refine goR ?_
                      rw [h2]; rfl
                    · have h2 : hitL x q[j] = true := cast not_iff' h2
                      refine goR ?_
                      rw [h2]; rfl
                  · rintro y rfl
                    refine goR ⟨rfl, ⟨?_, ?_⟩, ka⟩
                    · simp only; split <;> omega
                    · simp only; split <;> omega
              · rintro y ⟨e, y1, y2⟩
                refine goR ⟨?_, ?_⟩
                · rw [← e, w64_of (by omega)]
                · rw [← e]; exact ⟨⟨y1.1, by omega⟩, y2⟩
            · rintro ⟨m, x⟩ ⟨⟨m1, m2⟩, kx⟩ he
              simp only at m1 m2 kx
              dsimp only
              exact goF (decide_eq_false (by omega)) (goR ⟨he, ⟨m1, by simp only; omega⟩, kx⟩)
          · rintro y ⟨e, y1, y2⟩
            refine goR ⟨?_, ?_⟩
            · rw [← e, w64_of (by omega)]
            · rw [← e]; exact ⟨⟨y1.1, by omega⟩, y2⟩
        · rintro ⟨m, x⟩ ⟨⟨m1, m2⟩, kx⟩ he
          simp only at m1 m2 kx
          dsimp only
          refine goF (decide_eq_false (by omega)) (goR ⟨?_, m1, by omega⟩)
          rw [hfm] at he
          have := (hadd k.toNat (linesOf size t) sum (newL 1)).1
          rw [← he] at this
          exact this
      · rintro y ⟨e, y1, y2⟩
        rw [w64_of (x := k + 1) (by omega)]
        refine goR ⟨⟨by simp only; omega, by simp only; omega, ?_, by simp only; omega, by simp only; omega⟩, by simp only; omega⟩
        have e2 : (k + 1).toNat = k.toNat + 1 := by omega
        rw [e2]
        show y = sumN G k.toNat + G k.toNat
        rw [e, q3]
    · have h := of_decide_eq_false h
      refine goR ?_
      have e : k = sets := by omega
      show sum = _
      rw [q3, e]
  · rintro n rfl
    refine goS (misses_ok ⟨by omega, by omega⟩ hlen) (goR (decide_eq_true ?_))
    rw [misses_sum ⟨by omega, by omega⟩]
    have hL : (newL sets).length = sets.toNat := by unfold newL; rw [if_neg (by omega)]; simp
    refine (sets_fold (L := sets.toNat) (by omega) (by omega) (linesOf size t) (0, newL sets) (fun _ => (0, [[]])) hnn hL ?_ ?_).symm
    · have : ∀ n, sumN (fun _ => (0 : Int)) n = 0 := by
        intro n
        induction n with
        | zero => rfl
        | succ n ih => show sumN _ n + 0 = 0; rw [ih]; rfl
      exact (this _).symm
    · intro k hk
      have : newL sets = List.replicate sets.toNat [] := by unfold newL; rw [if_neg (by omega)]
      simp [this, hk]
end Go.Fg.Ytdioheaklahnnaa
