/-
  Chapter 17, plain: Each and Misses, the document's answers, traces and models.
-/
import Derived.Test.YtdioheaklahnnaaLc
namespace Go.Fg.Ytdioheaklahnnaa
open Go.Fw
set_option linter.unusedVariables false
set_option linter.unusedSimpArgs false

def newL (n : Int) : List (List Int) := if n < 1 ∨ 1024 < n then [] else List.replicate n.toNat []
def stepA (ways : Int) (st : Int × List (List Int)) (line : Int) : Int × List (List Int) := (if hitL st.2 line then st.1 else st.1 + 1, accessL st.2 ways line)
def fetchA (size ways : Int) (x : List (List Int)) (f : FetchS) : Int × List (List Int) := if x.length = 0 then (0, x) else (touchedL size f.address f.size).foldl (stepA ways) (0, x)
def eachStep (size ways : Int) (st : List (List Int) × List Int) (f : FetchS) : List (List Int) × List Int := ((fetchA size ways st.1 f).2, st.2 ++ [(fetchA size ways st.1 f).1])
def eachL (size sets ways : Int) (l : List FetchS) : List Int := (l.foldl (eachStep size ways) (newL sets, [])).2
def sumL (l : List Int) : Int := l.foldl (fun a b => a + b) 0

theorem newc_ok' (n : Int) : f10 n = some (newL n) := newc_ok n
theorem newc_ok'' (n : Int) : f14 n = some (newL n) := newc_ok n
theorem newL_len (n : Int) : (newL n).length ≤ 1024 := by unfold newL; split <;> simp; omega
theorem newL_ok {n ways : Int} : SetsOk (newL n).length ways (newL n) := by
  refine ⟨rfl, fun i hi => ?_⟩
  unfold newL at hi ⊢
  split at hi
  · simp at hi
  · rename_i h
    simp only [h, if_false, List.getElem_replicate]
    exact ⟨by simp, List.nodup_nil, fun a ha => by cases ha⟩

theorem each_ok {p0 p1 p2 p3 p4 p5 p9 p10 p11 size sets ways : Int} {l : List FetchS} (hw : 0 ≤ ways ∧ ways ≤ 1024) (hl : l.length ≤ 1048576) :
    Ok (f24 p0 p1 p2 p3 p4 p5 size sets ways p9 p10 p11 l) fun y => y = eachL size sets ways l ∧ y.length = l.length ∧ ∀ v ∈ y, 0 ≤ v ∧ v ≤ 1048576 := by
  unfold f24
  rw [newc_ok']
  simp only [ok_bind, ok_some]
  have hL := newL_len sets
  generalize hL' : (newL sets).length = L at hL
  refine ok_for l (fun i (s : List (List Int) × List Int) => (i, (s.1, s.2))) (eachStep size ways) (fun i s => SetsOk L ways s.1 ∧ s.2.length = i ∧ ∀ v ∈ s.2, 0 ≤ v ∧ v ≤ 1048576) (s0 := (newL sets, [])) rfl
    ⟨hL' ▸ newL_ok, rfl, fun v hv => by cases hv⟩ ?_ ?_
  · rintro i hi ⟨x, out⟩ ⟨kx, ko, kv⟩ _
    simp only at kx ko kv
    have hd : l.getD (Int.toNat (i : Int)) (FetchS.mk 0 0 0) = l[i] := by rw [Int.toNat_natCast]; exact getD_at _ hi
    simp only [ok_bif, ok_bind, ok_some, ok_ck, dec_iff, dec_iff', inB_iff, sumQ_inl, sumQ_inr, not_iff, not_iff', hd]
    have fin : ∀ y : Int × List (List Int), y = fetchA size ways x l[i] ∧ SetsOk L ways y.2 ∧ 0 ≤ y.1 ∧ y.1 ≤ 1048576 → (true && decide ((out.length + [y.1].length) * 8 ≤ 140737488355328)) = true ∧
        (w64 ((i : Int) + 1), y.2, out ++ [y.1]) = ((i : Int) + 1, (eachStep size ways (x, out) l[i]).1, (eachStep size ways (x, out) l[i]).2) ∧ SetsOk L ways (eachStep size ways (x, out) l[i]).1 ∧ (eachStep size ways (x, out) l[i]).2.length = i + 1 ∧ ∀ v ∈ (eachStep size ways (x, out) l[i]).2, 0 ≤ v ∧ v ≤ 1048576 := by
      rintro y ⟨e, k1, k2, k3⟩
      have e' : eachStep size ways (x, out) l[i] = (y.2, out ++ [y.1]) := by unfold eachStep; rw [← e]
      rw [w64_of (by omega), e']
      refine ⟨by simp [ko]; omega, rfl, k1, by simp [ko], fun v hv => ?_⟩
      rcases List.mem_append.1 hv with hv | hv
      · exact kv v hv
      · simp only [List.mem_singleton] at hv; subst hv; exact ⟨k2, k3⟩
    have hxL : x.length = L := kx.1
    refine ⟨fun _ => ⟨⟨by omega, by omega⟩, fun h1 => ?_, fun h1 => ?_⟩, fun h => by omega⟩
    · rw [touched_ok, ok_some]
      have hlen := touched_len size l[i].address l[i].size
      have hfe : fetchA size ways x l[i] = (touchedL size l[i].address l[i].size).foldl (stepA ways) (0, x) := by unfold fetchA; rw [if_neg (by omega)]
      have hnn := touched_nonneg (size := size) (a := l[i].address) (n := l[i].size)
      generalize touchedL size l[i].address l[i].size = t at *
      refine ok_mono (Q := fun y => y = fetchA size ways x l[i] ∧ SetsOk L ways y.2 ∧ 0 ≤ y.1 ∧ y.1 ≤ 1048576) ?_ fun y hy => fin y hy
      refine ok_for t (fun k (s : Int × List (List Int)) => (s.1, (k, s.2))) (stepA ways) (fun k s => SetsOk L ways s.2 ∧ 0 ≤ s.1 ∧ s.1 ≤ k) (s0 := (0, x)) rfl ⟨kx, Int.le_refl _, by simp⟩ ?_ ?_
      · rintro k hk ⟨m, z⟩ ⟨kz, m0, m1⟩ _
        simp only at kz m0 m1
        have hd2 : t.getD (Int.toNat ((Int.toNat (k : Int) : Nat) : Int)) 0 = t[k] := by rw [Int.toNat_natCast, Int.toNat_natCast]; exact getD_at _ hk
        have hln : 0 ≤ t[k] := hnn _ (List.getElem_mem _)
        simp only [ok_bif, ok_bind, ok_some, ok_ck, dec_iff, dec_iff', inB_iff, sumQ_inl, sumQ_inr, not_iff, not_iff', hd2]
        have hzL : z.length = L := kz.1
        have ht := tmod_lt (a := t[k]) (b := z.length) hln (by omega)
        have hs : z.getD (Int.tmod t[k] z.length).toNat [] ∈ z := by rw [getD_at _ (by omega)]; exact List.getElem_mem _
        have hsm := small_of kz (by omega) hw.2
        rw [Int.toNat_natCast, use_ok (hsm.2 _ hs) hw.1, ok_some]
        have ka := accessL_ok (line := t[k]) kz hln (by omega)
        have eh : decide (t[k] ∈ z.getD (Int.tmod t[k] z.length).toNat []) = hitL z t[k] := rfl
        refine ⟨fun _ => ⟨⟨by omega, by omega⟩, by omega, ⟨ht.1, ht.2⟩, ⟨ht.1, ht.2⟩, fun h2 => ?_, fun h2 => ?_⟩, fun h => by omega⟩
        · rw [eh] at h2
          replace h2 : hitL z t[k] = false := h2
          rw [w64_of (x := (k : Int) + 1) (by omega), w64_of (by omega)]
          have e : stepA ways (m, z) t[k] = (m + 1, accessL z ways t[k]) := by show (if hitL z t[k] = true then m else m + 1, _) = _; rw [h2]; rfl
          rw [e]
          exact ⟨rfl, ka, by simp only; omega, by simp only; omega⟩
        · rw [eh] at h2
          replace h2 : hitL z t[k] = true := h2
          rw [w64_of (x := (k : Int) + 1) (by omega)]
          have e : stepA ways (m, z) t[k] = (m, accessL z ways t[k]) := by show (if hitL z t[k] = true then m else m + 1, _) = _; rw [h2]; rfl
          rw [e]
          exact ⟨rfl, ka, m0, by simp only; omega⟩
      · rintro ⟨m, z⟩ ⟨kz, m0, m1⟩ he
        simp only at kz m0 m1
        simp only [ok_bif, ok_bind, ok_some, ok_ck, dec_iff, dec_iff', inB_iff, sumQ_inl, sumQ_inr, not_iff, not_iff']
        exact ⟨fun h => by omega, fun _ => ⟨by rw [hfe, ← he], kz, m0, by omega⟩⟩
    · exact fin (0, x) ⟨by unfold fetchA; rw [if_pos (by omega)], kx, Int.le_refl _, by simp only; omega⟩
  · rintro ⟨x, out⟩ ⟨kx, ko, kv⟩ he
    simp only at kx ko kv
    simp only [ok_bif, ok_bind, ok_some, ok_ck, dec_iff, dec_iff', inB_iff, sumQ_inl, sumQ_inr, not_iff, not_iff']
    exact ⟨fun h => by omega, fun _ => ⟨by unfold eachL; rw [← he], ko, kv⟩⟩
theorem foldl_add (l : List Int) (a : Int) : l.foldl (fun a b => a + b) a = a + sumL l := by
  unfold sumL
  induction l generalizing a with
  | nil => simp
  | cons x l ih => simp only [List.foldl_cons]; rw [ih (a + x), ih (0 + x)]; omega
theorem sumL_cons (x : Int) (l : List Int) : sumL (x :: l) = x + sumL l := by
  show List.foldl _ _ _ = _
  rw [List.foldl_cons, foldl_add]; omega
theorem sumL_app (a b : List Int) : sumL (a ++ b) = sumL a + sumL b := by
  unfold sumL; rw [List.foldl_append, foldl_add]; rfl
theorem sum_bound {l : List Int} (h : ∀ v ∈ l, 0 ≤ v ∧ v ≤ 1048576) : 0 ≤ sumL l ∧ sumL l ≤ 1048576 * l.length := by
  induction l with
  | nil => simp [sumL]
  | cons x l ih =>
    have h1 := h x (by simp)
    have h2 := ih fun v hv => h v (by simp [hv])
    rw [sumL_cons, List.length_cons]
    omega
theorem total_ok {l : List Int} (hl : l.length ≤ 1048576) (h : ∀ v ∈ l, 0 ≤ v ∧ v ≤ 1048576) : f30 l = some (sumL l) := by
  apply ok_eq
  unfold f30
  simp only [ok_bind, ok_some]
  refine ok_for l (fun i (s : Int) => (s, i)) (fun a b => a + b) (fun i s => 0 ≤ s ∧ s ≤ 1048576 * i) (s0 := 0) rfl ⟨Int.le_refl _, by simp⟩ ?_ ?_
  · rintro i hi s ⟨k0, k1⟩ _
    have hd : l.getD (Int.toNat (i : Int)) 0 = l[i] := by rw [Int.toNat_natCast]; exact getD_at _ hi
    have hv := h _ (List.getElem_mem hi)
    simp only [ok_bif, ok_bind, ok_some, ok_ck, dec_iff, dec_iff', inB_iff, sumQ_inl, sumQ_inr, not_iff, not_iff', hd]
    rw [w64_of (by omega), w64_of (by omega)]
    exact ⟨fun _ => ⟨⟨by omega, by omega⟩, rfl, by omega, by omega⟩, fun h => by omega⟩
  · rintro s _ he
    simp only [ok_bif, ok_bind, ok_some, ok_ck, dec_iff, dec_iff', inB_iff, sumQ_inl, sumQ_inr, not_iff, not_iff']
    exact ⟨fun h => by omega, fun _ => he⟩
theorem misses_ok {p0 p1 p2 p3 p4 p5 p9 p10 p11 size sets ways : Int} {l : List FetchS} (hw : 0 ≤ ways ∧ ways ≤ 1024) (hl : l.length ≤ 1048576) :
    f22 p0 p1 p2 p3 p4 p5 size sets ways p9 p10 p11 l = some (sumL (eachL size sets ways l)) := by
  apply ok_eq
  unfold f22
  simp only [ok_bind]
  refine ok_mono (each_ok hw hl) fun y hy => ?_
  obtain ⟨rfl, h1, h2⟩ := hy
  have ht := total_ok (by omega) h2
  have ht' : Ok (f30 (eachL size sets ways l)) fun z => z = sumL (eachL size sets ways l) := ⟨_, ht, rfl⟩
  unfold f30 at ht'
  simp only [Int.toNat_natCast]
  simp only [ok_bind] at ht'
  exact ht'
end Go.Fg.Ytdioheaklahnnaa
