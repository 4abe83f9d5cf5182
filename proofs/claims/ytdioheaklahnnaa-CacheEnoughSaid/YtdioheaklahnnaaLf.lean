/-
  Chapter 17, plain: CacheExact.
-/
import Derived.Test.YtdioheaklahnnaaLe
namespace Go.Fg.Ytdioheaklahnnaa
open Go.Fw
set_option linter.unusedVariables false
set_option linter.unusedSimpArgs false

theorem hit_len {x : List (List Int)} {ways line : Int} : (accessL x ways line).length = x.length := by simp [accessL]
/-- Each of the document -/
theorem eachR_ok {p0 p1 p2 p3 p4 p5 p9 p10 p11 size sets ways : Int} {l : List FetchS} (hw : 0 ≤ ways ∧ ways ≤ 1024) (hs : 0 ≤ sets ∧ sets ≤ 1024) (hl : l.length ≤ 1048576) :
    f25 p0 p1 p2 p3 p4 p5 size sets ways p9 p10 p11 l = some (eachL size sets ways l) := by
  apply ok_eq
  unfold f25
  simp only [ok_bif, ok_bind, ok_some, ok_ck, dec_iff, dec_iff', mkOk_iff]
  refine ⟨by omega, fun h0 => ?_, fun h0 => ?_⟩
  · subst h0
    rw [Int.toNat_natCast]
    have key : ∀ (l : List FetchS) (o : List Int), l.foldl (eachStep size ways) ([], o) = ([], o ++ List.replicate l.length 0) := by
      intro l
      induction l with
      | nil => intro o; simp
      | cons f l ih =>
        intro o
        have e : eachStep size ways ([], o) f = ([], o ++ [0]) := rfl
        rw [List.foldl_cons, e, ih]; simp [List.replicate_succ]
    unfold eachL
    have e : newL 0 = [] := rfl
    rw [e, key]; simp
  rw [newc_ok'', ok_some]
  have hL := newL_len sets
  have hLs : (newL sets).length = sets.toNat := by unfold newL; rw [if_neg (by omega)]; simp
  have hk0 : SetsOk (newL sets).length ways (newL sets) := newL_ok
  rw [hLs] at hk0 hL
  generalize hL' : sets.toNat = L at *
  have hsL : sets = L := by omega
  rw [Int.toNat_natCast]
  refine ok_for l (fun i (s : List (List Int) × List Int) => (i, (s.2 ++ List.replicate (l.length - i.toNat) 0, s.1))) (eachStep size ways) (fun i s => SetsOk L ways s.1 ∧ s.2.length = i) (s0 := (newL sets, [])) (by simp)
    ⟨hk0, rfl⟩ ?_ ?_
  · rintro i hi ⟨x, out⟩ ⟨kx, ko⟩ _
    simp only at kx ko
    have hd : l.getD (Int.toNat (i : Int)) (FetchS.mk 0 0 0) = l[i] := by rw [Int.toNat_natCast]; exact getD_at _ hi
    have hlen := touched_len size l[i].address l[i].size
    have hxL : x.length = L := kx.1
    have hfe : fetchA size ways x l[i] = (touchedL size l[i].address l[i].size).foldl (stepA ways) (0, x) := by unfold fetchA; rw [if_neg (by omega)]
    have hnn := touched_nonneg (size := size) (a := l[i].address) (n := l[i].size)
    simp only [ok_bif, ok_bind, ok_some, ok_ck, dec_iff, dec_iff', inB_iff, sumQ_inl, sumQ_inr, not_iff, not_iff', hd, parts_ok]
    generalize touchedL size l[i].address l[i].size = t at *
    refine ⟨fun _ => ⟨⟨by omega, by omega⟩, ?_⟩, fun h => by omega⟩
    refine ok_mono (Q := fun y => y = (out ++ (fetchA size ways x l[i]).1 :: List.replicate (l.length - (i + 1)) 0, (fetchA size ways x l[i]).2) ∧ SetsOk L ways y.2) ?_ ?_
    · refine ok_for t (fun k (s : Int × List (List Int)) => (k, (out ++ s.1 :: List.replicate (l.length - (i + 1)) 0, s.2))) (stepA ways) (fun k s => SetsOk L ways s.2 ∧ 0 ≤ s.1 ∧ s.1 ≤ k) (s0 := (0, x)) ?_ ⟨kx, Int.le_refl _, by simp⟩ ?_ ?_
      · have e : l.length - (i : Int).toNat = (l.length - (i + 1)) + 1 := by omega
        rw [e]; rfl
      · rintro k hk ⟨m, z⟩ ⟨kz, m0, m1⟩ _
        simp only at kz m0 m1
        have hd2 : t.getD k 0 = t[k] := getD_at _ hk
        have hln : 0 ≤ t[k] := hnn _ (List.getElem_mem _)
        have hzL : z.length = L := kz.1
        have ht := tmod_lt (a := t[k]) (b := sets) hln (by omega)
        have hlt : (Int.tmod t[k] sets).toNat < z.length := by omega
        have hso := kz.2 _ hlt
        have hgz : z.getD (Int.tmod t[k] sets).toNat [] = z[(Int.tmod t[k] sets).toNat] := getD_at _ hlt
        have hgo : (out ++ m :: List.replicate (l.length - (i + 1)) 0).getD i 0 = m := by
          rw [List.getD_eq_getElem?_getD, List.getElem?_append_right (by omega), ko]; simp
        have hso' : ∀ v : Int, (out ++ m :: List.replicate (l.length - (i + 1)) 0).set i v = out ++ v :: List.replicate (l.length - (i + 1)) 0 := by
          intro v; rw [List.set_append_right _ _ (by omega), ko]; simp
        simp only [ok_bif, ok_bind, ok_some, ok_ck, dec_iff, dec_iff', inB_iff, sumQ_inl, sumQ_inr, not_iff, not_iff', Int.toNat_natCast, hd2, hgz, hgo, hso']
        rw [first_ok hso.2.1 (by have := hso.1; omega) hw.1, ok_some]
        have ka := accessL_ok (line := t[k]) kz hln (by omega)
        have eh : decide (t[k] ∈ z[(Int.tmod t[k] sets).toNat]) = hitL z t[k] := by unfold hitL setOf; rw [hzL, ← hsL, hgz]
        have ea : z.set (Int.tmod t[k] sets).toNat (useL z[(Int.tmod t[k] sets).toNat] ways t[k]) = accessL z ways t[k] := by unfold accessL setOf; rw [hzL, ← hsL, hgz]
        rw [ea, eh, w64_of (x := (k : Int) + 1) (by omega), w64_of (x := m + 1) (by omega)]
        refine ⟨fun _ => ⟨⟨by omega, by omega⟩, by omega, ⟨ht.1, by omega⟩, ⟨by omega, by omega⟩, ⟨ht.1, by omega⟩, fun h2 => ⟨?_, ?_, ?_⟩, fun h2 => ?_⟩, fun h => by omega⟩
        · simp; omega
        · simp; omega
        · have e : stepA ways (m, z) t[k] = (m + 1, accessL z ways t[k]) := by show (if hitL z t[k] = true then m else m + 1, _) = _; rw [show hitL z t[k] = false from h2]; rfl
          rw [e]
          exact ⟨rfl, ka, by simp only; omega, by simp only; omega⟩
        · have e : stepA ways (m, z) t[k] = (m, accessL z ways t[k]) := by show (if hitL z t[k] = true then m else m + 1, _) = _; rw [show hitL z t[k] = true from h2]; rfl
          rw [e]
          exact ⟨rfl, ka, m0, by simp only; omega⟩
      · rintro ⟨m, z⟩ ⟨kz, m0, m1⟩ he
        simp only at kz m0 m1
        simp only [ok_bif, ok_bind, ok_some, ok_ck, dec_iff, dec_iff', inB_iff, sumQ_inl, sumQ_inr, not_iff, not_iff']
        exact ⟨fun h => by omega, fun _ => ⟨by rw [hfe, ← he], kz⟩⟩
    · rintro _ ⟨rfl, k2⟩
      rw [w64_of (x := (i : Int) + 1) (by omega)]
      refine ⟨?_, k2, ?_⟩
      · have e : ((i : Int) + 1).toNat = i + 1 := by omega
        rw [e]
        unfold eachStep
        simp
      · simp [eachStep, ko]
  · rintro ⟨x, out⟩ ⟨kx, ko⟩ he
    simp only at kx ko
    simp only [ok_bif, ok_bind, ok_some, ok_ck, dec_iff, dec_iff', inB_iff, sumQ_inl, sumQ_inr, not_iff, not_iff']
    refine ⟨fun h => by omega, fun _ => ?_⟩
    unfold eachL
    rw [← he]; simp
theorem missesR_ok {p0 p1 p2 p3 p4 p5 p9 p10 p11 size sets ways : Int} {l : List FetchS} (hw : 0 ≤ ways ∧ ways ≤ 1024) (hs : 0 ≤ sets ∧ sets ≤ 1024) (hl : l.length ≤ 1048576) :
    f23 p0 p1 p2 p3 p4 p5 size sets ways p9 p10 p11 l = some (sumL (eachL size sets ways l)) := by
  unfold f23
  rw [eachR_ok hw hs hl]
  obtain ⟨y, hy, rfl, h1, h2⟩ := each_ok (p0 := p0) (p1 := p1) (p2 := p2) (p3 := p3) (p4 := p4) (p5 := p5) (p9 := p9) (p10 := p10) (p11 := p11) (size := size) (sets := sets) hw hl
  simp only [Option.bind_some]
  rw [total_ok (by omega) h2]; rfl
theorem each_ok' {p0 p1 p2 p3 p4 p5 p9 p10 p11 size sets ways : Int} {l : List FetchS} (hw : 0 ≤ ways ∧ ways ≤ 1024) (hl : l.length ≤ 1048576) :
    f24 p0 p1 p2 p3 p4 p5 size sets ways p9 p10 p11 l = some (eachL size sets ways l) := by
  obtain ⟨y, hy, rfl, h1, h2⟩ := each_ok (p0 := p0) (p1 := p1) (p2 := p2) (p3 := p3) (p4 := p4) (p5 := p5) (p9 := p9) (p10 := p10) (p11 := p11) (size := size) (sets := sets) hw hl
  exact hy
theorem eachL_len {size sets ways : Int} {l : List FetchS} (hw : 0 ≤ ways ∧ ways ≤ 1024) (hl : l.length ≤ 1048576) : (eachL size sets ways l).length = l.length ∧ ∀ v ∈ eachL size sets ways l, 0 ≤ v ∧ v ≤ 1048576 := by
  obtain ⟨y, hy, rfl, h1, h2⟩ := each_ok (p0 := 0) (p1 := 0) (p2 := 0) (p3 := 0) (p4 := 0) (p5 := 0) (p9 := 0) (p10 := 0) (p11 := 0) (size := size) (sets := sets) hw hl
  exact ⟨h1, h2⟩

theorem exact17 {l : List Int} (hl : Bytes l) (p1 p2 p3 p4 p5 : Int) : f4 l p1 p2 p3 p4 p5 = some true := by
  apply ok_eq
  unfold f4
  refine goS awake_ok ?_
  refine goF rfl ?_
  refine goB _ (new_ok hl (by decide)) fun c2 ⟨k2, hb⟩ => ?_
  obtain ⟨cs, at0⟩ := c2
  simp only at k2 hb
  subst k2
  have hsm (n : Int) : Small (newL n) := small_of (ways := 0) newL_ok (newL_len n) (by decide)
  refine goB (fun y => y = false) ?_ ?_
  · refine goS (newc_ok' p1) (goS (newc_ok'' p1) (goS (same_refl (hsm p1)) (goF rfl (goI (fun _ => ?_) fun _ => goR rfl))))
    exact goS (touched_ok ..) (goS parts_ok (goS (ints_refl (by have := touched_len p2 p3 p4; omega)) (goR rfl)))
  rintro _ rfl
  refine goF rfl ?_
  refine draw hb (Int.le_refl _) (by decide) fun v1 j1 a0 a1 h1 => ?_
  refine goS (y := newL (1 + v1)) (by rw [w64_of (by omega)]; exact newc_ok'' _) ?_
  refine draw hb h1 (by decide) fun v2 j2 b0 b1 h2 => ?_
  refine draw hb h2 (by decide) fun v3 j3 c0 c1 h3 => ?_
  generalize hL : (newL (1 + v1)).length = L
  have hL1 : L = (1 + v1).toNat := by rw [← hL]; unfold newL; rw [if_neg (by omega)]; simp
  have hW : w64 (1 + v2) = 1 + v2 := w64_of (by omega)
  refine goE (fun y => y.1 = cs ∧ 0 ≤ y.2) ?_ ?_
  · refine ok_down (fun i (s : List Int × (Int × List (List Int))) => (i, s)) (fun s => s.1 = cs ∧ 0 ≤ s.2.1 ∧ SetsOk L (1 + v2) s.2.2) rfl c0 ⟨rfl, h3, by rw [← hL]; exact newL_ok⟩ ?_ ?_
    · rintro i ⟨cs', a, x⟩ i0 i1 ⟨k1, k2, k3⟩
      simp only at k1 k2 k3
      subst k1
      refine goT (decide_eq_true i0) ?_
      refine draw hb k2 (by decide) fun line j4 d0 d1 h4 => ?_
      have hxL : x.length = L := k3.1
      have ka := accessL_ok (line := line) k3 d0 (by omega)
      refine goS (y := (hitL x line, accessL x (1 + v2) line)) (by have e := access_ok (ways := 1 + v2) (small_of k3 (by omega) (by omega)) (by omega) (by omega) d0; show f12 x (w64 (1 + v2)) line = _; rw [hW]; exact e) ?_
      refine goS (y := (hitL x line, accessL x (1 + v2) line)) (by have e := accessR_ok k3 (by omega) (by omega) d0; show f18 x (w64 (1 + v2)) line = _; rw [hW]; exact e) ?_
      refine goS (y := false) ?_ (goF rfl (goR ⟨(cs', j4, accessL x (1 + v2) line), ?_, rfl, h4, ka⟩))
      · simp only [bne_self_eq_false, cond_false]
        rw [same_refl (small_of ka (by omega) (by omega))]; rfl
      · simp only [w64_of (x := i - 1) (by omega)]
    · rintro ⟨cs', a, x⟩ ⟨k1, k2, k3⟩
      exact goF rfl (goR ⟨k1, k2⟩)
  rintro ⟨cs', k⟩ ⟨rfl, k1⟩
  simp only at k1
  refine goB _ (trace_ok hb k1 (by decide)) ?_
  rintro ⟨cs4, j4, t⟩ ⟨rfl, h4, ht, _⟩
  simp only at h4 ht
  refine goB _ (model_ok hb h4) ?_
  rintro m1 ⟨u1, u2, u3, u4, u5⟩
  rw [u4]
  refine goB _ (modelR_ok hb u5) ?_
  rintro m2 ⟨v2, v3, v4, v5⟩
  generalize hms : (ModelS.mk m1.1 _ _ _ _ _ _ _ _ _ _ _ :: _ : List ModelS) = ms
  have hmm : ms.length = 2 ∧ ∀ m ∈ ms, (0 ≤ m.ways ∧ m.ways ≤ 1024) ∧ (0 ≤ m.sets ∧ m.sets ≤ 1024) := by
    subst hms
    refine ⟨rfl, fun m hm => ?_⟩
    simp only [List.mem_cons, List.not_mem_nil, or_false] at hm
    rcases hm with rfl | rfl
    · exact ⟨⟨by simp only; omega, by simp only; omega⟩, by simp only; omega, by simp only; omega⟩
    · exact ⟨⟨by simp only; omega, by simp only; omega⟩, by simp only; omega, by simp only; omega⟩
  refine goE (fun _ => True) ?_ fun _ _ => goR rfl
  refine ok_for ms (fun i (s : Unit) => i) (fun s e => ()) (fun i s => True) (s0 := ()) rfl trivial ?_ ?_
  · rintro i hi s _ _
    have hm := hmm.2 _ (List.getElem_mem hi)
    have hd : ms.getD (Int.toNat ((Int.toNat (i : Int) : Nat) : Int)) (ModelS.mk 0 0 0 0 0 0 0 0 0 0 0 0) = ms[i] := by rw [Int.toNat_natCast, Int.toNat_natCast]; exact getD_at _ hi
    simp only [hd]
    generalize ms[i] = m at hm
    have hlen : t.length ≤ 1048576 := by omega
    have hel := (eachL_len (size := m.line) (sets := m.sets) hm.1 hlen).1
    refine goT (decide_eq_true (by omega)) (goC (inB_iff.2 ⟨by omega, by omega⟩) ?_)
    refine goS (y := false) ?_ (goF rfl ?_)
    · rw [missesR_ok hm.1 hm.2 hlen, misses_ok hm.1 hlen, eachR_ok hm.1 hm.2 hlen, each_ok' hm.1 hlen]
      simp [ints_refl (a := eachL m.line m.sets m.ways t) (by omega)]
    refine goE (fun _ => True) ?_ fun _ _ => goR ⟨by rw [w64_of (by omega)], trivial⟩
    refine ok_for t (fun i (s : Unit) => i) (fun s e => ()) (fun i s => True) (s0 := ()) rfl trivial ?_ ?_
    · rintro k hk s _ _
      refine goT (decide_eq_true (by omega)) (goC (inB_iff.2 ⟨by omega, by omega⟩) ?_)
      refine goS (touched_ok ..) (goC (inB_iff.2 ⟨by omega, by omega⟩) ?_)
      refine goS parts_ok (goS (ints_refl (by have := fun a b c => touched_len a b c; refine Nat.le_trans (this ..) (by omega))) (goF rfl (goR ⟨by rw [w64_of (by omega)], trivial⟩)))
    · rintro s _ _
      exact goF (decide_eq_false (by omega)) (goR trivial)
  · rintro s _ _
    exact goF (decide_eq_false (by omega)) (goR trivial)
end Go.Fg.Ytdioheaklahnnaa
