/-
  Chapter 18, plain: the four laws.
-/
import Derived.Test.YtdddhnagekhihaaLd
namespace Go.Fg.Ytdddhnagekhihaa
open Go.Fw
set_option linter.unusedVariables false
set_option linter.unusedSimpArgs false

theorem tok_of {n : Int} {t : List FetchS} (hn : n ≤ 100) (h1 : (t.length : Int) ≤ n) (h2 : ∀ f ∈ t, FOk f) : TOk t := ⟨by omega, h2⟩

theorem dist_len : ∀ (t s o : List Int), (t.foldl stepD (s, o)).2.length = o.length + t.length
  | [], s, o => by simp
  | p :: t, s, o => by
    rw [List.foldl_cons]
    have e : stepD (s, o) p = (p :: s.erase p, o ++ [dval s p]) := rfl
    rw [e, dist_len t]; simp; omega

theorem exact18 {l : List Int} (hl : Bytes l) : f3 l = some true := by
  apply ok_eq
  unfold f3
  refine goS awake_ok (goF rfl ?_)
  refine goB _ (new_ok hl (by decide)) fun c2 ⟨k2, hb⟩ => ?_
  obtain ⟨cs, at0⟩ := c2
  simp only at k2 hb
  subst k2
  refine draw hb (Int.le_refl _) (by decide) fun v1 j1 a0 a1 h1 => ?_
  refine draw hb h1 (by decide) fun v2 j2 b0 b1 h2 => ?_
  have hR : w64 (1 + v1) = 1 + v1 := w64_of (by omega)
  refine goE (fun y => y.1 = cs ∧ 0 ≤ y.2) ?_ ?_
  · refine ok_down (fun i (s : List Int × (List Int × Int)) => (s.1, (i, (s.2.1, s.2.2)))) (fun s => (s.1.length ≤ 5 ∧ s.1.Nodup) ∧ s.2.1 = cs ∧ 0 ≤ s.2.2) (s0 := ([], (cs, j2))) rfl b0 ⟨⟨by simp, List.nodup_nil⟩, rfl, h2⟩ ?_ ?_
    · rintro i ⟨x, cs', a⟩ i0 i1 ⟨⟨k1, k2⟩, k3, k4⟩
      simp only at k1 k2 k3 k4
      subst k3
      refine goT (decide_eq_true i0) ?_
      refine draw hb k4 (by decide) fun page j4 d0 d1 h4 => ?_
      rw [hR]
      have e1 := touch_ok (s := x) (ways := 1 + v1) (line := page) (by omega) (by omega)
      have e2 := touchR_ok (s := x) (ways := 1 + v1) (line := page) k2 (by omega) (by omega)
      refine goS e1 (goS e2 ?_)
      have hlen : (useL x (1 + v1) page).length ≤ 5 := by have := useL_len (s := x) (w := 1 + v1) (x := page); omega
      refine goS (y := false) ?_ (goF rfl (goR ⟨(useL x (1 + v1) page, (cs', j4)), ?_, ⟨hlen, useL_nodup k2⟩, rfl, h4⟩))
      · simp only [bne_self_eq_false, cond_false]
        rw [ints_refl (by omega)]; rfl
      · simp only [w64_of (x := i - 1) (by omega)]
    · rintro ⟨x, cs', a⟩ ⟨k1, k2, k3⟩
      exact goF rfl (goR ⟨k2, k3⟩)
  rintro ⟨cs', k⟩ ⟨rfl, k1⟩
  simp only at k1
  refine goB _ (trace_ok hb k1 (by decide)) ?_
  rintro ⟨cs4, j4, t⟩ ⟨rfl, h4, ht, hf⟩
  simp only at h4 ht hf
  have hT : TOk t := tok_of (by decide) ht hf
  refine goB _ (model_ok hb h4) ?_
  rintro m1 ⟨u1, u2, u3⟩
  rw [u2]
  refine goB _ (modelR_ok hb u3) ?_
  rintro m2 ⟨v1, v2, v3⟩
  generalize hms : (ModelS.mk m1.1 _ _ _ _ _ _ _ _ _ _ _ :: _ : List ModelS) = ms
  have hmm : ms.length = 2 ∧ ∀ m ∈ ms, PgOk m.page m.resident := by
    subst hms
    refine ⟨rfl, fun m hm => ?_⟩
    simp only [List.mem_cons, List.not_mem_nil, or_false] at hm
    rcases hm with rfl | rfl
    · exact .inr u1
    · exact v1
  refine goE (fun _ => True) ?_ fun _ _ => goR rfl
  refine ok_for ms (fun i (s : Unit) => (t, i)) (fun s e => ()) (fun i s => True) (s0 := ()) rfl trivial ?_ ?_
  · rintro i hi s _ _
    have hm := hmm.2 _ (List.getElem_mem hi)
    have hd : ms.getD (Int.toNat ((Int.toNat (i : Int) : Nat) : Int)) (ModelS.mk 0 0 0 0 0 0 0 0 0 0 0 0) = ms[i] := by rw [Int.toNat_natCast, Int.toNat_natCast]; exact getD_at _ hi
    simp only [hd]
    generalize ms[i] = m at hm
    have hr : m.resident ≤ 1024 := by unfold PgOk at hm; omega
    have hs : m.resident < 1 ∨ (1 ≤ m.page ∧ m.page ≤ 65536) := by unfold PgOk at hm; omega
    have hel := (eachL_ok (size := m.page) (res := m.resident) (hs.imp id fun h => h.1) hT).1
    have hL := hT.1
    refine goT (decide_eq_true (by omega)) (goC (inB_iff.2 ⟨by omega, by omega⟩) ?_)
    refine goS (y := false) ?_ (goF rfl ?_)
    · rw [faults_ok hs hr hT, faultsR_ok hs hr hT, each_ok hs hr hT, eachR_ok hs hr hT]
      simp [ints_refl (a := eachL m.page m.resident t) (by omega)]
    refine goB (fun y => y = false) (goI (fun h => ?_) fun _ => goR rfl) ?_
    · rw [dec_iff] at h
      have hp : 1 ≤ m.page ∧ m.page ≤ 65536 := by unfold PgOk at hm; omega
      obtain ⟨y, e1, e2, e3⟩ := pages_eq hp hT
      have hy : (y.length : Int) = newR [] (pgs m.page t) := pages_count e3
      have hy2 : ((mtf (pgs m.page t)).length : Int) = newR [] (pgs m.page t) := by have := newR_len (pgs m.page t) []; simpa [mtf] using this
      have hy3 := mtf_len (pgs m.page t)
      have hy4 := pgs_len hp.1 hT.2
      have hd1 := distance_ok hp hT
      refine goS e1 (goS e2 (goS (ints_refl (by omega)) (goF rfl ?_)))
      refine goS hd1 (goS (distanceR_ok hp.1 hT) (goS (ints_refl ?_) (goR rfl)))
      have := dist_len (pgs m.page t) [] []
      unfold distL
      rw [this]; simp; omega
    · rintro _ rfl
      refine goF rfl (goR ⟨?_, trivial⟩)
      rw [w64_of (by omega)]
  · rintro s _ _
    exact goF (decide_eq_false (by omega)) (goR trivial)

/-! ### Distances and faults -/
theorem mem_take {x : Int} : ∀ {s : List Int} {k : Nat}, x ∈ s.take k ↔ x ∈ s ∧ s.idxOf x < k
  | [], k => by simp
  | a :: s, 0 => by simp
  | a :: s, k + 1 => by
    rw [List.take_succ_cons, List.mem_cons, List.mem_cons, mem_take, List.idxOf_cons]
    by_cases e : x = a
    · subst e; simp
    · have e' : (a == x) = false := by simpa using fun h : a = x => e h.symm
      simp [e, e']
def isF (res v : Int) : Bool := decide (v = 0) || decide (res < v)
def cntF (res : Int) (n v : Int) : Int := if isF res v = true then n + 1 else n
theorem dval_isF {res : Int} (hr : 0 ≤ res) {s : List Int} {p : Int} : isF res (dval s p) = true ↔ ¬ p ∈ s.take res.toNat := by
  unfold isF dval
  rw [mem_take, Bool.or_eq_true, decide_eq_true_eq, decide_eq_true_eq]
  by_cases h : p ∈ s
  · rw [if_pos h]; simp [h]; omega
  · rw [if_neg h]; simp [h]
theorem dist_count {res : Int} (hr : 0 ≤ res) : ∀ (t s o : List Int) (n : Int), (t.foldl stepD (s, o)).2.foldl (cntF res) n = o.foldl (cntF res) n + missR res.toNat s t
  | [], s, o, n => by simp [missR]
  | p :: t, s, o, n => by
    rw [List.foldl_cons]
    have e : stepD (s, o) p = (p :: s.erase p, o ++ [dval s p]) := rfl
    rw [e, dist_count hr t, List.foldl_append, missR]
    show cntF res _ _ + _ = _
    unfold cntF
    by_cases h : p ∈ s.take res.toNat
    · rw [if_pos h, if_neg (fun hc => (dval_isF hr).1 hc h)]; omega
    · rw [if_neg h, if_pos ((dval_isF hr).2 h)]; omega
theorem dval_nonneg (s : List Int) (p : Int) : 0 ≤ dval s p := by unfold dval; split <;> omega
theorem dist_nonneg : ∀ (t s o : List Int), (∀ v ∈ o, 0 ≤ v) → ∀ v ∈ (t.foldl stepD (s, o)).2, 0 ≤ v
  | [], s, o, h => h
  | p :: t, s, o, h => by
    rw [List.foldl_cons]
    refine dist_nonneg t _ _ fun v hv => ?_
    rcases List.mem_append.1 hv with hv | hv
    · exact h v hv
    · simp only [List.mem_singleton] at hv; subst hv; exact dval_nonneg _ _
theorem distances18 {l : List Int} (hl : Bytes l) : f4 l = some true := by
  apply ok_eq
  unfold f4
  refine goS awake_ok (goF rfl ?_)
  refine goB _ (new_ok hl (by decide)) fun c2 ⟨k2, hb⟩ => ?_
  obtain ⟨cs, at0⟩ := c2
  simp only at k2 hb
  subst k2
  refine goB _ (model_ok hb (Int.le_refl _)) ?_
  rintro m ⟨u1, u2, u3⟩
  rw [u2]
  refine goB _ (trace_ok hb u3 (by decide)) ?_
  rintro ⟨cs4, j4, t⟩ ⟨rfl, h4, ht, hf⟩
  simp only at h4 ht hf
  have hT : TOk t := tok_of (by decide) ht hf
  dsimp only
  generalize m.2.2.2.2.2.2.2.2.2.1 = page at *
  generalize m.2.2.2.2.2.2.2.2.2.2.1 = res at *
  have hp : 1 ≤ page ∧ page ≤ 65536 := by omega
  refine goS (distance_ok hp hT) ?_
  have hlen := dist_len (pgs page t) [] []
  have hnn := dist_nonneg (pgs page t) [] [] (by simp)
  have hcnt := dist_count (res := res) (by omega) (pgs page t) [] [] 0
  have hpl := pgs_len hp.1 hT.2
  have hL := hT.1
  have hdl : distL (pgs page t) = ((pgs page t).foldl stepD ([], [])).2 := rfl
  rw [← hdl] at hlen hnn hcnt
  generalize distL (pgs page t) = d at *
  simp only [List.length_nil, Nat.zero_add] at hlen
  refine goE (fun y => y = d.foldl (cntF res) 0) ?_ ?_
  · refine ok_for d (fun i (s : Int) => (s, i)) (cntF res) (fun i s => 0 ≤ s ∧ s ≤ i) (s0 := 0) rfl ⟨Int.le_refl _, by simp⟩ ?_ ?_
    · rintro i hi s ⟨s0, s1⟩ _
      have hd : d.getD (Int.toNat ((Int.toNat (i : Int) : Nat) : Int)) 0 = d[i] := by rw [Int.toNat_natCast, Int.toNat_natCast]; exact getD_at _ hi
      have hv := hnn _ (List.getElem_mem hi)
      have hin : inB (i : Int) d.length = true := inB_iff.2 ⟨by omega, by omega⟩
      simp only [hd]
      refine goT (decide_eq_true (by omega)) (goC hin (goF (decide_eq_false (by omega)) ?_))
      refine goS (y := isF res d[i]) ?_ ?_
      · apply ok_eq
        refine goC hin (goI (fun h => goR ?_) fun h => goC hin (goR ?_))
        · unfold isF; rw [h]; rfl
        · unfold isF; rw [h]; rfl
      refine goS (y := cntF res s d[i]) ?_ (goR ⟨?_, ?_, ?_⟩)
      · apply ok_eq
        refine goI (fun h => goR ?_) fun h => goR ?_
        · rw [w64_of (by omega)]; unfold cntF; rw [if_pos h]
        · unfold cntF; rw [if_neg (by rw [h]; decide)]
      · rw [w64_of (by omega)]
      · unfold cntF; split <;> omega
      · unfold cntF; split <;> omega
    · rintro s _ he
      exact goF (decide_eq_false (by omega)) (goR he)
  rintro _ rfl
  refine goS (faults_ok (.inr hp) (by omega) hT) (goR ?_)
  rw [eachL_sum (by omega), hcnt]
  simp

theorem resident18 {l : List Int} (hl : Bytes l) {more : Int} (hm : 0 ≤ more ∧ more ≤ 255) : f5 l more = some true := by
  apply ok_eq
  unfold f5
  refine goS awake_ok (goF rfl ?_)
  refine goB _ (new_ok hl (by decide)) fun c2 ⟨k2, hb⟩ => ?_
  obtain ⟨cs, at0⟩ := c2
  simp only at k2 hb
  subst k2
  refine goB _ (model_ok hb (Int.le_refl _)) ?_
  rintro m ⟨u1, u2, u3⟩
  rw [u2]
  refine goB _ (trace_ok hb u3 (by decide)) ?_
  rintro ⟨cs4, j4, t⟩ ⟨rfl, h4, ht, hf⟩
  simp only at h4 ht hf
  have hT : TOk t := tok_of (by decide) ht hf
  dsimp only
  generalize m.2.2.2.2.2.2.2.2.2.1 = page at *
  generalize m.2.2.2.2.2.2.2.2.2.2.1 = res at *
  have hp : 1 ≤ page ∧ page ≤ 65536 := by omega
  have e1 : w64 more = more := w64_of (by omega)
  have h6 := tmod_lt (a := more) (b := 8) hm.1 (by decide)
  rw [e1]
  generalize more.tmod 8 = r at h6
  rw [w64_of (x := res + r) (by omega)]
  obtain ⟨y, hy, _, h2⟩ := pages_eq hp hT
  have hc := pages_count h2
  have hpl := pgs_len hp.1 hT.2
  have hL := hT.1
  refine goS hy ?_
  refine goS (faults_ok (.inr hp) (by omega) hT) (goS (faults_ok (.inr hp) (by omega) hT) ?_)
  rw [eachL_sum (by omega), eachL_sum (by omega), hc]
  have q1 : missR (res + r).toNat [] (pgs page t) ≤ missR res.toNat [] (pgs page t) := missR_mono (by omega) _ _
  have q2 : newR [] (pgs page t) ≤ missR (res + r).toNat [] (pgs page t) := newR_le _ _
  have q3 : missR (1024 : Int).toNat [] (pgs page t) = newR [] (pgs page t) := newR_eq _ _ (by simp; omega)
  refine goB (fun y => y = true) ?_ fun y hy => goR hy
  refine goT (decide_eq_true q1) (goT (decide_eq_true q2) (goS (faults_ok (.inr hp) (by decide) hT) (goR ?_)))
  rw [eachL_sum (by decide), q3]
  simp

/-! ### Step by step -/
def stepN (res : Int) (st : List Int × Int) (p : Int) : List Int × Int := (useL st.1 res p, if p ∈ st.1 then st.2 else st.2 + 1)
theorem stepN_miss {res : Int} : ∀ (t s : List Int) (n : Int), (t.foldl (stepN res) (s.take res.toNat, n)).2 = n + missR res.toNat s t
  | [], s, n => by simp [missR]
  | p :: t, s, n => by
    have e : stepN res (s.take res.toNat, n) p = ((p :: s.erase p).take res.toNat, if p ∈ s.take res.toNat then n else n + 1) := by unfold stepN; rw [useL_take]
    rw [List.foldl_cons, e, stepN_miss t, missR]
    split <;> omega
theorem fold_pgs {size res : Int} : ∀ (l : List FetchS) (s : List Int × Int), l.foldl (fun s f => (pagesOf size f).foldl (stepN res) s) s = (pgs size l).foldl (stepN res) s
  | [], s => rfl
  | f :: l, s => by
    rw [List.foldl_cons, fold_pgs l]
    unfold pgs
    rw [List.flatMap_cons, List.foldl_append]
theorem steps18 {l : List Int} (hl : Bytes l) : f6 l = some true := by
  apply ok_eq
  unfold f6
  refine goS awake_ok (goF rfl ?_)
  refine goB _ (new_ok hl (by decide)) fun c2 ⟨k2, hb⟩ => ?_
  obtain ⟨cs, at0⟩ := c2
  simp only at k2 hb
  subst k2
  refine goB _ (model_ok hb (Int.le_refl _)) ?_
  rintro m ⟨u1, u2, u3⟩
  rw [u2]
  refine goB _ (trace_ok hb u3 (by decide)) ?_
  rintro ⟨cs4, j4, t⟩ ⟨rfl, h4, ht, hf⟩
  simp only at h4 ht hf
  have hT : TOk t := tok_of (by decide) ht hf
  dsimp only
  generalize m.2.2.2.2.2.2.2.2.2.1 = page at *
  generalize m.2.2.2.2.2.2.2.2.2.2.1 = res at *
  have hp : 1 ≤ page ∧ page ≤ 65536 := by omega
  have hL := hT.1
  refine goE (fun y => y = missR res.toNat [] (pgs page t)) ?_ ?_
  · have e0 : (t.foldl (fun s f => (pagesOf page f).foldl (stepN res) s) ([], 0)).2 = missR res.toNat [] (pgs page t) := by
      rw [fold_pgs]
      have := stepN_miss (res := res) (pgs page t) [] 0
      rw [List.take_nil] at this
      rw [this]; omega
    refine ok_for t (fun i (s : List Int × Int) => (s.1, (s.2, i))) (fun s f => (pagesOf page f).foldl (stepN res) s) (fun i s => s.1.length ≤ res.toNat ∧ 0 ≤ s.2 ∧ s.2 ≤ 10 * i) (s0 := ([], 0)) rfl ⟨by simp, Int.le_refl _, by simp⟩ ?_ ?_
    · rintro i hi ⟨r, n⟩ ⟨r0, n0, n1⟩ _
      simp only at r0 n0 n1
      have hd : t.getD (Int.toNat ((Int.toNat (i : Int) : Nat) : Int)) (FetchS.mk 0 0 0) = t[i] := by rw [Int.toNat_natCast, Int.toNat_natCast]; exact getD_at _ hi
      have hin : inB (i : Int) t.length = true := inB_iff.2 ⟨by omega, by omega⟩
      have hfo := hT.2 _ (List.getElem_mem hi)
      simp only [hd]
      have hpl := pages_len hp.1 hfo
      have hsp : pagesOf page t[i] = span (t[i].address / page) ((t[i].address + t[i].size - 1) / page - t[i].address / page + 1).toNat := pagesOf_span (by unfold badF FOk at *; omega)
      generalize t[i] = f at *
      obtain ⟨⟨f0, f1⟩, f2, f3⟩ := hfo
      refine goT (decide_eq_true (by omega)) (goC hin (goC (by rw [not_iff, dec_iff']; omega) ?_))
      have ha : f.address / page ≤ f.address ∧ 0 ≤ f.address / page := ⟨Int.ediv_le_self _ (by omega), Int.ediv_nonneg (by omega) (by omega)⟩
      have hz : (f.address + f.size - 1) / page ≤ f.address + f.size - 1 ∧ f.address / page ≤ (f.address + f.size - 1) / page := ⟨Int.ediv_le_self _ (by omega), Int.ediv_le_ediv (by omega) (by omega)⟩
      rw [w64_of (x := f.address + f.size) (by omega), w64_of (x := f.address + f.size - 1) (by omega), Int.tdiv_eq_ediv_of_nonneg (a := f.address) (by omega), Int.tdiv_eq_ediv_of_nonneg (a := f.address + f.size - 1) (by omega), w64_of (x := f.address / page) (by omega), w64_of (x := (f.address + f.size - 1) / page) (by omega)]
      generalize f.address / page = lo at *
      generalize (f.address + f.size - 1) / page = hi' at *
      refine goE (fun y => y = (pagesOf page f).foldl (stepN res) (r, n) ∧ y.1.length ≤ res.toNat ∧ 0 ≤ y.2 ∧ y.2 ≤ 10 * (i + 1)) ?_ ?_
      · have hel : (pagesOf page f).length = (hi' - lo + 1).toNat := by rw [hsp, span_len]
        have hge : ∀ j (h : j < (pagesOf page f).length), (pagesOf page f)[j] = lo + j := by
          intro j h
          simp only [hsp, span, List.getElem_map, List.getElem_range]
        generalize pagesOf page f = ps at *
        refine ok_for ps (fun j (s : List Int × Int) => (s.1, (s.2, lo + j))) (stepN res) (fun j s => s.1.length ≤ res.toNat ∧ 0 ≤ s.2 ∧ s.2 ≤ 10 * i + j) (s0 := (r, n)) (by simp) ⟨r0, n0, by simp; omega⟩ ?_ ?_
        · rintro j hj ⟨r, n⟩ ⟨r0, n0, n1⟩ _
          simp only at r0 n0 n1
          dsimp only
          refine goC hin (goC hin (goC (by rw [not_iff, dec_iff']; omega) (goT (decide_eq_true (by omega)) ?_)))
          refine goS (touch_ok (by omega) (by omega)) ?_
          refine goS (y := (stepN res (r, n) (lo + j)).2) ?_ ?_
          · apply ok_eq
            refine goI (fun h => goR ?_) fun h => goR ?_
            · have : ¬ lo + (j : Int) ∈ r := by simpa using h
              rw [w64_of (by omega)]; unfold stepN; rw [if_neg this]
            · have : lo + (j : Int) ∈ r := by simpa using h
              unfold stepN; rw [if_pos this]
          have hul := useL_len (s := r) (w := res) (x := lo + (j : Int))
          have hhead : ∃ r', useL r res (lo + (j : Int)) = (lo + (j : Int)) :: r' := by
            unfold useL
            have : res.toNat = res.toNat - 1 + 1 := by omega
            rw [this, List.take_succ_cons]
            exact ⟨_, rfl⟩
          refine goS (y := false) ?_ (goF rfl (goR ⟨?_, by rw [hge j hj]; exact hul, ?_, ?_⟩))
          · apply ok_eq
            obtain ⟨r', hr'⟩ := hhead
            rw [hr'] at hul ⊢
            rw [List.length_cons] at hul
            refine goF (decide_eq_false (by rw [List.length_cons]; omega)) (goF (decide_eq_false (by rw [List.length_cons]; omega)) (goC (inB_iff.2 ⟨by omega, by rw [List.length_cons]; omega⟩) (goR ?_)))
            simp
          · rw [hge j hj, w64_of (by omega)]
            show (_, (_, _)) = (_, (_, _))
            rw [show lo + ((j : Int) + 1) = lo + (j : Int) + 1 by omega]
            rfl
          · rw [hge j hj]; unfold stepN; simp only; split <;> omega
          · rw [hge j hj]; unfold stepN; simp only; split <;> omega
        · rintro ⟨r, n⟩ ⟨r0, n0, n1⟩ he
          simp only at r0 n0 n1
          dsimp only
          refine goC hin (goC hin (goC (by rw [not_iff, dec_iff']; omega) (goF (decide_eq_false (by omega)) (goR ⟨he, r0, n0, ?_⟩))))
          simp only; omega
      · rintro y ⟨hy, k0, k1, k2⟩
        refine goR ⟨?_, ?_, ?_, ?_⟩
        · rw [w64_of (by omega), ← hy]
        · rw [← hy]; exact k0
        · rw [← hy]; exact k1
        · rw [← hy]; omega
    · rintro ⟨r, n⟩ _ he
      dsimp only
      refine goF (decide_eq_false (by omega)) (goR ?_)
      show n = _
      rw [← e0, ← he]
  rintro _ rfl
  refine goS (faults_ok (.inr hp) (by omega) hT) (goR ?_)
  rw [eachL_sum (by omega)]
  simp
end Go.Fg.Ytdddhnagekhihaa
