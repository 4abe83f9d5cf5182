/-
  Chapter 18, plain: the pages that fetches touch.
-/
import Derived.Test.YtdddhnagekhihaaLa
namespace Go.Fg.Ytdddhnagekhihaa
open Go.Fw
set_option linter.unusedVariables false
set_option linter.unusedSimpArgs false

def badF (f : FetchS) : Prop := f.size < 1 ∨ f.size > 1048576 ∨ f.address < 0 ∨ f.address > 1048576
theorem pagesOf_bad {size : Int} {f : FetchS} (h : badF f) : pagesOf size f = [] := by
  unfold pagesOf
  have e : (decide (f.size < 1) || decide (f.size > 1048576) || decide (f.address < 0) || decide (f.address > 1048576)) = true := by
    simp only [Bool.or_eq_true, decide_eq_true_eq]
    unfold badF at h; omega
  rw [e]; rfl
def span (lo : Int) (n : Nat) : List Int := (List.range n).map fun k => lo + (k : Nat)
theorem span_succ (lo : Int) (n : Nat) : span lo (n + 1) = span lo n ++ [lo + n] := by simp [span, List.range_succ]
theorem span_len (lo : Int) (n : Nat) : (span lo n).length = n := by simp [span]
theorem pagesOf_span {size : Int} {f : FetchS} (h : ¬ badF f) : pagesOf size f = span (f.address / size) ((f.address + f.size - 1) / size - f.address / size + 1).toNat := by
  unfold badF at h
  exact pagesOf_good size f (by omega) (by omega) (by omega) (by omega)
theorem parts_ok {size : Int} (hs : 1 ≤ size) (a n kind : Int) : f31 size a n kind = some (pagesOf size (FetchS.mk a n kind)) := by
  apply ok_eq
  unfold f31
  simp only [ok_bif, ok_bind, ok_some, ok_ck, dec_iff, dec_iff', not_iff, not_iff']
  have hb : badF (FetchS.mk a n kind) → [] = pagesOf size (FetchS.mk a n kind) := fun h => (pagesOf_bad h).symm
  have fin : ¬ badF (FetchS.mk a n kind) → ¬ size = 0 ∧ Ok (loopM (fun (s9 : (Int × (List Int))) =>
        ck (!(decide (size = (0 : Int)))) <|
        bif (decide (s9.1 ≤ (w64 (Int.tdiv (w64 ((w64 (a + n)) - (1 : Int))) size)))) then
          ck (true && (decide ((((List.length s9.2) + (List.length [s9.1])) * (8 : Nat)) ≤ (140737488355328 : Nat)))) <|
          some (.inl ((w64 (s9.1 + (1 : Int))), (s9.2 ++ [s9.1])))
        else
          some (.inr s9.2)) ((w64 (Int.tdiv a size)), ([] : (List Int)))) (fun y => y = pagesOf size (FetchS.mk a n kind)) := by
    intro h
    have et := pagesOf_span (size := size) h
    unfold badF at h
    simp only at h et
    refine ⟨by omega, ?_⟩
    have ha : a / size ≤ a ∧ 0 ≤ a / size := ⟨Int.ediv_le_self _ (by omega), Int.ediv_nonneg (by omega) (by omega)⟩
    have hz : (a + n - 1) / size ≤ a + n - 1 ∧ a / size ≤ (a + n - 1) / size := ⟨Int.ediv_le_self _ (by omega), Int.ediv_le_ediv (by omega) (by omega)⟩
    rw [w64_of (x := a + n) (by omega), w64_of (x := a + n - 1) (by omega), Int.tdiv_eq_ediv_of_nonneg (a := a) (by omega), Int.tdiv_eq_ediv_of_nonneg (a := a + n - 1) (by omega), w64_of (x := a / size) (by omega), w64_of (x := (a + n - 1) / size) (by omega)]
    generalize a / size = lo at *
    generalize (a + n - 1) / size = hi at *
    refine ok_loop (fun s : Int × List Int => lo ≤ s.1 ∧ s.1 ≤ hi + 1 ∧ s.2 = span lo (s.1 - lo).toNat) (fun s => (hi + 1 - s.1).toNat) ⟨Int.le_refl _, by simp only; omega, by simp [span]⟩ ?_
    rintro ⟨i, out⟩ ⟨q0, q1, q2⟩
    simp only at q0 q1 q2
    simp only [ok_bif, ok_bind, ok_some, ok_ck, dec_iff, dec_iff', not_iff, not_iff', sumQ_inl, sumQ_inr]
    have hol : out.length = (i - lo).toNat := by rw [q2, span_len]
    refine ⟨by omega, fun h3 => ⟨by simp [hol]; omega, ?_⟩, fun h3 => ?_⟩
    · rw [w64_of (by omega)]
      refine ⟨⟨by omega, by omega, ?_⟩, by omega⟩
      rw [q2, show (i + 1 - lo).toNat = (i - lo).toNat + 1 by omega, span_succ, show lo + ((i - lo).toNat : Int) = i by omega]
    · rw [q2, et]; congr 1; omega
  refine ⟨fun h3 => ⟨fun _ => hb (.inl h3), fun h => (by cases h)⟩, fun h3 =>
    ⟨fun h4 => ⟨fun _ => hb (.inr (.inl h4)), fun h => (by cases h)⟩, fun h4 => ⟨fun h5 => ⟨fun _ => hb (.inr (.inr (.inl h5))), fun h => (by cases h)⟩, fun h5 => ⟨fun h6 => hb (.inr (.inr (.inr h6))), fun h6 => fin (by unfold badF; simp only; omega)⟩⟩⟩⟩

/-- traces that are drawn -/
def TOk (l : List FetchS) : Prop := l.length ≤ 100 ∧ ∀ f ∈ l, FOk f
theorem pages_len {size : Int} (hs : 1 ≤ size) {f : FetchS} (h : FOk f) : (pagesOf size f).length ≤ 10 := by
  obtain ⟨⟨h0, h1⟩, h2, h3⟩ := h
  rw [pagesOf_span (by unfold badF; omega), span_len]
  generalize f.address = a at *
  generalize f.size = n at *
  have h1 : (a + n - 1) / size < a / size + n := by
    refine Int.ediv_lt_of_lt_mul (by omega) ?_
    have e1 : a < (a / size + 1) * size := Int.lt_ediv_add_one_mul_self a (by omega)
    have e2 : (n - 1) * 1 ≤ (n - 1) * size := Int.mul_le_mul_of_nonneg_left (by omega) (by omega)
    have e3 : (a / size + n) * size = (a / size + 1) * size + (n - 1) * size := by rw [← Int.add_mul]; congr 1; omega
    omega
  omega
theorem pages_mem {size : Int} (hs : 1 ≤ size) {f : FetchS} (h : FOk f) : ∀ p ∈ pagesOf size f, 0 ≤ p ∧ p ≤ 88 := by
  obtain ⟨⟨h0, h1⟩, h2, h3⟩ := h
  rw [pagesOf_span (by unfold badF; omega)]
  intro p hp
  simp only [span, List.mem_map, List.mem_range] at hp
  obtain ⟨k, hk, rfl⟩ := hp
  have ha : 0 ≤ f.address / size := Int.ediv_nonneg (by omega) (by omega)
  have hz : (f.address + f.size - 1) / size ≤ f.address + f.size - 1 := Int.ediv_le_self _ (by omega)
  omega
def pgs (size : Int) (l : List FetchS) : List Int := l.flatMap (pagesOf size)
theorem pgs_len {size : Int} (hs : 1 ≤ size) : ∀ {l : List FetchS}, (∀ f ∈ l, FOk f) → (pgs size l).length ≤ 10 * l.length
  | [], _ => by simp [pgs]
  | f :: l, h => by
    have h1 := pages_len hs (h f (by simp))
    have h2 := pgs_len hs (l := l) fun g hg => h g (by simp [hg])
    unfold pgs at h2 ⊢
    rw [List.flatMap_cons, List.length_append, List.length_cons]; omega
theorem pgs_mem {size : Int} (hs : 1 ≤ size) {l : List FetchS} (h : ∀ f ∈ l, FOk f) : ∀ p ∈ pgs size l, 0 ≤ p ∧ p ≤ 88 := by
  intro p hp
  obtain ⟨f, hf, hp⟩ := List.mem_flatMap.1 hp
  exact pages_mem hs (h f hf) p hp
theorem rows_snd (size : Int) : ∀ (l : List FetchS) (i : Nat), (rowsOf size i l).map Prod.snd = pgs size l
  | [], i => rfl
  | f :: l, i => by
    have e : (Prod.snd ∘ fun p => ((i : Int), p)) = (id : Int → Int) := rfl
    simp [rowsOf, rows_snd size l, pgs, e]
theorem rows_fst (size : Int) : ∀ (l : List FetchS) (i : Nat), ∀ r ∈ rowsOf size i l, (i : Int) ≤ r.1 ∧ r.1 < i + l.length
  | [], i, r, h => by cases h
  | f :: l, i, r, h => by
    simp only [rowsOf, List.mem_append, List.mem_map] at h
    rcases h with ⟨p, _, rfl⟩ | h
    · simp only [List.length_cons]; omega
    · have := rows_fst size l (i + 1) r h
      simp only [List.length_cons]; omega
theorem rows_len {size : Int} (l : List FetchS) (i : Nat) : (rowsOf size i l).length = (pgs size l).length := by rw [← rows_snd size l i, List.length_map]
theorem tou_ok {size : Int} {l : List FetchS} (hs : 1 ≤ size ∧ size ≤ 65536) (hl : l.length ≤ 100) : f30 size l = some (rowsOf size 0 l) := by
  show fTou size l = _
  unfold fTou
  have e : decide (l.length < 4611686018427387904) = true := by simp; omega
  rw [e]
  show some (touchesL size l) = _
  unfold touchesL
  have e : (decide (size < 1) || decide (size > 65536)) = false := by simp; omega
  rw [e]; rfl
theorem touches_ok {size : Int} {l : List FetchS} (hs : 1 ≤ size) (hl : TOk l) : f34 size l = some (pgs size l) := by
  apply ok_eq
  unfold f34
  refine goB (fun y => y = pgs size l) ?_ fun y hy => goR hy
  refine ok_for l (fun i (s : List Int) => (i, s)) (fun s f => s ++ pagesOf size f) (fun i s => s = pgs size (l.take i)) (s0 := []) rfl rfl ?_ ?_
  · rintro i hi s he _
    have hd : l.getD (Int.toNat (i : Int)) (FetchS.mk 0 0 0) = l[i] := by rw [Int.toNat_natCast]; exact getD_at _ hi
    have hL := hl.1
    have e : pgs size (l.take (i + 1)) = pgs size (l.take i) ++ pagesOf size l[i] := by unfold pgs; rw [take_snoc hi, List.flatMap_append]; simp
    have h1 : s.length ≤ 10 * (l.take i).length := by rw [he]; exact pgs_len hs fun f hf => hl.2 f (List.mem_of_mem_take hf)
    have h2 := pages_len hs (hl.2 _ (List.getElem_mem hi))
    simp only [hd]
    refine goT (decide_eq_true (by omega)) (goC (inB_iff.2 ⟨by omega, by omega⟩) (goS (parts_ok hs ..) ?_))
    have ef : FetchS.mk l[i].address l[i].size l[i].kind = l[i] := rfl
    rw [ef]
    refine goC (by simp at h1 ⊢; omega) (goR ⟨?_, ?_⟩)
    · rw [w64_of (by omega)]
    · rw [e, he]
  · rintro s he _
    rw [List.take_length] at he
    exact goF (decide_eq_false (by omega)) (goR he)

/-! ### Faults of each fetch -/
def stepE (res : Int) (st : List Int × List Int) (r : Int × Int) : List Int × List Int := (useL st.1 res r.2, if r.2 ∈ st.1 then st.2 else st.2.set r.1.toNat (st.2.getD r.1.toNat 0 + 1))
def eachL (size res : Int) (l : List FetchS) : List Int := if res < 1 then List.replicate l.length 0 else ((rowsOf size 0 l).foldl (stepE res) ([], List.replicate l.length 0)).2
/-- what is resident, and the counts, after k touches -/
def EOk (res : Int) (n k : Nat) (s : List Int × List Int) : Prop := (s.1.length ≤ res.toNat ∧ s.1.Nodup) ∧ s.2.length = n ∧ ∀ v ∈ s.2, 0 ≤ v ∧ v ≤ k
theorem mem_set {l : List Int} {i : Nat} {x v : Int} (h : v ∈ l.set i x) : v ∈ l ∨ v = x := by
  rcases List.mem_or_eq_of_mem_set h with h | h
  · exact .inl h
  · exact .inr h
theorem stepE_ok {res : Int} {n k : Nat} {s : List Int × List Int} (h : EOk res n k s) {r : Int × Int} (hr : 0 ≤ r.1 ∧ r.1 < n) : EOk res n (k + 1) (stepE res s r) := by
  obtain ⟨⟨h1, h2⟩, h3, h4⟩ := h
  refine ⟨⟨useL_len, useL_nodup h2⟩, ?_, fun v hv => ?_⟩
  · unfold stepE; simp only; split <;> simp [h3]
  · unfold stepE at hv; simp only at hv
    split at hv
    · have := h4 v hv; omega
    · rcases mem_set hv with hv | rfl
      · have := h4 v hv; omega
      · have : s.2.getD r.1.toNat 0 ∈ s.2 := by rw [getD_at _ (by omega)]; exact List.getElem_mem _
        have := h4 _ this; omega
theorem blt_true {a b : Nat} (h : a < b) : Nat.blt a b = true := by unfold Nat.blt; exact Nat.ble_eq_true_of_le h
theorem blt_false {a b : Nat} (h : ¬ a < b) : Nat.blt a b = false := by
  cases e : Nat.blt a b with
  | false => rfl
  | true => exact absurd (Nat.le_of_ble_eq_true (by unfold Nat.blt at e; exact e)) h
/-- the round: the counts -/
theorem count_ok {res : Int} {n k : Nat} {here out : List Int} {r : Int × Int} (h : EOk res n k (here, out)) (hk : k ≤ 1000) (hr : 0 ≤ r.1 ∧ r.1 < n) {b : Bool} (hb : b = !decide (r.2 ∈ here)) :
    (bif b then
      ck (inB r.1 out.length) <|
      let n6 : Int := (List.getD out (Int.toNat ((Int.toNat r.1) : Int)) (0 : Int))
      let n7 : Int := (w64 (n6 + (1 : Int)))
      ck (inB r.1 out.length) <|
      let n8 : (List Int) := (List.set out (Int.toNat ((Int.toNat r.1) : Int)) n7)
      some n8
    else
      some out) = some (stepE res (here, out) r).2 := by
  subst hb
  obtain ⟨_, h3, h4⟩ := h
  simp only at h3 h4
  have hin : inB r.1 out.length = true := inB_iff.2 ⟨hr.1, by omega⟩
  unfold stepE
  by_cases hm : r.2 ∈ here
  · simp [hm]
  · have : out.getD r.1.toNat 0 ∈ out := by rw [getD_at _ (by omega)]; exact List.getElem_mem _
    have := h4 _ this
    simp only [hm, decide_false, Bool.not_false, cond_true, hin, ck, Int.toNat_natCast, if_false]
    rw [w64_of (by omega)]
theorem each_ok {p0 p1 p2 p3 p4 p5 p6 p7 p8 p11 size res : Int} {l : List FetchS} (hs : res < 1 ∨ (1 ≤ size ∧ size ≤ 65536)) (hr : res ≤ 1024) (hl : TOk l) :
    f18 p0 p1 p2 p3 p4 p5 p6 p7 p8 size res p11 l = some (eachL size res l) := by
  apply ok_eq
  have hL := hl.1
  unfold f18
  refine goC (mkOk_iff.2 (by omega)) ?_
  rw [Int.toNat_natCast]
  refine goI (fun h => goR ?_) fun h => ?_
  · rw [dec_iff] at h
    unfold eachL
    rw [if_pos h]
  rw [dec_iff'] at h
  have hs : 1 ≤ size ∧ size ≤ 65536 := hs.resolve_left h
  have e : eachL size res l = ((rowsOf size 0 l).foldl (stepE res) ([], List.replicate l.length 0)).2 := by unfold eachL; rw [if_neg h]
  refine goS (tou_ok hs hL) ?_
  refine goB (fun y => y = eachL size res l) ?_ fun y hy => goR hy
  have hrl : (rowsOf size 0 l).length ≤ 1000 := by rw [rows_len]; have := pgs_len hs.1 hl.2; omega
  have hrf := rows_fst size l 0
  generalize rowsOf size 0 l = rows at *
  refine ok_rng rows (fun i (s : List Int × List Int) => ((p0, (p1, (p2, (p3, (p4, (p5, (p6, (p7, (p8, (size, (res, (p11, (s.1, s.2))))))))))))), i)) (stepE res) (fun i s => EOk res l.length i s) (s0 := ([], List.replicate l.length 0)) rfl
    ⟨⟨by simp, List.nodup_nil⟩, by simp, fun v hv => by rw [List.mem_replicate] at hv; omega⟩ ?_ ?_
  · rintro i hi ⟨here, out⟩ ho _
    have hri := hrf _ (List.getElem_mem hi)
    have hd : List.getD rows i ((0 : Int), (0 : Int)) = rows[i] := getD_at _ hi
    simp only [hd]
    refine goT (blt_true hi) ?_
    have hlen := ho.1.1
    simp only at hlen
    refine goS (y := ((stepE res (here, out) rows[i]).1, (p0, (p1, (p2, (p3, (p4, (p5, (p6, (p7, (p8, (size, (res, (p11, (stepE res (here, out) rows[i]).2)))))))))))))) ?_ (goR ⟨rfl, stepE_ok ho ⟨by omega, by omega⟩⟩)
    rw [touch_ok (by omega) (by omega)]
    simp only [Option.bind_some]
    rw [count_ok ho (by omega) ⟨by omega, by omega⟩ rfl]
    rfl
  · rintro ⟨here, out⟩ ho he
    refine goF (blt_false (Nat.lt_irrefl _)) (goR ?_)
    show out = _
    rw [e, ← he]
theorem eachL_ok {size res : Int} {l : List FetchS} (hs : res < 1 ∨ 1 ≤ size) (hl : TOk l) : (eachL size res l).length = l.length ∧ ∀ v ∈ eachL size res l, 0 ≤ v ∧ v ≤ 1048576 := by
  unfold eachL
  split
  · exact ⟨by simp, fun v hv => by rw [List.mem_replicate] at hv; omega⟩
  · rename_i h
    have hL := hl.1
    have hrl : (rowsOf size 0 l).length ≤ 1000 := by rw [rows_len]; have := pgs_len (hs.resolve_left h) hl.2; omega
    have hrf := rows_fst size l 0
    generalize rowsOf size 0 l = rows at *
    have key : ∀ (rows : List (Int × Int)) (k : Nat) (s : List Int × List Int), EOk res l.length k s → (∀ r ∈ rows, (0 : Int) ≤ r.1 ∧ r.1 < l.length) → EOk res l.length (k + rows.length) (rows.foldl (stepE res) s) := by
      intro rows
      induction rows with
      | nil => intro k s h _; exact h
      | cons r rows ih =>
        intro k s h hr
        have := ih (k + 1) _ (stepE_ok h (hr r (by simp))) fun r' hr' => hr r' (by simp [hr'])
        rw [List.foldl_cons, List.length_cons, show k + (rows.length + 1) = k + 1 + rows.length by omega]
        exact this
    have := key rows 0 ([], List.replicate l.length 0) ⟨⟨by simp, List.nodup_nil⟩, by simp, fun v hv => by rw [List.mem_replicate] at hv; omega⟩ fun r hr => by have := hrf r hr; omega
    exact ⟨this.2.1, fun v hv => by have := this.2.2 v hv; omega⟩
theorem faults_ok {p0 p1 p2 p3 p4 p5 p6 p7 p8 p11 size res : Int} {l : List FetchS} (hs : res < 1 ∨ (1 ≤ size ∧ size ≤ 65536)) (hr : res ≤ 1024) (hl : TOk l) :
    f16 p0 p1 p2 p3 p4 p5 p6 p7 p8 size res p11 l = some (sumL (eachL size res l)) := by
  have hL := hl.1
  unfold f16
  rw [each_ok hs hr hl]
  have ⟨h1, h2⟩ := eachL_ok (size := size) (res := res) (hs.imp id fun h => h.1) hl
  have ht := total_ok (by omega) h2
  unfold f29 at ht
  simp only [Int.toNat_natCast]
  exact ht
end Go.Fg.Ytdddhnagekhihaa
