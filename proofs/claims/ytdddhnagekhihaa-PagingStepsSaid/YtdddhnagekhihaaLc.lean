/-
  Chapter 18, plain: the document's faults; distances.
-/
import Derived.Test.YtdddhnagekhihaaLb
namespace Go.Fg.Ytdddhnagekhihaa
open Go.Fw
set_option linter.unusedVariables false
set_option linter.unusedSimpArgs false

/-! ### Each of the document -/
def stepG (size res : Int) (s : Nat × (List Int × List Int)) (f : FetchS) : Nat × (List Int × List Int) := (s.1 + 1, (pagesOf size f).foldl (fun t p => stepE res t ((s.1 : Int), p)) s.2)
theorem rows_fold {size res : Int} : ∀ (l : List FetchS) (i : Nat) (s : List Int × List Int), (rowsOf size i l).foldl (stepE res) s = (l.foldl (stepG size res) (i, s)).2
  | [], i, s => rfl
  | f :: l, i, s => by
    rw [rowsOf, List.foldl_append, List.foldl_map, List.foldl_cons, rows_fold l (i + 1)]
    rfl
theorem eachR_ok {p0 p1 p2 p3 p4 p5 p6 p7 p8 p11 size res : Int} {l : List FetchS} (hs : res < 1 ∨ (1 ≤ size ∧ size ≤ 65536)) (hr : res ≤ 1024) (hl : TOk l) :
    f19 p0 p1 p2 p3 p4 p5 p6 p7 p8 size res p11 l = some (eachL size res l) := by
  apply ok_eq
  have hL := hl.1
  unfold f19
  refine goC (mkOk_iff.2 (by omega)) ?_
  rw [Int.toNat_natCast]
  refine goB (fun y => y = eachL size res l) ?_ fun y hy => goR hy
  by_cases h : res < 1
  · have e : eachL size res l = List.replicate l.length 0 := by unfold eachL; rw [if_pos h]
    rw [e]
    refine ok_loop (fun s => s = (([] : List Int), ((0 : Int), List.replicate l.length (0 : Int)))) (fun _ => 0) rfl ?_
    rintro _ rfl
    refine goB (fun y => y = false) (goI (fun _ => goR (decide_eq_false (by omega))) fun _ => goR rfl) ?_
    rintro _ rfl
    exact goR rfl
  have hs : 1 ≤ size ∧ size ≤ 65536 := hs.resolve_left h
  have e : eachL size res l = ((rowsOf size 0 l).foldl (stepE res) ([], List.replicate l.length 0)).2 := by unfold eachL; rw [if_neg h]
  rw [rows_fold] at e
  refine ok_for l (fun i (s : Nat × (List Int × List Int)) => (s.2.1, (i, s.2.2))) (stepG size res) (fun i s => s.1 = i ∧ EOk res l.length (10 * i) s.2) (s0 := (0, ([], List.replicate l.length 0))) rfl
    ⟨rfl, ⟨by simp, List.nodup_nil⟩, by simp, fun v hv => by rw [List.mem_replicate] at hv; omega⟩ ?_ ?_
  · rintro i hi ⟨i', here, out⟩ ⟨rfl, ho⟩ _
    dsimp only at hi ho ⊢
    have hd : l.getD (Int.toNat (i' : Int)) (FetchS.mk 0 0 0) = l[i'] := by rw [Int.toNat_natCast]; exact getD_at _ hi
    have ef : FetchS.mk l[i'].address l[i'].size l[i'].kind = l[i'] := rfl
    refine goS (y := true) ?_ (goT rfl ?_)
    · rw [decide_eq_true (by omega : (i' : Int) < (l.length : Int)), decide_eq_true (by omega : 0 < res)]; rfl
    refine goC (inB_iff.2 ⟨by omega, by omega⟩) ?_
    simp only [hd]
    refine goS (parts_ok hs.1 ..) ?_
    rw [ef]
    have hpl := pages_len hs.1 (hl.2 _ (List.getElem_mem hi))
    have eg : stepG size res (i', (here, out)) l[i'] = (i' + 1, (pagesOf size l[i']).foldl (fun t p => stepE res t ((i' : Int), p)) (here, out)) := rfl
    rw [eg]
    generalize pagesOf size l[i'] = t at *
    refine goB (fun y => y = t.foldl (fun t p => stepE res t ((i' : Int), p)) (here, out) ∧ EOk res l.length (10 * (i' + 1)) y) ?_ ?_
    · refine ok_for t (fun k (s : List Int × List Int) => (s.1, (k, s.2))) (fun t p => stepE res t ((i' : Int), p)) (fun k s => EOk res l.length (10 * i' + k) s) (s0 := (here, out)) rfl ho ?_ ?_
      · rintro k hk ⟨here, out⟩ ho _
        have hd : t.getD (Int.toNat ((Int.toNat (k : Int) : Nat) : Int)) 0 = t[k] := by rw [Int.toNat_natCast, Int.toNat_natCast]; exact getD_at _ hk
        simp only [hd]
        refine goT (decide_eq_true (by omega)) (goC (inB_iff.2 ⟨by omega, by omega⟩) ?_)
        have hlen := ho.1.1
        simp only at hlen
        refine goS (touchR_ok ho.1.2 (by omega) (by omega)) ?_
        refine goS (count_ok (r := ((i' : Int), t[k])) ho (by omega) ⟨by simp only; omega, by simp only; omega⟩ rfl) (goR ⟨?_, stepE_ok ho ⟨by simp only; omega, by simp only; omega⟩⟩)
        rw [w64_of (by omega)]; rfl
      · rintro ⟨here, out⟩ ho he
        dsimp only
        refine goF (decide_eq_false (by omega)) (goR ⟨he, ho.1, ho.2.1, fun v hv => ?_⟩)
        have := ho.2.2 v hv; omega
    · rintro y ⟨hy, hy2⟩
      refine goR ⟨?_, ?_, ?_⟩
      · rw [w64_of (by omega), ← hy]
      · rfl
      · rw [← hy]; exact hy2
  · rintro ⟨i', here, out⟩ ⟨h1, ho⟩ he
    dsimp only
    refine goS (y := false) (by rw [decide_eq_false (by omega)]; rfl) (goF rfl (goR ?_))
    show out = _
    rw [e, ← he]
theorem faultsR_ok {p0 p1 p2 p3 p4 p5 p6 p7 p8 p11 size res : Int} {l : List FetchS} (hs : res < 1 ∨ (1 ≤ size ∧ size ≤ 65536)) (hr : res ≤ 1024) (hl : TOk l) :
    f17 p0 p1 p2 p3 p4 p5 p6 p7 p8 size res p11 l = some (sumL (eachL size res l)) := by
  have hL := hl.1
  unfold f17
  rw [eachR_ok hs hr hl]
  have ⟨h1, h2⟩ := eachL_ok (size := size) (res := res) (hs.imp id fun h => h.1) hl
  simp only [Option.bind_some]
  rw [total_ok (by omega) h2]; rfl

/-! ### Distances -/
def dval (s : List Int) (p : Int) : Int := if p ∈ s then (s.idxOf p : Int) + 1 else 0
def stepD (st : List Int × List Int) (p : Int) : List Int × List Int := (p :: st.1.erase p, st.2 ++ [dval st.1 p])
def distL (t : List Int) : List Int := (t.foldl stepD ([], [])).2
def mtf (t : List Int) : List Int := t.foldl (fun s p => p :: s.erase p) []
theorem stepD_fst (t : List Int) : ∀ (s o : List Int), (t.foldl stepD (s, o)).1 = t.foldl (fun s p => p :: s.erase p) s := by
  induction t with
  | nil => intro s o; rfl
  | cons p t ih => intro s o; rw [List.foldl_cons, List.foldl_cons]; exact ih _ _
theorem mtf_snoc (t : List Int) (p : Int) : mtf (t ++ [p]) = p :: (mtf t).erase p := by simp [mtf]
theorem mtf_len (t : List Int) : (mtf t).length ≤ t.length := by
  suffices h : ∀ s, (t.foldl (fun s p => p :: s.erase p) s).length ≤ s.length + t.length by simpa [mtf] using h []
  induction t with
  | nil => intro s; simp
  | cons p t ih =>
    intro s
    have h1 := ih (p :: s.erase p)
    have h2 := List.length_erase_le (a := p) (l := s)
    rw [List.foldl_cons]; simp only [List.length_cons] at h1 ⊢; omega
theorem mtf_nodup (t : List Int) : (mtf t).Nodup := by
  suffices h : ∀ s : List Int, s.Nodup → (t.foldl (fun s p => p :: s.erase p) s).Nodup by exact h [] List.nodup_nil
  induction t with
  | nil => intro s h; exact h
  | cons p t ih =>
    intro s h
    exact ih _ (List.nodup_cons.2 ⟨fun hm => ((List.Nodup.mem_erase_iff h).1 hm).1 rfl, h.erase p⟩)
theorem mtf_mem (t : List Int) (x : Int) : x ∈ mtf t ↔ x ∈ t := by
  suffices h : ∀ s : List Int, x ∈ t.foldl (fun s p => p :: s.erase p) s ↔ x ∈ s ∨ x ∈ t by simpa [mtf] using h []
  induction t with
  | nil => intro s; simp
  | cons p t ih =>
    intro s
    rw [List.foldl_cons, ih]
    by_cases e : x = p
    · subst e; simp
    · rw [List.mem_cons, List.mem_erase_of_ne e, List.mem_cons]; simp [e]
theorem distance_ok {size : Int} {l : List FetchS} (hs : 1 ≤ size ∧ size ≤ 65536) (hl : TOk l) : f22 size l = some (distL (pgs size l)) := by
  apply ok_eq
  have hL := hl.1
  unfold f22
  refine goS (tou_ok hs hL) ?_
  refine goB (fun y => y = distL (pgs size l)) ?_ fun y hy => goR hy
  have hrl : (rowsOf size 0 l).length ≤ 1000 := by rw [rows_len]; have := pgs_len hs.1 hl.2; omega
  have e : pgs size l = (rowsOf size 0 l).map Prod.snd := (rows_snd size l 0).symm
  rw [e]
  unfold distL
  rw [List.foldl_map]
  generalize rowsOf size 0 l = rows at *
  refine ok_rng rows (fun i (s : List Int × List Int) => ((s.1, s.2), i)) (fun s r => stepD s r.2) (fun i s => s.1.length ≤ i ∧ s.2.length = i) (s0 := ([], [])) rfl ⟨by simp, rfl⟩ ?_ ?_
  · rintro i hi ⟨here, out⟩ ⟨h1, h2⟩ _
    simp only at h1 h2
    have hd : List.getD rows i ((0 : Int), (0 : Int)) = rows[i] := getD_at _ hi
    simp only [hd]
    refine goT (blt_true hi) ?_
    have h3 := List.length_erase_le (a := rows[i].2) (l := here)
    refine goS (y := ((stepD (here, out) rows[i].2).1, (stepD (here, out) rows[i].2).2)) ?_ (goR ⟨rfl, by simp [stepD]; omega, by simp [stepD, h2]⟩)
    apply ok_eq
    refine goS (index_ok _ (by omega)) ?_
    have ew : w64 ((if rows[i].2 ∈ here then ((here.idxOf rows[i].2 : Nat) : Int) else -1) + 1) = dval here rows[i].2 := by
      unfold dval
      split
      · have := List.idxOf_lt_length_of_mem (by assumption : rows[i].2 ∈ here)
        rw [w64_of (by omega)]
      · rfl
    rw [ew]
    refine goC (by simp [h2]; omega) ?_
    refine goB (fun y => y = here.erase rows[i].2) (goI (fun h => ?_) fun h => ?_) ?_
    · rw [dec_iff] at h
      by_cases hm : rows[i].2 ∈ here
      · rw [if_pos hm]
        have := del_ok hm
        refine goS (y := here.erase rows[i].2) ?_ (goR rfl)
        unfold dval
        rw [if_pos hm]; exact this
      · rw [if_neg hm] at h; omega
    · rw [dec_iff'] at h
      by_cases hm : rows[i].2 ∈ here
      · rw [if_pos hm] at h; omega
      · exact goR (List.erase_of_not_mem hm).symm
    · rintro _ rfl
      exact goS (ins_ok (by omega)) (goR rfl)
  · rintro ⟨here, out⟩ _ he
    refine goF (blt_false (Nat.lt_irrefl _)) (goR ?_)
    show out = _
    rw [← he]
/-! Each once, as they come. -/
def addN (acc : List Int) (x : Int) : List Int := if x ∈ acc then acc else acc ++ [x]
def ddp (r : List Int) : List Int := r.foldl addN []
theorem addN_fold (r : List Int) : ∀ acc : List Int, r.foldl addN acc = acc ++ (ddp r).filter (fun y => !decide (y ∈ acc)) := by
  induction r with
  | nil => intro acc; simp [ddp]
  | cons x r ih =>
    intro acc
    have e : ddp (x :: r) = [x] ++ (ddp r).filter (fun y => !decide (y ∈ [x])) := by
      have : ddp (x :: r) = r.foldl addN [x] := by simp [ddp, addN]
      rw [this, ih]
    rw [List.foldl_cons, e, ih]
    unfold addN
    by_cases h : x ∈ acc
    · rw [if_pos h, List.filter_append, List.filter_filter]
      have e1 : List.filter (fun y => !decide (y ∈ acc)) [x] = [] := by simp [h]
      rw [e1, List.nil_append]
      congr 1
      apply List.filter_congr
      intro y _
      by_cases hy : y ∈ acc
      · simp [hy]
      · have : ¬ y = x := fun e => hy (e ▸ h)
        simp [hy, this]
    · rw [if_neg h, List.filter_append, List.filter_filter, List.append_assoc]
      have e1 : List.filter (fun y => !decide (y ∈ acc)) [x] = [x] := by simp [h]
      rw [e1]
      congr 2
      apply List.filter_congr
      intro y _
      simp [List.mem_append]
theorem ddp_cons (x : Int) (r : List Int) : ddp (x :: r) = x :: (ddp r).filter (fun y => y != x) := by
  have : ddp (x :: r) = r.foldl addN [x] := by simp [ddp, addN]
  rw [this, addN_fold, List.singleton_append]
  congr 1
  apply List.filter_congr
  intro y _
  by_cases e : y = x <;> simp [e]
theorem mtf_ddp (r : List Int) : mtf r.reverse = ddp r := by
  induction r with
  | nil => rfl
  | cons x r ih =>
    rw [List.reverse_cons, mtf_snoc, ddp_cons, ih, List.Nodup.erase_eq_filter (ih ▸ mtf_nodup _)]
theorem ddp_app (a b : List Int) : ddp (a ++ b) = ddp a ++ (ddp b).filter (fun y => !decide (y ∈ ddp a)) := by
  unfold ddp
  rw [List.foldl_append, addN_fold]; rfl
theorem ddp_mem (r : List Int) (x : Int) : x ∈ ddp r ↔ x ∈ r := by rw [← mtf_ddp, mtf_mem, List.mem_reverse]
theorem ddp_len (r : List Int) : (ddp r).length ≤ r.length := by rw [← mtf_ddp]; have := mtf_len r.reverse; simpa using this
theorem dval_at {r : List Int} {x : Int} {j : Nat} (hj : j < r.length) (hx : r[j] = x) (hn : x ∉ r.take j) : dval (ddp r) x = ((ddp (r.take j)).length : Int) + 1 := by
  have e : r = r.take j ++ (x :: r.drop (j + 1)) := by
    conv => lhs; rw [← List.take_append_drop j r, List.drop_eq_getElem_cons hj, hx]
  have hm : x ∈ ddp r := (ddp_mem r x).2 (hx ▸ List.getElem_mem _)
  unfold dval
  rw [if_pos hm]
  have hn' : x ∉ ddp (r.take j) := fun h => hn ((ddp_mem _ _).1 h)
  have e2 : ddp r = ddp (r.take j) ++ (x :: ((ddp (r.drop (j + 1))).filter (fun y => y != x)).filter (fun y => !decide (y ∈ ddp (r.take j)))) := by
    conv => lhs; rw [e, ddp_app, ddp_cons]
    rw [List.filter_cons]
    simp [hn']
  rw [e2, List.idxOf_append, if_neg hn']
  simp [List.idxOf_cons]
theorem has_ok {l : List Int} (x : Int) (h : l.length ≤ 1048576) : f35 l x = some (decide (x ∈ l)) := by
  apply ok_eq
  unfold f35
  simp only [ok_bindE]
  refine ok_loop (fun i : Int => 0 ≤ i ∧ i ≤ l.length ∧ x ∉ l.take i.toNat) (fun i => l.length - i.toNat) ⟨Int.le_refl _, by omega, by simp⟩ fun i ⟨h0, h1, h2⟩ => ?_
  simp only [ok_bif, ok_some, ok_ck, dec_iff, dec_iff', inB_iff, sumQ_inl, sumQ_inr]
  refine ⟨fun h3 => ⟨⟨h0, h3⟩, fun h4 => ?_, fun h4 => ?_⟩, fun h3 => ?_⟩
  · rw [getD_at 0 (by omega)] at h4
    have hm : x ∈ l := h4 ▸ List.getElem_mem _
    exact (decide_eq_true hm).symm
  · rw [w64_of (by omega)]
    refine ⟨⟨by omega, by omega, ?_⟩, by omega⟩
    have e : (i + 1).toNat = i.toNat + 1 := by omega
    rw [e, take_snoc (by omega), List.mem_append, not_or]
    refine ⟨h2, ?_⟩
    rw [getD_at 0 (by omega)] at h4
    simpa using fun e : x = _ => h4 e.symm
  · have : ¬ x ∈ l := by
      have e : i.toNat = l.length := by omega
      rw [e, List.take_length] at h2; exact h2
    exact (decide_eq_false this).symm
theorem distanceR_ok {size : Int} {l : List FetchS} (hs : 1 ≤ size) (hl : TOk l) : f23 size l = some (distL (pgs size l)) := by
  apply ok_eq
  unfold f23
  refine goS (touches_ok hs hl) ?_
  have hL := hl.1
  have hrl : (pgs size l).length ≤ 1000 := by have := pgs_len hs hl.2; omega
  refine goB (fun y => y = distL (pgs size l)) ?_ fun y hy => goR hy
  unfold distL
  generalize pgs size l = t at *
  refine ok_for t (fun i (s : List Int × List Int) => (i, s.2)) stepD (fun i s => s.1 = mtf (t.take i) ∧ s.2.length = i) (s0 := ([], [])) rfl ⟨rfl, rfl⟩ ?_ ?_
  · rintro i hi ⟨here, out⟩ ⟨rfl, h2⟩ _
    simp only at h2 ⊢
    refine goT (decide_eq_true (by omega)) ?_
    have hr : (t.take i).reverse.length = i := by simp; omega
    have hre : mtf (t.take i) = ddp (t.take i).reverse := by rw [← mtf_ddp, List.reverse_reverse]
    have hrj : ∀ j (h : j < (t.take i).reverse.length) (h2 : i - 1 - j < t.length), (t.take i).reverse[j] = t[i - 1 - j] := by
      intro j h h2
      have e1 : (t.take i).length = i := by simp; omega
      rw [List.getElem_reverse, List.getElem_take]
      simp only [e1]
    rw [w64_of (by omega)]
    refine goB (fun y => y = dval (mtf (t.take i)) t[i]) ?_ ?_
    · rw [hre]
      generalize (t.take i).reverse = r at *
      refine ok_loop (fun s : Int × List Int => ∃ j : Nat, j ≤ r.length ∧ s.1 = (i : Int) - 1 - j ∧ s.2 = ddp (r.take j) ∧ t[i] ∉ r.take j) (fun s => (s.1 + 1).toNat) ⟨0, by omega, by simp, by simp [ddp], by simp⟩ ?_
      rintro ⟨k, seen⟩ ⟨j, hj, rfl, rfl, hn⟩
      dsimp only
      have hsl : (ddp (r.take j)).length ≤ 1000 := by have := ddp_len (r.take j); simp at this; omega
      refine goI (fun h => ?_) fun h => ?_
      · rw [dec_iff] at h
        have hjl : j < r.length := by omega
        have ek : ((i : Int) - 1 - j).toNat = i - 1 - j := by omega
        have hd : t.getD (Int.toNat ((Int.toNat ((i : Int) - 1 - j) : Nat) : Int)) 0 = r[j] := by rw [Int.toNat_natCast, ek, hrj j hjl (by omega)]; exact getD_at _ (by omega)
        have hdi : t.getD (Int.toNat ((Int.toNat (i : Int) : Nat) : Int)) 0 = t[i] := by rw [Int.toNat_natCast, Int.toNat_natCast]; exact getD_at _ hi
        refine goC (inB_iff.2 ⟨by omega, by omega⟩) ?_
        simp only [hd, hdi]
        refine goS (has_ok _ (by omega)) ?_
        have est : ddp (r.take (j + 1)) = addN (ddp (r.take j)) r[j] := by rw [take_snoc hjl]; unfold ddp; rw [List.foldl_append]; rfl
        refine goB (fun y => y = ddp (r.take (j + 1))) (goI (fun h => ?_) fun h => ?_) ?_
        · have hm : r[j] ∉ ddp (r.take j) := by simpa using h
          refine goC (inB_iff.2 ⟨by omega, by omega⟩) (goC (by simp; omega) (goR ?_))
          rw [est, addN, if_neg hm]
        · have hm : r[j] ∈ ddp (r.take j) := by simpa using h
          refine goR ?_
          rw [est, addN, if_pos hm]
        · rintro _ rfl
          refine goC (inB_iff.2 ⟨by omega, by omega⟩) (goC (inB_iff.2 ⟨by omega, by omega⟩) (goI (fun h => goR ?_) fun h => goR ⟨⟨j + 1, by omega, ?_, rfl, ?_⟩, ?_⟩))
          · have hx : r[j] = t[i] := by simpa using h
            show ((ddp (r.take (j + 1))).length : Int) = _
            rw [dval_at hjl hx hn, est, addN, if_neg (fun hm => hn (hx ▸ (ddp_mem _ _).1 hm))]
            simp
          · rw [w64_of (by omega)]; omega
          · rw [take_snoc hjl, List.mem_append, not_or]
            refine ⟨hn, ?_⟩
            have hx : ¬ r[j] = t[i] := by simpa using h
            simpa using fun e : t[i] = _ => hx e.symm
          · simp only; rw [w64_of (by omega)]; omega
      · rw [dec_iff'] at h
        refine goR ?_
        have : j = r.length := by omega
        subst this
        rw [List.take_length] at hn
        show (0 : Int) = _
        unfold dval
        rw [if_neg (fun hm => hn ((ddp_mem _ _).1 hm))]
    · rintro _ rfl
      refine goC (by simp [h2]; omega) (goR ⟨?_, ?_, by simp [stepD, h2]⟩)
      · rw [w64_of (by omega)]; rfl
      · rw [take_snoc hi, mtf_snoc]; rfl
  · rintro ⟨here, out⟩ _ he
    refine goF (decide_eq_false (by omega)) (goR ?_)
    show out = _
    rw [← he]
end Go.Fg.Ytdddhnagekhihaa
