/-
  The framework (a machine on plain data that answers as the program does), part 3.
-/
import Derived.RangeFuncOwn
import Derived.Orders
import Derived.RangeFuncLeaves
import Derived.RangeFuncCalls
import Derived.OrdersIn
import Derived.LoopNIn
import Derived.LoopN
import Derived.Tactics
import Derived.Test.YtjkkbncbgpfliaaZb
set_option linter.unusedSimpArgs false
set_option linter.unusedVariables false
namespace Go.Fw
set_option linter.unusedSectionVars false
variable [Globs]
set_option linter.unusedVariables false
def Cback (A I : Bool × Bool) (lk : Bool) (a i a' i' : Bool) : Prop := (a', i') = clsOf A I a i ∧ (a = true → lk = true)
section
variable {A I : Bool × Bool} {lk : Bool} {m : Nat → Option Nat} {f : Nat → Nat} {news : List Nat} {vs : List P}
theorem out_w (hm : ∀ g ∈ news, m (f g) = some g) {k : WS} (hk : k.outs news = true) (hl : k.isA = true → lk = true) (n : Nat) :
    Ww (Cback A I lk) m (fun _ => False) (mkW vs n k).1 (reW A I f (mkW vs n k).1) ∧ ∀ g ∈ (reW A I f (mkW vs n k).1).names, ∃ g0 ∈ news, g = f g0 := by
  cases k with
  | p a i => exact ⟨.p _ ⟨rfl, hl⟩, by simp [mkW, reW, W.names]⟩
  | own g =>
    simp only [WS.outs, List.contains_eq_mem, decide_eq_true_eq] at hk
    exact ⟨.own (hm g hk), fun g' hg' => ⟨g, hk, by simpa [mkW, reW, W.names] using hg'⟩⟩
  | nils => exact ⟨.nils, by simp [mkW, reW, W.names]⟩
  | box g off =>
    simp only [WS.outs, List.contains_eq_mem, decide_eq_true_eq] at hk
    exact ⟨.box (hm g hk), fun g' hg' => ⟨g, hk, by simpa [mkW, reW, W.names] using hg'⟩⟩
  | fn fn gs =>
    have hk : ∀ g ∈ gs, g ∈ news := by simpa [WS.outs, List.all_eq_true] using hk
    have key : ∀ (gs : List Nat), (∀ g ∈ gs, g ∈ news) → (boxesW gs).length = (reBoxes f (boxesW gs)).length ∧ (∀ (j : Nat) x y, (boxesW gs)[j]? = some x → (reBoxes f (boxesW gs))[j]? = some y → Ww (Cback A I lk) m (fun _ => False) x y) ∧ ∀ g ∈ (reBoxes f (boxesW gs)).flatMap W.names, ∃ g0 ∈ news, g = f g0 := by
      intro gs
      induction gs with
      | nil => intro _; exact ⟨rfl, fun j x y hx => (by simp [boxesW] at hx), by simp [boxesW, reBoxes]⟩
      | cons g gs ih =>
        intro h
        obtain ⟨e1, e2, e3⟩ := ih fun g hg => h g (by simp [hg])
        refine ⟨by simp [boxesW, reBoxes, e1], fun j x y hx hy => ?_, fun g' hg' => ?_⟩
        · cases j with
          | zero =>
            simp [boxesW, reBoxes] at hx hy; subst hx hy
            exact .box (hm g (h g (by simp)))
          | succ j => simp [boxesW, reBoxes] at hx hy; exact e2 j x y hx hy
        · simp only [boxesW, reBoxes, List.flatMap_cons, List.mem_append] at hg'
          rcases hg' with hg' | hg'
          · exact ⟨g, h g (by simp), by simpa [W.names] using hg'⟩
          · exact e3 g' hg'
    obtain ⟨e1, e2, e3⟩ := key gs hk
    exact ⟨.clo fn _ _ e1 e2, fun g hg => by
      have hg : g ∈ (W.clo fn (reBoxes f (boxesW gs))).names := hg
      rw [clo_names] at hg
      exact e3 g hg⟩
  | itp g => cases hk
  | no => cases hk
  | vw g => cases hk
  | ep g off => cases hk
theorem mkWs_mem : ∀ {ks : List WS} {n : Nat} {x : W}, x ∈ (mkWs vs n ks).1 → ∃ k ∈ ks, ∃ n', x = (mkW vs n' k).1
  | [], n, x, h => by simp [mkWs] at h
  | k :: ks, n, x, h => by
    simp only [mkWs, List.mem_cons] at h
    rcases h with h | h
    · exact ⟨k, by simp, n, h⟩
    · obtain ⟨k', h1, h2⟩ := mkWs_mem h
      exact ⟨k', by simp [h1], h2⟩
theorem out_ws (hm : ∀ g ∈ news, m (f g) = some g) {ks : List WS} (hk : ks.all (WS.outs news) = true) (hl : ks.any WS.isA = true → lk = true) (n : Nat) :
    (∀ (j : Nat) x y, (mkWs vs n ks).1[j]? = some x → ((mkWs vs n ks).1.map (reW A I f))[j]? = some y → Ww (Cback A I lk) m (fun _ => False) x y) ∧
    ∀ g ∈ ((mkWs vs n ks).1.map (reW A I f)).flatMap W.names, ∃ g0 ∈ news, g = f g0 := by
  have key : ∀ x ∈ (mkWs vs n ks).1, Ww (Cback A I lk) m (fun _ => False) x (reW A I f x) ∧ ∀ g ∈ (reW A I f x).names, ∃ g0 ∈ news, g = f g0 := by
    intro x hx
    obtain ⟨k, h1, n', rfl⟩ := mkWs_mem hx
    exact out_w hm ((List.all_eq_true.1 hk) k h1) (fun h => hl (List.any_eq_true.2 ⟨k, h1, h⟩)) n'
  refine ⟨fun j x y hx hy => ?_, fun g hg => ?_⟩
  · rw [List.getElem?_map, hx] at hy
    simp only [Option.map_some, Option.some.injEq] at hy
    subst hy
    exact (key x (List.mem_of_getElem? hx)).1
  · simp only [List.mem_flatMap, List.mem_map] at hg
    obtain ⟨_, ⟨x, hx, rfl⟩, hg⟩ := hg
    exact (key x hx).2 g hg
theorem out_s (hm : ∀ g ∈ news, m (f g) = some g) {k : SS} (hk : k.outs news = true) (hl : k.isA = true → lk = true) (n : Nat) :
    ∃ x, (mkS vs n k).1 = .v x ∧ Vw (Cback A I lk) m (fun _ => False) x (reV A I f x) ∧ ∀ g ∈ (reV A I f x).names, ∃ g0 ∈ news, g = f g0 := by
  cases k with
  | one k =>
    obtain ⟨h1, h2⟩ := out_w (vs := vs) (A := A) (I := I) hm hk hl n
    exact ⟨_, rfl, .one h1, h2⟩
  | agg ks =>
    obtain ⟨h1, h2⟩ := out_ws (vs := vs) (A := A) (I := I) hm hk hl n
    exact ⟨_, rfl, .agg _ _ (by simp) h1, h2⟩
theorem out_o (hm : ∀ g ∈ news, m (f g) = some g) {k : OS} (hk : ∀ ws, k = .box ws → ws.all (WS.outs news) = true) (hl : k.isA = true → lk = true) (n : Nat) :
    Ow (Cback A I lk) m (fun _ => False) (mkO vs n k).1 (reO A I f (mkO vs n k).1) ∧ ∀ g ∈ (reO A I f (mkO vs n k).1).names, ∃ g0 ∈ news, g = f g0 := by
  cases k with
  | box ks =>
    obtain ⟨h1, h2⟩ := out_ws (vs := vs) (A := A) (I := I) hm (hk ks rfl) hl n
    exact ⟨.box _ _ (by simp) h1, h2⟩
  | arr fz a i sz => exact ⟨.arr _ _ _ ⟨rfl, hl⟩, by simp [mkO, reO, O.names]⟩
  | it => exact ⟨.it _ _, by simp [mkO, reO, O.names]⟩
  | deep a i sz cols => exact ⟨.deep _ _ _ ⟨rfl, hl⟩, by simp [mkO, reO, O.names, holeNames]⟩
end
theorem reO_owned {A I : Bool × Bool} {f : Nat → Nat} (x : O) : (reO A I f x).owned = x.owned := by cases x <;> rfl
theorem reO_isDeep {A I : Bool × Bool} {f : Nat → Nat} (x : O) : (reO A I f x).isDeep = x.isDeep := by cases x <;> rfl
theorem reO_dim {A I : Bool × Bool} {f : Nat → Nat} (x : O) : (reO A I f x).dim = x.dim := by cases x <;> rfl
theorem reO_inner {A I : Bool × Bool} {f : Nat → Nat} {x : O} {i : Bool} (h : (reO A I f x).inner = some i) : ∃ a i0, x.inner = some i0 ∧ i = (clsOf A I a i0).2 := by
  cases x with
  | arr fz a i0 sz l =>
    cases fz with
    | false => cases h; exact ⟨a, i0, rfl, rfl⟩
    | true => cases h
  | deep a i0 sz cols l hole => cases h; exact ⟨a, i0, rfl, rfl⟩
  | _ => cases h
theorem reO_box {A I : Bool × Bool} {f : Nat → Nat} {x : O} {ws : List W} (h : reO A I f x = .box ws) : ∃ ws', x = .box ws' := by cases x <;> first | exact ⟨_, rfl⟩ | cases h
theorem reO_it {A I : Bool × Bool} {f : Nat → Nat} {x : O} {s n : P} (h : reO A I f x = .it s n) : ∃ s' n', x = .it s' n' := by cases x <;> first | exact ⟨_, _, rfl⟩ | cases h
theorem newName_inj {d : Nat} {news : List Nat} {g g' : Nat} (hg : g ∈ news) (h : newName d news g = newName d news g') : g = g' := by
  unfold newName at h
  have e : news.idxOf g = news.idxOf g' := by omega
  have h1 : news.idxOf g < news.length := List.idxOf_lt_length_of_mem hg
  have h2 : news.idxOf g' < news.length := by omega
  have a1 := List.getElem_idxOf h1
  have a2 := List.getElem_idxOf h2
  rw [← a1, ← a2]; congr 1
def backName (d : Nat) (news : List Nat) (g : Nat) : Option Nat := news.find? fun g0 => newName d news g0 == g
theorem backName_new {d : Nat} {news : List Nat} {g : Nat} (hg : g ∈ news) : backName d news (newName d news g) = some g := by
  unfold backName
  cases h : news.find? fun g0 => newName d news g0 == newName d news g with
  | none => have := List.find?_eq_none.1 h g hg; simp at this
  | some g' =>
    have h1 := List.find?_some h
    simp only [beq_iff_eq] at h1
    rw [newName_inj (List.mem_of_find?_eq_some h) h1]
theorem backName_some {d : Nat} {news : List Nat} {g g0 : Nat} (h : backName d news g = some g0) : g0 ∈ news ∧ newName d news g0 = g := by
  unfold backName at h
  exact ⟨List.mem_of_find?_eq_some h, by simpa using List.find?_some h⟩
theorem backName_none {d : Nat} {news : List Nat} {g : Nat} (h : backName d news g = none) : g ∉ news.map (newName d news) := by
  intro hm
  obtain ⟨g0, h1, rfl⟩ := List.mem_map.1 hm
  rw [backName_new h1] at h; cases h
theorem lookup_or {α : Type} {g : Nat} : ∀ {l r : List (Nat × α)}, (l ++ r).lookup g = (l.lookup g).or (r.lookup g)
  | [], r => by simp
  | (k, v) :: l, r => by
    simp only [List.cons_append, List.lookup]
    split
    · rfl
    · exact lookup_or
theorem lookup_map_key {α : Type} {k : Nat → Nat} {v : Nat → α} {g : Nat} : ∀ {l : List Nat}, (∀ g' ∈ l, k g' ≠ g) → (l.map fun x => (k x, v x)).lookup g = none
  | [], _ => rfl
  | x :: l, h => by
    have : (g == k x) = false := by have := h x (by simp); simp; exact fun e => this e.symm
    simp only [List.map_cons, List.lookup, this]
    exact lookup_map_key fun g' hg' => h g' (by simp [hg'])
theorem lookup_map_news {α : Type} {k : Nat → Nat} {v : Nat → α} {g0 : Nat} : ∀ {l : List Nat}, g0 ∈ l → (∀ g' ∈ l, k g' = k g0 → g' = g0) → (l.map fun x => (k x, v x)).lookup (k g0) = some (v g0)
  | [], h, _ => by cases h
  | x :: l, h, hi => by
    simp only [List.map_cons, List.lookup]
    by_cases e : k x = k g0
    · have := hi x (by simp) e
      subst this; simp
    · have : (k g0 == k x) = false := by simp; exact fun h => e h.symm
      rw [this]
      rcases List.mem_cons.1 h with h | h
      · subst h; exact absurd rfl e
      · exact lookup_map_news h fun g' hg' => hi g' (by simp [hg'])
theorem lookup_map_ren {α : Type} {v : Nat × Nat → α} {p : Nat × Nat} : ∀ {l : List (Nat × Nat)}, (l.map (·.2)).Nodup → p ∈ l → (l.map fun p => (p.2, v p)).lookup p.2 = some (v p)
  | [], _, h => by cases h
  | x :: l, hn, h => by
    simp only [List.map_cons, List.nodup_cons] at hn
    simp only [List.map_cons, List.lookup]
    rcases List.mem_cons.1 h with h | h
    · subst h; simp
    · have : (p.2 == x.2) = false := by
        simp only [beq_eq_false_iff_ne]
        intro e
        exact hn.1 (e ▸ List.mem_map.2 ⟨p, h, rfl⟩)
      rw [this]
      exact lookup_map_ren hn.2 h
theorem lookup_map_ren_none {α : Type} {v : Nat × Nat → α} {g : Nat} : ∀ {l : List (Nat × Nat)}, g ∉ l.map (·.2) → (l.map fun p => (p.2, v p)).lookup g = none
  | [], _ => rfl
  | x :: l, h => by
    simp only [List.map_cons, List.mem_cons, not_or] at h
    have : (g == x.2) = false := by simpa using h.1
    simp only [List.map_cons, List.lookup, this]
    exact lookup_map_ren_none h.2
theorem O.none_like {z : O} (h : O.none.like z) : z = .none := by cases z <;> first | rfl | exact h.elim
theorem O.like_trans {x y z : O} (h1 : x.like y) (h2 : y.like z) : z = .none ∨ x.like z := .inr (O.like.trans h1 h2)
theorem argsIn_bor {s : Sig} {o : Nat → O} {args : List S} {c : CIn} (hc : argsIn s o args = some c) : Frz o c.bor := by
  unfold argsIn at hc
  split at hc
  · rename_i hsl
    split at hc
    · simp only [Option.some.injEq] at hc; subst hc
      exact argSlots_bor hsl
    · cases hc
  · cases hc
theorem lookup_mem {α : Type} {g : Nat} {v : α} : ∀ {l : List (Nat × α)}, l.lookup g = some v → (g, v) ∈ l
  | [], h => by cases h
  | (k, x) :: l, h => by
    simp only [List.lookup] at h
    split at h
    · rename_i e
      simp only [beq_iff_eq] at e
      cases h; subst e; simp
    · exact List.mem_cons_of_mem _ (lookup_mem h)
theorem ioObjs_keys {o : Nat → O} : ∀ {L : List (Nat × OS)} {r r' : List (Nat × Nat)} {u : List P} {c : Bool × Bool}, ioObjs o r L = some (u, c, r') → (∀ p ∈ r, p ∈ r') ∧ ∀ p ∈ L, ∃ q ∈ r', q.1 = p.1
  | [], r, r', u, c, h => by simp only [ioObjs, Option.some.injEq, Prod.mk.injEq] at h; obtain ⟨_, _, rfl⟩ := h; exact ⟨fun p hp => hp, fun p hp => by cases hp⟩
  | (g', k) :: rest, r, r', u, c, h => by
    simp only [ioObjs] at h
    split at h
    · rename_i g hg
      have hmem := lookup_mem hg
      have fin : ∀ {r1 : List (Nat × Nat)}, (∀ p ∈ r, p ∈ r1) → ((∀ p ∈ r1, p ∈ r') ∧ ∀ p ∈ rest, ∃ q ∈ r', q.1 = p.1) → (∀ p ∈ r, p ∈ r') ∧ ∀ p ∈ (g', k) :: rest, ∃ q ∈ r', q.1 = p.1 := by
        intro r1 h1 ⟨h2, h3⟩
        refine ⟨fun p hp => h2 p (h1 p hp), fun p hp => ?_⟩
        rcases List.mem_cons.1 hp with rfl | hp
        · exact ⟨_, h2 _ (h1 _ hmem), rfl⟩
        · exact h3 p hp
      split at h
      · split at h
        · split at h
          · rename_i h2
            simp only [Option.some.injEq, Prod.mk.injEq] at h
            obtain ⟨_, _, rfl⟩ := h
            exact fin (fun p hp => List.mem_append_left _ hp) (ioObjs_keys h2)
          · cases h
        · cases h
      · split at h
        · split at h
          · rename_i h2
            simp only [Option.some.injEq, Prod.mk.injEq] at h
            obtain ⟨_, _, rfl⟩ := h
            exact fin (fun p hp => hp) (ioObjs_keys h2)
          · cases h
        · cases h
      · split at h
        · split at h
          · rename_i h2
            simp only [Option.some.injEq, Prod.mk.injEq] at h
            obtain ⟨_, _, rfl⟩ := h
            exact fin (fun p hp => hp) (ioObjs_keys h2)
          · cases h
        · cases h
      · cases h
    · cases h
theorem mk_hole {j : Shape} {vs : List P} {g : Nat} {a i : Bool} {sz : Nat} {cols : List (Nat × Nat)} {l : List (List P)} {hole : Option (Nat × Nat × Nat)} (h : (mk j vs).o g = .deep a i sz cols l hole) : hole = none := by
  have h1 := mk_o (j := j) (vs := vs) (g := g) (by rw [h]; simp)
  obtain ⟨k, n', _, h2⟩ := mkObjs_mem h1
  rw [h] at h2
  cases k <;> simp [mkO] at h2
  exact h2.2.2.2.2.2
theorem callEff_lookup {s : Sig} {d : Nat} {o : Nat → O} {c : CIn} {outs : List P} (hf : c.fine s = true) {p : Nat × Nat} (hp : p ∈ c.ren) (hio : s.ios.contains p.1 = true) :
    (callEff s d o c outs).upd.lookup p.2 = some (reO c.A c.I (callName d s c.ren) ((mk s.pout outs).o p.1)) := by
  simp only [CIn.fine, Bool.and_eq_true] at hf
  obtain ⟨⟨⟨hn2, hn1⟩, hdisj⟩, hkeys⟩ := hf
  have hnb : p.2 ∉ c.bor := by
    have := (List.all_eq_true.1 hdisj) p.2 (List.mem_map.2 ⟨p, hp, rfl⟩)
    simpa using this
  have h1 : (if s.leaks = true then c.bor.map (freeze o) else []).lookup p.2 = none := by
    split
    · have : ∀ (l : List Nat), p.2 ∉ l → (l.map (freeze o)).lookup p.2 = none := by
        intro l
        induction l with
        | nil => intro _; rfl
        | cons g l ih =>
          intro hl
          simp only [List.mem_cons, not_or] at hl
          have e : (p.2 == (freeze o g).1) = false := by
            have : (freeze o g).1 = g := rfl
            rw [this]; simpa using hl.1
          simp only [List.map_cons, List.lookup, e]
          exact ih hl.2
      exact this _ hnb
    · rfl
  have h2 := lookup_map_ren (v := fun p => if s.ios.contains p.1 = true then reO c.A c.I (callName d s c.ren) ((mk s.pout outs).o p.1) else .none) (nodupB_spec hn2) hp
  rw [if_pos hio] at h2
  show (((if s.leaks = true then c.bor.map (freeze o) else []) ++ c.ren.map _) ++ s.news.map _).lookup p.2 = _
  rw [lookup_or, lookup_or, h1, h2]; rfl
theorem kept_same {s : Sig} (hok : s.ok = true) {d : Nat} {o : Nat → O} {args : List S} {c : CIn} (hc : argsIn s o args = some c) (hf : c.fine s = true) {outs : List P} {p : Nat × Nat} (hp : p ∈ c.ren) (hio : s.ios.contains p.1 = true)
    (hk : coreO ((mk s.pout outs).o p.1) = coreO ((mk s.pin c.ins).o p.1)) (ha : arrO (o p.2) = true) (hfl : flagsO (reO c.A c.I (callName d s c.ren) ((mk s.pout outs).o p.1)) = flagsO (o p.2)) :
    (callEff s d o c outs).upd.lookup p.2 = some (o p.2) := by
  rw [callEff_lookup hf hp hio]
  have hcore := hk.trans (args_core hok hc hf p hp ha)
  have hm := fun {a i : Bool} {sz : Nat} {cols : List (Nat × Nat)} {l : List (List P)} {hole : Option (Nat × Nat × Nat)} => mk_hole (j := s.pout) (vs := outs) (g := p.1) (a := a) (i := i) (sz := sz) (cols := cols) (l := l) (hole := hole)
  congr 1
  generalize (mk s.pout outs).o p.1 = x at hcore hfl hm
  have e : coreO (reO c.A c.I (callName d s c.ren) x) = coreO (o p.2) := by
    rw [← hcore]
    cases x with
    | deep a i sz cols l hole => have := hm rfl; subst this; rfl
    | arr fz a i sz l => rfl
    | _ =>
      generalize o p.2 = z at hcore ha
      cases z <;> first | (cases ha; done) | (simp [coreO] at hcore; done)
  exact (core_flags e.symm hfl.symm ha).symm
theorem argsIn_keys {s : Sig} {o : Nat → O} {args : List S} {c : CIn} (hc : argsIn s o args = some c) : ∀ p ∈ s.pin.objs, ∃ q ∈ c.ren, q.1 = p.1 := by
  unfold argsIn at hc
  split at hc
  · split at hc
    · rename_i hio
      simp only [Option.some.injEq] at hc; subst hc
      exact fun p hp => let ⟨q, h1, h2⟩ := (ioObjs_keys hio).2 p hp; ⟨q, onceR_mem.2 h1, h2⟩
    · cases hc
  · cases hc
section
variable {E : Env} {st : St} {gh : Nat → Gh} {w : World} {val : Nat → Value}
theorem call_back {sp : Spec} (hok : sp.sig.ok = true) (h : Rel E st gh val w) {args : List S} {vals : List Value} (hr : ∀ t, RepS E st gh w (args.getD t .no) (vals.getD t undef))
    {c : CIn} (hc : argsIn sp.sig st.o args = some c) (hf : c.fine sp.sig = true) :
    ∃ (E' : Env) (gh1 : Nat → Gh), E'.B0 = w.heap.size ∧ E'.w0 = w ∧ Rel E' (mk sp.sig.pin c.ins) gh1 (fun k => vals.getD k undef) w ∧ (∀ b, E'.Wr b → ∃ c e f, w.heap[b]? = some (.cells c e f)) ∧
    ∀ (d : Nat) (outs : List P) (ef : Eff), ef = callEff sp.sig d st.o c outs → (∀ g ∈ ef.new, st.used g = false) → ∀ (w' : World) (rs : List Value) (gh2 : Nat → Gh), rs.length = sp.sig.nres → Rel E' (mk sp.sig.pout outs) gh2 (fun k => rs.getD k undef) w' → (∀ g ∈ sp.sig.ios, ((gh2 g).ad = (gh1 g).ad ∧ (gh2 g).cap = (gh1 g).cap) ∧ ((mk sp.sig.pin c.ins).o g).like ((mk sp.sig.pout outs).o g)) →
      ∃ gh', Rel E (st.upd ef.upd ef.new) gh' val w' ∧ Lets E st (st.upd ef.upd ef.new) gh gh' w w' ∧ RepS E (st.upd ef.upd ef.new) gh' w' ef.x (retV rs) ∧ ∀ g ∈ ef.x.names, (st.upd ef.upd ef.new).used g = true := by
  have hrr : ∀ t, RepS E st gh w (args.getD t .no) ((fun k => vals.getD k undef) t) := hr
  obtain ⟨h1, hL1, hE, hren⟩ := call_entry h hok hrr hc hf _ rfl _ rfl
  refine ⟨_, _, rfl, rfl, hE, fun b hb => ?_, fun d outs ef hef hnew w' rs gh2 hrl hx hios => ?_⟩
  · obtain ⟨p, hp, ow, e1⟩ := hb
    have hO := h.objs p.2
    rcases (hren p hp).2.2.2 with ⟨_, ws, _, e, _⟩ | ⟨a, i, sz, l, e, _⟩ | ⟨a, i, sz, cols, l, e, _⟩
    · rw [e] at hO
      obtain ⟨ad', c, e', q1, _, q3, _⟩ := hO
      rcases e1 with ⟨ad, k1, k2⟩ | k1
      · rw [k1] at q1; cases q1; rw [← k2]; exact ⟨_, _, _, q3⟩
      · rw [h.ns p.2 ow (by rw [e]; rfl) b] at k1; cases k1
    · rw [e] at hO
      rcases e1 with ⟨ad, k1, k2⟩ | k1
      · rcases hO with ⟨q1, _⟩ | ⟨ad', c, e', q1, _, q3, _⟩
        · rw [k1] at q1; cases q1
        · rw [k1] at q1; cases q1; rw [← k2]; exact ⟨_, _, _, q3⟩
      · rw [h.ns p.2 ow (by rw [e]; rfl) b] at k1; cases k1
    · rw [e] at hO
      rcases hO with ⟨q1, _, _, q2⟩ | ⟨ad', c, e', q1, _, q3, _, _, _, ⟨_, q4⟩, _⟩
      · rcases e1 with ⟨ad, k1, k2⟩ | k1
        · rw [k1] at q1; cases q1
        · rw [q2 b] at k1; cases k1
      · rcases e1 with ⟨ad, k1, k2⟩ | k1
        · rw [k1] at q1; cases q1; rw [← k2]; exact ⟨_, _, _, q3⟩
        · exact q4 b k1
  generalize hst1 : st.upd (c.bor.map (Fw.freeze st.o)) [] = st1 at h1 hL1 hE hx
  generalize hE' : callEnv h st1 c = E' at hE hx
  generalize hxst : mk sp.sig.pout outs = xst at hx
  have hok' := hok
  simp only [Sig.ok, Bool.and_eq_true] at hok'
  obtain ⟨⟨⟨⟨⟨⟨⟨⟨hpin, hpout⟩, hps⟩, hpo⟩, hos⟩, hoo⟩, hdisj⟩, hnn⟩, hiosn⟩ := hok'
  have hnn := nodupB_spec hnn
  simp only [CIn.fine, Bool.and_eq_true] at hf
  have hn2 := nodupB_spec hf.1.1.1
  have hnio : ∀ g ∈ sp.sig.news, sp.sig.ios.contains g = false := by
    intro g hg
    cases hi : sp.sig.ios.contains g with
    | false => rfl
    | true =>
      have := (List.all_eq_true.1 hdisj) g (by simpa using hi)
      simp [hg] at this
  generalize hfn : callName d sp.sig c.ren = f
  have hfnew : ∀ g ∈ sp.sig.news, f g = newName d sp.sig.news g := fun g hg => by subst hfn; unfold callName; rw [hnio g hg]
  have hfmap : sp.sig.news.map f = sp.sig.news.map (newName d sp.sig.news) := List.map_congr_left hfnew
  have hfio : ∀ g, sp.sig.ios.contains g = true → ∃ g', (g, g') ∈ c.ren ∧ f g = g' := by
    intro g hi
    have hkin := (List.all_eq_true.1 hiosn) g (by simpa using hi)
    cases h1 : sp.sig.pin.objs.lookup g with
    | none => rw [h1] at hkin; cases hkin
    | some k1 =>
      obtain ⟨q, hq, e⟩ := argsIn_keys hc _ (lookup_mem h1)
      obtain ⟨q1, q2⟩ := q
      simp only at e; subst e
      refine ⟨q2, hq, ?_⟩
      subst hfn
      unfold callName
      rw [hi, (hren _ hq).2.2.1]
  generalize hbk : backName d sp.sig.news = bk
  have hbn : ∀ g ∈ sp.sig.news, bk (f g) = some g := fun g hg => by rw [hfnew g hg]; subst hbk; exact backName_new hg
  have hbs : ∀ g g0, bk g = some g0 → g0 ∈ sp.sig.news ∧ f g0 = g := fun g g0 hb => by subst hbk; obtain ⟨b1, b2⟩ := backName_some hb; exact ⟨b1, by rw [hfnew g0 b1]; exact b2⟩
  have hfi : ∀ g ∈ sp.sig.news, ∀ g' ∈ sp.sig.news, f g = f g' → g = g' := fun g hg g' hg' e => by rw [hfnew g hg, hfnew g' hg'] at e; exact newName_inj hg e
  have hefn : ef.new = sp.sig.news.map f := by subst hef; subst hfn; rfl
  have hefu : ef.upd = (if sp.sig.leaks then c.bor.map (Fw.freeze st.o) else []) ++ c.ren.map (fun p => (p.2, if sp.sig.ios.contains p.1 then reO c.A c.I f (xst.o p.1) else .none)) ++ sp.sig.news.map (fun g => (f g, reO c.A c.I f (xst.o g))) := by
    subst hef; subst hfn; subst hxst; rfl
  have hefx : ef.x = retS ((List.range sp.sig.nres).map fun k => reS c.A c.I f (xst.s k)) := by subst hef; subst hfn; subst hxst; rfl
  have hbn0 : ∀ g, bk g = none → g ∉ ef.new := fun g hb hm => by
    rw [hefn] at hm; obtain ⟨g0, h1, rfl⟩ := List.mem_map.1 hm
    rw [hbn g0 h1] at hb; cases hb
  have hbu : ∀ g, st.used g = true → bk g = none := fun g hu => by
    cases hb : bk g with
    | none => rfl
    | some g0 =>
      obtain ⟨h1, h2⟩ := hbs g g0 hb
      have := hnew g (by rw [hefn]; exact List.mem_map.2 ⟨g0, h1, h2⟩)
      rw [hu] at this; cases this
  let stB : St := if sp.sig.leaks then st1 else st
  have hB : Rel E stB gh val w ∧ Lets E st stB gh gh w w := by
    by_cases hlk : sp.sig.leaks = true
    · have : stB = st1 := by simp [stB, hlk]
      rw [this]; exact ⟨h1, hL1⟩
    · have : stB = st := by simp [stB, hlk]
      rw [this]; exact ⟨h, ⟨fun a i b hb => ⟨hb, rfl⟩, fun g _ => .inr ⟨⟨rfl, rfl⟩, O.like_refl _⟩⟩⟩
  obtain ⟨hRB, hLB⟩ := hB
  have hBs : stB.s = st.s := by
    by_cases hlk : sp.sig.leaks = true
    · have : stB = st1 := by simp [stB, hlk]
      rw [this, ← hst1]; rfl
    · have : stB = st := by simp [stB, hlk]
      rw [this]
  have hBu : stB.used = st.used := by
    by_cases hlk : sp.sig.leaks = true
    · have : stB = st1 := by simp [stB, hlk]
      rw [this, ← hst1]; rfl
    · have : stB = st := by simp [stB, hlk]
      rw [this]
  have hBo : ∀ g, stB.o g = (if g ∈ c.bor ∧ sp.sig.leaks = true then (Fw.freeze st.o g).2 else st.o g) := by
    intro g
    by_cases hlk : sp.sig.leaks = true
    · have : stB = st1 := by simp [stB, hlk]
      rw [this, ← hst1, freezes_o]
      by_cases hg : g ∈ c.bor <;> simp [hg, hlk]
    · have : stB = st := by simp [stB, hlk]
      rw [this]; simp [hlk]
  have hBown : ∀ g, (stB.o g).owned = true → (st.o g).owned = true := by
    intro g hg
    rw [hBo] at hg
    split at hg
    · cases hp : plainO st.o g with
      | none => simpa [Fw.freeze, hp] using hg
      | some x =>
        obtain ⟨a, i, sz, l⟩ := x
        rw [freeze_some hp] at hg; cases hg
    · exact hg
  have hBr : ∀ p ∈ c.ren, stB.o p.2 = st.o p.2 := by
    intro p hp
    rw [hBo, if_neg fun h => (hren p hp).2.1 h.1]
  generalize hstF : st.upd ef.upd ef.new = stF
  have hFs : stF.s = st.s := by subst hstF; rfl
  have hFu : ∀ g, st.used g = true → stF.used g = true := fun g hg => by subst hstF; simp [St.upd, hg]
  have hFn : ∀ g ∈ sp.sig.news, stF.used (f g) = true := fun g hg => by
    subst hstF
    have : f g ∈ ef.new := by rw [hefn]; exact List.mem_map.2 ⟨g, hg, rfl⟩
    simp [St.upd, this]
  have hrenu : ∀ p ∈ c.ren, st.used p.2 = true := fun p hp => h.ul p.2 (by intro e; have := (hren p hp).1; rw [e] at this; cases this)
  have hboru : ∀ g ∈ c.bor, st.used g = true ∨ st.o g = .none := fun g hg => by
    by_cases hn : st.o g = .none
    · exact .inr hn
    · exact .inl (h.ul g hn)
  have hFo : ∀ g, stF.o g = match ef.upd.lookup g with | some x => x | none => st.o g := fun g => by subst hstF; rfl
  have hFnew : ∀ g ∈ sp.sig.news, stF.o (f g) = reO c.A c.I f (xst.o g) := by
    intro g hg
    have hfu : st.used (f g) = false := hnew _ (by rw [hefn]; exact List.mem_map.2 ⟨g, hg, rfl⟩)
    have e2 : (c.ren.map (fun p => (p.2, if sp.sig.ios.contains p.1 then reO c.A c.I f (xst.o p.1) else .none))).lookup (f g) = none := lookup_map_ren_none fun hm => by
      obtain ⟨p, hp, e⟩ := List.mem_map.1 hm
      rw [← e, hrenu p hp] at hfu; cases hfu
    have e3 := lookup_map_news (k := f) (v := fun g => reO c.A c.I f (xst.o g)) hg fun g' hg' e => hfi g' hg' g hg e
    have e1 : (if sp.sig.leaks then c.bor.map (Fw.freeze st.o) else []).lookup (f g) = none := by
      split
      · rw [lookup_freeze, if_neg]
        intro hm
        have := Frz.used h (argsIn_bor hc) hm
        rw [this] at hfu; cases hfu
      · rfl
    rw [hFo, hefu, lookup_or, lookup_or, e1, e2, e3]; rfl
  have hFren : ∀ p ∈ c.ren, stF.o p.2 = if sp.sig.ios.contains p.1 then reO c.A c.I f (xst.o p.1) else .none := by
    intro p hp
    have e1 : (if sp.sig.leaks then c.bor.map (Fw.freeze st.o) else []).lookup p.2 = none := by
      split
      · rw [lookup_freeze, if_neg (hren p hp).2.1]
      · rfl
    have e2 := lookup_map_ren (v := fun p => if sp.sig.ios.contains p.1 then reO c.A c.I f (xst.o p.1) else O.none) hn2 hp
    rw [hFo, hefu, lookup_or, lookup_or, e1, e2]; rfl
  have hFold : ∀ g, bk g = none → g ∉ c.ren.map (·.2) → stF.o g = stB.o g := by
    intro g hb hg
    have e2 := lookup_map_ren_none (v := fun p => if sp.sig.ios.contains p.1 then reO c.A c.I f (xst.o p.1) else O.none) hg
    have e3 : (sp.sig.news.map (fun g => (f g, reO c.A c.I f (xst.o g)))).lookup g = none := lookup_map_key fun g' hg' e => by
      have := hbn g' hg'
      rw [e, hb] at this; cases this
    rw [hFo, hefu, lookup_or, lookup_or, e2, e3, hBo]
    by_cases hlk : sp.sig.leaks = true
    · rw [if_pos hlk, lookup_freeze]
      by_cases hg : g ∈ c.bor <;> simp [hg, hlk]
    · simp [hlk]
  have hios2 : ∀ p ∈ c.ren, sp.sig.ios.contains p.1 = true → (gh2 p.1).ad = (gh p.2).ad ∧ (gh2 p.1).cap = (gh p.2).cap := by
    intro p hp hi
    have := (hios p.1 (by simpa using hi)).1
    have e := (hren p hp).2.2.1
    simp only [reGh, e] at this
    exact this
  generalize hbk2 : (fun g => match bk g with | some g0 => some g0 | none => (c.ren.find? (fun (p : Nat × Nat) => p.2 == g && sp.sig.ios.contains p.1)).map (fun (p : Nat × Nat) => p.1)) = bk2
  have hb2s : ∀ g g0, bk2 g = some g0 → (g0 ∈ sp.sig.news ∧ f g0 = g) ∨ (bk g = none ∧ sp.sig.ios.contains g0 = true ∧ (g0, g) ∈ c.ren) := by
    intro g g0 hb
    subst hbk2
    simp only at hb
    cases h1 : bk g with
    | some g1 => rw [h1] at hb; simp only [Option.some.injEq] at hb; subst hb; exact .inl (hbs g _ h1)
    | none =>
      rw [h1] at hb
      simp only [Option.map_eq_some_iff] at hb
      obtain ⟨p, hp, rfl⟩ := hb
      have q1 := List.mem_of_find?_eq_some hp
      have q2 := List.find?_some hp
      simp only [Bool.and_eq_true, beq_iff_eq] at q2
      obtain ⟨rfl, q3⟩ := q2
      exact .inr ⟨rfl, q3, q1⟩
  have hb2 : ∀ g ∈ sp.sig.news ++ sp.sig.ios, bk2 (f g) = some g := by
    intro g hg
    subst hbk2
    simp only
    rcases List.mem_append.1 hg with hg | hg
    · rw [hbn g hg]
    · have hi : sp.sig.ios.contains g = true := by simpa using hg
      obtain ⟨g', hm, e⟩ := hfio g hi
      rw [e, hbu g' (hrenu _ hm)]
      cases h1 : c.ren.find? fun p => p.2 == g' && sp.sig.ios.contains p.1 with
      | none =>
        have := List.find?_eq_none.1 h1 _ hm
        simp at this
        exact absurd hg this
      | some p =>
        have q1 := List.mem_of_find?_eq_some h1
        have q2 := List.find?_some h1
        simp only [Bool.and_eq_true, beq_iff_eq] at q2
        obtain ⟨e2, q3⟩ := q2
        have l1 := (hren _ hm).2.2.1
        have e3 : p = (g, g') := by
          have := lookup_map_ren (v := fun p => p) hn2 q1
          have h2 := lookup_map_ren (v := fun p => p) hn2 hm
          rw [e2] at this
          simp only at h2
          rw [this] at h2; exact Option.some.inj h2
        rw [e3]; rfl
  let gh' : Nat → Gh := fun g => match bk2 g with | some g0 => gh2 g0 | none => gh g
  have hfp : ∀ p ∈ c.ren, sp.sig.ios.contains p.1 = true → f p.1 = p.2 := by
    intro p hp hi
    obtain ⟨g', hm, e⟩ := hfio p.1 hi
    have l1 := (hren _ hm).2.2.1
    have l2 := (hren _ hp).2.2.1
    simp only at l1
    rw [l2] at l1; rw [e, ← Option.some.inj l1]
  have hgb : ∀ g g0, bk2 g = some g0 → gh' g = gh2 g0 := fun g g0 hb => by simp only [gh', hb]
  have hgn : ∀ g ∈ sp.sig.news, gh' (f g) = gh2 g := fun g hg => hgb _ _ (hb2 g (List.mem_append_left _ hg))
  have hgi : ∀ p ∈ c.ren, sp.sig.ios.contains p.1 = true → gh' p.2 = gh2 p.1 := by
    intro p hp hi
    have := hb2 p.1 (List.mem_append_right _ (by simpa using hi))
    rw [hfp p hp hi] at this
    exact hgb _ _ this
  have hgo : ∀ g, bk g = none → g ∉ c.ren.map (·.2) → gh' g = gh g := fun g hb hm => by
    cases h2 : bk2 g with
    | none => simp only [gh', h2]
    | some g0 =>
      rcases hb2s g g0 h2 with ⟨b1, b2⟩ | ⟨_, _, b3⟩
      · rw [← b2, hbn g0 b1] at hb; cases hb
      · exact absurd (List.mem_map.2 ⟨_, b3, rfl⟩) hm
  have hFb : ∀ g g0, bk2 g = some g0 → stF.o g = reO c.A c.I f (xst.o g0) := fun g g0 hb => by
    rcases hb2s g g0 hb with ⟨b1, b2⟩ | ⟨_, b2, b3⟩
    · rw [← b2]; exact hFnew g0 b1
    · have e := hFren _ b3
      simp only [b2, if_true] at e
      exact e
  have hFall : ∀ g ∈ sp.sig.news ++ sp.sig.ios, stF.used (f g) = true := by
    intro g hg
    rcases List.mem_append.1 hg with hg | hg
    · exact hFn g hg
    · obtain ⟨g', hm, e⟩ := hfio g (by simpa using hg)
      rw [e]; exact hFu _ (hrenu _ hm)
  have hxo : ∀ g0, xst.o g0 ≠ .none → ∃ k n', (g0, k) ∈ sp.sig.pout.objs ∧ xst.o g0 = (mkO outs n' k).1 := fun g0 hn => by
    subst hxst
    exact mkObjs_mem (mk_o hn)
  have hxio : ∀ g0, sp.sig.ios.contains g0 = true → (∃ ws, (mk sp.sig.pin c.ins).o g0 = .box ws) → ∃ ws, xst.o g0 = .box ws := by
    rintro g0 hi ⟨ws, hb⟩
    have hk := (List.all_eq_true.1 hiosn) g0 (by simpa using hi)
    cases h1 : sp.sig.pin.objs.lookup g0 with
    | none => rw [h1] at hk; cases hk
    | some k1 =>
      cases h2 : sp.sig.pout.objs.lookup g0 with
      | none => rw [h1, h2] at hk; cases k1 <;> cases hk
      | some k2 =>
        rw [h1, h2] at hk
        obtain ⟨n1, e1⟩ := mk_kind (vs := c.ins) h1
        obtain ⟨n2, e2⟩ := mk_kind (vs := outs) h2
        rw [hb] at e1
        cases k1 with
        | box ks =>
          cases k2 with
          | box ks' => subst hxst; exact ⟨_, e2⟩
          | arr => cases hk
          | it => cases hk
          | deep => cases hk
        | arr => cases e1
        | it => cases e1
        | deep => cases e1
  have hlkO : ∀ g0 k, (g0, k) ∈ sp.sig.pout.objs → k.isA = true → sp.sig.leaks = true := fun g0 k hm ha => by
    simp only [Sig.leaks, Bool.or_eq_true, List.any_eq_true]
    exact .inr ⟨_, hm, ha⟩
  have hlkS : ∀ t k, (t, k) ∈ sp.sig.pout.slots → k.isA = true → sp.sig.leaks = true := fun t k hm ha => by
    simp only [Sig.leaks, Bool.or_eq_true, List.any_eq_true]
    exact .inl ⟨_, hm, ha⟩
  have hOut : ∀ g0, Ow (Cback c.A c.I sp.sig.leaks) bk2 (fun _ => False) (xst.o g0) (reO c.A c.I f (xst.o g0)) ∧ ∀ g ∈ (reO c.A c.I f (xst.o g0)).names, ∃ g1 ∈ sp.sig.news ++ sp.sig.ios, g = f g1 := by
    intro g0
    by_cases hn : xst.o g0 = .none
    · rw [hn]; exact ⟨.none _, by simp [reO, O.names]⟩
    · obtain ⟨k, n', h1, h2⟩ := hxo g0 hn
      rw [h2]
      refine out_o hb2 (fun ws e => ?_) (hlkO g0 k h1) n'
      subst e
      have hk := (List.all_eq_true.1 hoo) _ h1
      simp only [Bool.and_eq_true] at hk
      exact hk.1
  have hsplit0 : ∀ g, (stF.o g).owned = true →
      (∃ g0, (xst.o g0).owned = true ∧ gh' g = gh2 g0 ∧ stF.o g = reO c.A c.I f (xst.o g0) ∧ ((g0 ∈ sp.sig.news ∧ g = f g0) ∨ (sp.sig.ios.contains g0 = true ∧ (g0, g) ∈ c.ren))) ∨
      ((stB.o g).owned = true ∧ gh' g = gh g ∧ g ∉ c.ren.map (·.2) ∧ bk g = none ∧ stF.o g = stB.o g) := by
    intro g ho
    cases hb : bk g with
    | some g0 =>
      obtain ⟨b1, b2⟩ := hbs g g0 hb
      subst b2
      have e := hFnew g0 b1
      exact .inl ⟨g0, by rw [e, reO_owned] at ho; exact ho, hgn g0 b1, e, .inl ⟨b1, rfl⟩⟩
    | none =>
      by_cases hm : g ∈ c.ren.map (·.2)
      · obtain ⟨p, hp, e⟩ := List.mem_map.1 hm
        subst e
        have e := hFren p hp
        cases hi : sp.sig.ios.contains p.1 with
        | false => rw [e, hi] at ho; cases ho
        | true =>
          rw [hi, if_pos rfl] at e
          exact .inl ⟨p.1, by rw [e, reO_owned] at ho; exact ho, hgi p hp hi, e, .inr ⟨hi, hp⟩⟩
      · have e := hFold g hb hm
        exact .inr ⟨by rw [e] at ho; exact ho, hgo g hb hm, hm, by first | exact hb | rfl, e⟩
  have hsplit : ∀ g b, (stF.o g).owned = true → (gh' g).has b →
      (∃ g0, (xst.o g0).owned = true ∧ (gh2 g0).has b ∧ stF.o g = reO c.A c.I f (xst.o g0) ∧ ((g0 ∈ sp.sig.news ∧ g = f g0) ∨ (sp.sig.ios.contains g0 = true ∧ (g0, g) ∈ c.ren))) ∨
      ((stB.o g).owned = true ∧ (gh g).has b ∧ g ∉ c.ren.map (·.2) ∧ bk g = none ∧ stF.o g = stB.o g) := by
    intro g b ho had
    rcases hsplit0 g ho with ⟨g0, q1, q2, q3⟩ | ⟨q1, q2, q3⟩
    · exact .inl ⟨g0, q1, by rw [← q2]; exact had, q3⟩
    · exact .inr ⟨q1, by rw [← q2]; exact had, q3⟩
  have hEWr : ∀ b, E'.Wr b → ∃ p ∈ c.ren, (gh p.2).has b := fun b hb => by subst hE'; obtain ⟨p, hp, _, h1⟩ := hb; exact ⟨p, hp, h1⟩
  have hEB : E'.B0 = w.heap.size := by subst hE'; rfl
  have hEw : E'.w0 = w := by subst hE'; rfl
  have hframe : ∀ b, b < w.heap.size → ¬ E'.Wr b → w'.heap[b]? = w.heap[b]? := fun b hb hw => by
    rw [hx.frame b (by rw [hEB]; exact hb) hw, hEw]
  have hnWr : ∀ b, (∀ p ∈ c.ren, ¬ (gh p.2).has b) → ¬ E'.Wr b := fun b hb hw => by
    obtain ⟨p, hp, e1⟩ := hEWr b hw
    exact hb p hp e1
  have hsize : w.heap.size ≤ w'.heap.size := by rw [← hEB]; exact hx.size
  have hlike : ∀ g, st.used g = true → stF.o g = .none ∨ (((gh' g).ad = (gh g).ad ∧ (gh' g).cap = (gh g).cap) ∧ (stB.o g).like (stF.o g)) := by
    intro g hu
    have hb := hbu g hu
    by_cases hm : g ∈ c.ren.map (·.2)
    · obtain ⟨p, hp, e⟩ := List.mem_map.1 hm
      subst e
      cases hi : sp.sig.ios.contains p.1 with
      | false => exact .inl (by rw [hFren p hp, hi]; rfl)
      | true =>
        refine .inr ⟨by rw [hgi p hp hi]; exact hios2 p hp hi, ?_⟩
        rw [hBr p hp, hFren p hp, hi, if_pos rfl]
        have hlk := (hios p.1 (by simpa using hi)).2
        rw [hxst] at hlk
        rcases (hren p hp).2.2.2 with ⟨_, ws, ws1, e, eb⟩ | ⟨a, i, sz, l, e, _, ea⟩ | ⟨a, i, sz, cols, l, e, _, ea⟩
        · obtain ⟨ws', e'⟩ := hxio p.1 hi ⟨_, eb⟩
          rw [e, e']; trivial
        · rw [ea] at hlk
          rw [e]
          generalize xst.o p.1 = z at hlk
          cases z with
          | none => trivial
          | arr => exact hlk
          | deep => exact hlk.elim
          | box => exact hlk.elim
          | it => exact hlk.elim
        · rw [ea] at hlk
          rw [e]
          generalize xst.o p.1 = z at hlk
          cases z with
          | none => trivial
          | arr => exact hlk
          | deep => exact hlk
          | box => exact hlk.elim
          | it => exact hlk.elim
    · rw [hFold g hb hm]; exact .inr ⟨by rw [hgo g hb hm]; exact ⟨rfl, rfl⟩, O.like_refl _⟩
  have hLets : Lets E stB stF gh gh' w w' := by
    refine ⟨fun a i b hb => ⟨⟨hb.1, by have := hb.2.1; omega, fun g ho had => ?_⟩, ?_⟩, fun g hu => hlike g (by rw [← hBu]; exact hu)⟩
    · rcases hsplit g b ho had with ⟨g0, o0, d0, _, _⟩ | ⟨o0, d0, _⟩
      · have hw0 := (hx.wr g0 b o0 d0).1
        rw [hEB] at hw0
        rcases hw0 with hw0 | hw0
        · have := hb.2.1; omega
        · obtain ⟨p, hp, e1⟩ := hEWr b hw0
          exact hb.2.2 p.2 (by rw [hBr p hp]; exact (hren p hp).1) e1
      · exact hb.2.2 g o0 d0
    · exact hframe b hb.2.1 (hnWr b fun p hp e1 => hb.2.2 p.2 (by rw [hBr p hp]; exact (hren p hp).1) e1)
  have hWrI : ∀ b, E'.Wr b → E.Wr b → (∀ g ws, xst.o g = .box ws → (gh2 g).has b → sp.sig.ios.contains g = false) → c.I.2 = true := by
    intro b hb hEb hno
    obtain ⟨p, hp, e1⟩ := hEWr b hb
    rcases (hren p hp).2.2.2 with ⟨hi, ws, ws1, e, eb⟩ | ⟨a, i, sz, l, e, hci, _⟩ | ⟨a, i, sz, cols, l, e, hci, _⟩
    · obtain ⟨ws', e'⟩ := hxio p.1 hi ⟨_, eb⟩
      have := hno p.1 ws' e' (by
        rcases e1 with ⟨ad, k1, k2⟩ | k1
        · exact .inl ⟨ad, by rw [(hios2 p hp hi).1]; exact k1, k2⟩
        · rw [h.ns p.2 (hren p hp).1 (by rw [e]; rfl) b] at k1; cases k1)
      rw [hi] at this; cases this
    · exact hci.2 (h.wi p.2 i b (by rw [e]; rfl) e1 hEb)
    · exact hci.2 (h.wi p.2 i b (by rw [e]; rfl) e1 hEb)
  have hcls : ∀ {a i a' i' : Bool} {A : Bool × Bool}, (A.1 = true → a' = true) → (A.2 = true → i' = true) → ∀ {b : Nat}, ((A.1 = true ∧ E.FA b) ∨ (A.2 = true ∧ (E.FI b ∨ E.Wr b)) ∨ E.B0 ≤ b ∨ Globs.has b) → ((a' = true ∧ E.FA b) ∨ (i' = true ∧ (E.FI b ∨ E.Wr b)) ∨ E.B0 ≤ b ∨ Globs.has b) := by
    intro a i a' i' A h1 h2 b hb
    rcases hb with ⟨q1, q2⟩ | ⟨q1, q2⟩ | q
    · exact .inl ⟨h1 q1, q2⟩
    · exact .inr (.inl ⟨h2 q1, q2⟩)
    · exact .inr (.inr q)
  have hcast : Cast (Cback c.A c.I sp.sig.leaks) bk2 (fun _ => False) E' E xst stF gh2 gh' w' := by
    refine ⟨fun a i a' i' b hC hb => ?_, fun g g' hm sz len ho => ⟨by rw [hgb g' g hm]; exact ⟨rfl, rfl⟩, by rw [hFb g' g hm, reO_dim] at ho; exact ho⟩,
      fun g g' hm ws ho => ⟨by rw [hgb g' g hm], by rw [hFb g' g hm] at ho; exact reO_box ho⟩, fun g g' hm s n ho => ⟨by rw [hgb g' g hm], by rw [hFb g' g hm] at ho; exact reO_it ho⟩, fun g' hf => hf.elim⟩
    obtain ⟨hC, hA⟩ := hC
    have ha' : a' = ((a && c.A.1) || (i && c.I.1)) := congrArg Prod.fst hC
    have hi' : i' = ((a && c.A.2) || (i && c.I.2)) := congrArg Prod.snd hC
    have hnotY : ∀ g, (xst.o g).owned = true → ¬ (gh2 g).has b := hb.2.2
    have hcase : ((a' = true ∧ E.FA b) ∨ (i' = true ∧ (E.FI b ∨ E.Wr b)) ∨ E.B0 ≤ b ∨ Globs.has b) ∧ (∀ g, (stB.o g).owned = true → g ∉ c.ren.map (·.2) → ¬ (gh g).has b) := by
      have hb1 := hb.1
      subst hE'
      rcases hb1 with ⟨ha, hFA⟩ | ⟨hi, hFI | hWr⟩ | hge | hgl
      · have hlk := hA ha
        have hst : stB = st1 := by simp [stB, hlk]
        refine ⟨hcls (a := a) (i := i) (A := c.A) (by intro h; simp [ha', ha, h]) (by intro h; simp [hi', ha, h]) hFA.1, fun g ho _ => ?_⟩
        rw [hst] at ho
        exact hFA.2.2 g ho
      · refine ⟨hcls (a := a) (i := i) (A := c.I) (by intro h; simp [ha', hi, h]) (by intro h; simp [hi', hi, h]) hFI.1, fun g ho _ => ?_⟩
        exact hFI.2.2 g (hBown g ho)
      · obtain ⟨p, hp, ow, e1⟩ := hWr
        refine ⟨?_, fun g ho hng had => ?_⟩
        · rcases (h.wr p.2 b (hren p hp).1 e1).1 with q | q
          · exact .inr (.inr (.inl q))
          · have := hWrI b ⟨p, hp, ow, e1⟩ q fun g ws1 o1 d1 => absurd d1 (hnotY g (by rw [o1]; rfl))
            exact .inr (.inl ⟨by simp [hi', hi, this], .inr q⟩)
        · have := h.inj g p.2 b (hBown g ho) (hren p hp).1 had e1
          exact hng (this ▸ List.mem_map.2 ⟨p, hp, rfl⟩)
      · refine ⟨.inr (.inr (.inl (Nat.le_trans h.size hge))), fun g ho _ had => ?_⟩
        have := (hRB.wr g b ho had).2
        have hge : w.heap.size ≤ b := hge
        omega
      · refine ⟨.inr (.inr (.inr hgl)), fun g ho _ had => ?_⟩
        obtain ⟨g1, g2⟩ := E.glob_not hgl
        rcases (hRB.wr g b ho had).1 with q | q
        · omega
        · exact g2 q
    refine ⟨hcase.1, hb.2.1, fun g ho had => ?_⟩
    rcases hsplit g b ho had with ⟨g0, o0, d0, _, _⟩ | ⟨o0, d0, n0, _⟩
    · exact hnotY g0 o0 d0
    · exact hcase.2 g o0 n0 d0
  have hrepO : ∀ g0, RepO E stF gh' w' (reO c.A c.I f (xst.o g0)) (gh2 g0) := fun g0 => hcast.repO (hOut g0).1 (hx.objs g0)
  have hRel : Rel E stF gh' val w' := by
    refine hRB.step hLets (hFs.trans hBs.symm) (fun g hg => hFu g (by rw [← hBu]; exact hg)) (fun g => ?_) (fun g1 g2 b h1 h2 k1 k2 => ?_) (fun g b ho had => ?_) (fun g i b ho had hw => ?_) (fun g ho hd b => ?_) (fun b hb hw => ?_) hsize (by rw [hx.os, hEw]) (by rw [hx.tape, hEw]) (by rw [hx.output, hEw]) (fun g g' hg' => ?_) (fun g hg => ?_)
    · cases hb : bk g with
      | some g0 =>
        obtain ⟨b1, b2⟩ := hbs g g0 hb
        subst b2
        rw [hFnew g0 b1, hgn g0 b1]; exact hrepO g0
      | none =>
        by_cases hm : g ∈ c.ren.map (·.2)
        · obtain ⟨p, hp, e⟩ := List.mem_map.1 hm
          subst e
          rw [hFren p hp]
          cases hi : sp.sig.ios.contains p.1 with
          | false => trivial
          | true => rw [if_pos rfl, hgi p hp hi]; exact hrepO p.1
        · rw [hFold g hb hm, hgo g hb hm]
          refine hLets.repO (fun ho b had => hframe _ (hRB.wr g b ho had).2 (hnWr _ fun p hp e1 => ?_)) (fun g' hg' => hRB.uo g g' hg') (hRB.objs g)
          have := h.inj p.2 g b (hren p hp).1 (hBown g ho) e1 had
          exact hm (this ▸ List.mem_map.2 ⟨p, hp, rfl⟩)
    · have mixed : ∀ g1 g2 b g0, (xst.o g0).owned = true → (gh2 g0).has b → (stB.o g2).owned = true → (gh g2).has b → g2 ∉ c.ren.map (·.2) → g1 = g2 := by
        intro g1 g2 b g0 o1 d1 o2 d2 n2
        exfalso
        rcases (hx.wr g0 b o1 d1).1 with q | q
        · rw [hEB] at q
          have := (hRB.wr g2 b o2 d2).2
          omega
        · obtain ⟨p, hp, e1⟩ := hEWr _ q
          have := h.inj p.2 g2 b (hren p hp).1 (hBown g2 o2) e1 d2
          exact n2 (this ▸ List.mem_map.2 ⟨p, hp, rfl⟩)
      rcases hsplit g1 b h1 k1 with ⟨q1, o1, d1, _, l1⟩ | ⟨o1, d1, n1, _⟩ <;> rcases hsplit g2 b h2 k2 with ⟨q2, o2, d2, _, l2⟩ | ⟨o2, d2, n2, _⟩
      · have := hx.inj q1 q2 b o1 o2 d1 d2
        subst this
        rcases l1 with ⟨m1, e1⟩ | ⟨i1, m1⟩ <;> rcases l2 with ⟨m2, e2⟩ | ⟨i2, m2⟩
        · rw [e1, e2]
        · rw [hnio q1 m1] at i2; cases i2
        · rw [hnio q1 m2] at i1; cases i1
        · have l1 := (hren _ m1).2.2.1
          have l2 := (hren _ m2).2.2.1
          rw [l1] at l2; exact Option.some.inj l2
      · exact mixed g1 g2 b q1 o1 d1 o2 d2 n2
      · exact (mixed g2 g1 b q2 o2 d2 o1 d1 n1).symm
      · exact hRB.inj g1 g2 b o1 o2 d1 d2
    · rcases hsplit g b ho had with ⟨g0, o0, d0, _, _⟩ | ⟨o0, d0, _⟩
      · have := hx.wr g0 b o0 d0
        refine ⟨?_, this.2⟩
        rcases this.1 with q | q
        · rw [hEB] at q; exact .inl (Nat.le_trans h.size q)
        · obtain ⟨p, hp, e1⟩ := hEWr _ q
          exact (h.wr p.2 b (hren p hp).1 e1).1
      · have := hRB.wr g b o0 d0
        exact ⟨this.1, by omega⟩
    · rcases hsplit g b (O.inner_owned ho) had with ⟨g0, o0, d0, e0, l0⟩ | ⟨o0, d0, _, _, e0⟩
      · rw [e0] at ho
        obtain ⟨a1, i1, h1, e2⟩ := reO_inner ho
        have hlt : b < w.heap.size := by have := h.wb _ hw; have := h.size; omega
        rcases (hx.wr g0 b o0 d0).1 with q | q
        · rw [hEB] at q; omega
        · have hi1 := hx.wi g0 i1 b h1 d0 q
          have := hWrI b q hw fun g3 ws3 o3 d3 => by
            have := hx.inj g3 g0 b (by rw [o3]; rfl) o0 d3 d0
            subst this
            rw [o3] at h1; cases h1
          rw [e2]; simp [clsOf, hi1, this]
      · rw [e0] at ho
        exact hRB.wi g i b ho d0 hw
    · rcases hsplit0 g ho with ⟨g0, o0, e, e0, _⟩ | ⟨o0, e, _, _, e0⟩
      · rw [e]; exact hx.ns g0 o0 (by rw [e0, reO_isDeep] at hd; exact hd) b
      · rw [e]; exact hRB.ns g o0 (by rw [e0] at hd; exact hd) b
    · refine hframe b (Nat.lt_of_lt_of_le hb h.size) (hnWr b fun p hp e1 => ?_)
      rcases (h.wr p.2 b (hren p hp).1 e1).1 with q | q
      · omega
      · exact hw q
    · cases hb : bk g with
      | some g0 =>
        obtain ⟨b1, b2⟩ := hbs g g0 hb
        subst b2
        rw [hFnew g0 b1] at hg'
        obtain ⟨g1, m1, rfl⟩ := (hOut g0).2 g' hg'
        exact hFall g1 m1
      | none =>
        by_cases hm : g ∈ c.ren.map (·.2)
        · obtain ⟨p, hp, e⟩ := List.mem_map.1 hm
          subst e
          rw [hFren p hp] at hg'
          cases hi : sp.sig.ios.contains p.1 with
          | false => rw [hi] at hg'; simp [O.names] at hg'
          | true =>
            rw [hi, if_pos rfl] at hg'
            obtain ⟨g1, m1, rfl⟩ := (hOut p.1).2 g' hg'
            exact hFall g1 m1
        · rw [hFold g hb hm] at hg'
          exact hFu g' (by rw [← hBu]; exact hRB.uo g g' hg')
    · cases hb : bk g with
      | some g0 =>
        obtain ⟨b1, b2⟩ := hbs g g0 hb
        subst b2; exact hFn g0 b1
      | none =>
        by_cases hm : g ∈ c.ren.map (·.2)
        · obtain ⟨p, hp, e⟩ := List.mem_map.1 hm
          subst e
          exact hFu _ (hrenu p hp)
        · rw [hFold g hb hm] at hg
          exact hFu g (by rw [← hBu]; exact hRB.ul g hg)
  have hRes : ∀ k, RepV E stF gh' w' (reS c.A c.I f (xst.s k)) (rs.getD k undef) ∧ ∀ g ∈ (reS c.A c.I f (xst.s k)).names, ∃ g1 ∈ sp.sig.news ++ sp.sig.ios, g = f g1 := by
    intro k
    have hk := hx.slots k
    subst hxst
    have e0 : (mk sp.sig.pout outs).s k = match (mkSlots outs 0 sp.sig.pout.slots).1.lookup k with | some x => x | none => .no := rfl
    cases hxk : (mkSlots outs 0 sp.sig.pout.slots).1.lookup k with
    | none =>
      rw [e0, hxk]
      exact ⟨.one _ _ (.no _), by simp [reS, V.names, W.names]⟩
    | some x =>
      rw [hxk] at e0
      rw [e0] at hk ⊢
      obtain ⟨kk, n', h1, h2⟩ := mkSlots_mem hxk
      obtain ⟨y, e, h3, h4⟩ := out_s (vs := outs) (A := c.A) (I := c.I) hb2 ((List.all_eq_true.1 hos) _ h1) (hlkS k kk h1) n'
      simp only [h2, e] at hk ⊢
      cases hk with | v _ _ hk => exact ⟨hcast.repV h3 hk, h4⟩
  refine ⟨gh', hRel, ⟨fun a i b hb => ?_, fun g hu => ?_⟩, ?_, ?_⟩
  · obtain ⟨q1, q2⟩ := hLB.ok a i b hb
    exact hLets.ok a i b q1
  · rcases hlike g hu with q | ⟨q1, q2⟩
    · exact .inl q
    · rcases hLB.names g hu with q | ⟨_, q⟩
      · rw [q] at q2
        rcases O.like_trans (x := .none) (O.like_refl _) q2 with q | q
        · exact .inl q
        · exact .inl (O.none_like q)
      · rcases O.like_trans q q2 with q | q
        · exact .inl q
        · exact .inr ⟨q1, q⟩
  · rw [hefx]
    have hl : ((List.range sp.sig.nres).map fun k => reS c.A c.I f (xst.s k)).length = rs.length := by simp [hrl]
    have hj : ∀ (j : Nat) x v, ((List.range sp.sig.nres).map fun k => reS c.A c.I f (xst.s k))[j]? = some x → rs[j]? = some v → RepV E stF gh' w' x v := by
      intro j x v hx' hv
      rw [List.getElem?_map] at hx'
      obtain ⟨k, hk, rfl⟩ := Option.map_eq_some_iff.1 hx'
      obtain ⟨hlt, hk⟩ := List.getElem?_eq_some_iff.1 hk
      simp at hk; subst hk
      have := (hRes j).1
      rwa [List.getD_eq_getElem?_getD, hv] at this
    generalize (List.range sp.sig.nres).map (fun k => reS c.A c.I f (xst.s k)) = xs at hl hj
    unfold retS retV
    match xs, rs, hl, hj with
    | [], [], _, hj => exact .tup _ _ rfl hj
    | [x], [v], _, hj => exact .v _ _ (hj 0 x v rfl rfl)
    | x :: y :: xs, v :: u :: vs, hl, hj => exact .tup _ _ hl hj
  · intro g hg
    have : ∃ k, g ∈ (reS c.A c.I f (xst.s k)).names := by
      rw [hefx] at hg
      generalize hxs : (List.range sp.sig.nres).map (fun k => reS c.A c.I f (xst.s k)) = xs at hg
      have hin : ∃ x ∈ xs, g ∈ x.names := by
        unfold retS at hg
        split at hg
        · exact ⟨_, by simp, hg⟩
        · simpa [S.names, List.mem_flatMap] using hg
      obtain ⟨x, hx1, hx2⟩ := hin
      rw [← hxs] at hx1
      obtain ⟨k, _, rfl⟩ := List.mem_map.1 hx1
      exact ⟨k, hx2⟩
    obtain ⟨k, hk⟩ := this
    obtain ⟨g1, m1, rfl⟩ := (hRes k).2 g hk
    exact hFall g1 m1
theorem call_sound {Pg : Program} {fn : FuncId} {sp : Spec} (hs : Sound Pg fn sp) (h : Rel E st gh val w) {args : List S} {vals : List Value} (hr : ∀ t, RepS E st gh w (args.getD t .no) (vals.getD t undef)) (hlen : vals.length = sp.sig.nargs)
    {c : CIn} (hc : argsIn sp.sig st.o args = some c) (hf : c.fine sp.sig = true) {outs : List P} (hR : sp.R c.ins outs) (d : Nat)
    {ef : Eff} (hef : ef = callEff sp.sig d st.o c outs) (hnew : ∀ g ∈ ef.new, st.used g = false) :
    Calls Pg fn vals.toArray w fun e w' => ∃ v gh', e = .returned v ∧ Rel E (st.upd ef.upd ef.new) gh' val w' ∧ Lets E st (st.upd ef.upd ef.new) gh gh' w w' ∧ RepS E (st.upd ef.upd ef.new) gh' w' ef.x v ∧ ∀ g ∈ ef.x.names, (st.upd ef.upd ef.new).used g = true := by
  obtain ⟨E', gh1, q1, q2, q3, _, q4⟩ := call_back hs.1 h hr hc hf
  refine Calls.mono (hs.2.2 E' w vals gh1 c.ins outs hR q1 q2 q3 hlen) fun e w' he => ?_
  obtain ⟨rs, gh2, hrl, rfl, hx, hios⟩ := he
  obtain ⟨gh', r1, r2, r3, r4⟩ := q4 d outs ef hef hnew w' rs gh2 hrl hx hios
  exact ⟨_, gh', rfl, r1, r2, r3, r4⟩
end
end Go.Fw
namespace Go.Fw
set_option linter.unusedSectionVars false
variable [Globs]
set_option linter.unusedVariables false
section
variable {o o' : Nat → O}
theorem plainO_hn {g : Nat} {x : Bool × Bool × Nat × List (List P)} (h : plainO o g = some x) : (o g).names = (o g).hn ∧ ∀ d ∈ (o g).hn, (o d).hn = [] := by
  obtain ⟨a, i, sz, l⟩ := x
  rcases plainO_inv h with ⟨fz, h⟩ | ⟨cols, h⟩ | ⟨a0, i0, cols, l0, n, c, d, fz', a', i', sz', l', h, hd, _⟩
  · rw [h]; exact ⟨rfl, fun d hd => by cases hd⟩
  · rw [h]; exact ⟨rfl, fun d hd => by cases hd⟩
  · rw [h]
    refine ⟨rfl, fun d' hd' => ?_⟩
    simp only [O.hn, holeNames, List.mem_singleton] at hd'
    subst hd'; rw [hd]; rfl
theorem freeze_agree {g : Nat} (h : Agree o o' g) : freeze o g = freeze o' g := by simp only [freeze, plainO_agree h, h.1]
theorem agree_hn {g d : Nat} (h : Agree o o' g) {x : Bool × Bool × Nat × List (List P)} (hp : plainO o g = some x) (hd : d ∈ (o g).hn) : Agree o o' d := by
  refine ⟨h.2 d hd, fun d' hd' => ?_⟩
  rw [(plainO_hn hp).2 d hd] at hd'; cases hd'
theorem toP_local {x : W} (h : ∀ g ∈ x.names, Agree o o' g) : x.toP o = x.toP o' := by
  cases x <;> simp only [W.toP] <;> (try rw [plainO_agree (h _ (by simp [W.names])), (h _ (by simp [W.names])).1])
theorem toP_freeze {x : W} {y : P} {a i : Bool} {gs : List Nat} (h : x.toP o = some (y, a, i, gs)) (hx : ∀ g ∈ x.names, Agree o o' g) : ∀ g ∈ gs, Agree o o' g := by
  cases x <;> simp only [W.toP] at h
  case p => simp only [Option.some.injEq, Prod.mk.injEq] at h; obtain ⟨_, _, _, rfl⟩ := h; simp
  case nils => simp only [Option.some.injEq, Prod.mk.injEq] at h; obtain ⟨_, _, _, rfl⟩ := h; simp
  case own g =>
    split at h
    · rename_i hp
      simp only [Option.some.injEq, Prod.mk.injEq] at h; obtain ⟨_, _, _, rfl⟩ := h
      have hg := hx g (by simp [W.names])
      rw [(plainO_hn hp).1]
      intro d hd
      rcases List.mem_append.1 hd with hd | hd
      · exact agree_hn hg hp hd
      · rw [List.mem_singleton] at hd; subst hd; exact hg
    · cases h
  case vw g lo hi =>
    split at h
    · rename_i hp
      simp only [Option.some.injEq, Prod.mk.injEq] at h; obtain ⟨_, _, _, rfl⟩ := h
      have hg := hx g (by simp [W.names])
      rw [(plainO_hn hp).1]
      intro d hd
      rcases List.mem_append.1 hd with hd | hd
      · exact agree_hn hg hp hd
      · rw [List.mem_singleton] at hd; subst hd; exact hg
    · cases h
  all_goals cases h
theorem toPs_local : ∀ {xs : List W}, (∀ x ∈ xs, ∀ g ∈ x.names, Agree o o' g) → toPs o xs = toPs o' xs
  | [], _ => rfl
  | x :: xs, h => by simp only [toPs]; rw [toP_local (h x (by simp)), toPs_local fun y hy => h y (by simp [hy])]
theorem toPs_freeze : ∀ {xs : List W} {ys : List P} {a i : Bool} {gs : List Nat}, toPs o xs = some (ys, a, i, gs) → (∀ x ∈ xs, ∀ g ∈ x.names, Agree o o' g) → ∀ g ∈ gs, Agree o o' g
  | [], ys, a, i, gs, h, _ => by simp [toPs] at h; obtain ⟨_, _, _, rfl⟩ := h; simp
  | x :: xs, ys, a, i, gs, h, hx => by
    simp only [toPs] at h
    split at h
    · rename_i h1 h2
      simp only [Option.some.injEq, Prod.mk.injEq] at h
      obtain ⟨_, _, _, rfl⟩ := h
      intro g hg
      rcases List.mem_append.1 hg with hg | hg
      · exact toP_freeze h1 (hx x (by simp)) g hg
      · exact toPs_freeze h2 (fun y hy => hx y (by simp [hy])) g hg
    · cases h
theorem freeze_local {gs : List Nat} (h : ∀ g ∈ gs, Agree o o' g) : gs.map (freeze o) = gs.map (freeze o') :=
  List.map_congr_left fun g hg => freeze_agree (h g hg)
theorem rows_local {sz : Nat} {x : W} (h : ∀ g ∈ x.names, o g = o' g) : x.rows o sz = x.rows o' sz := by
  cases x <;> simp only [W.rows] <;> (try rw [h _ (by simp [W.names])])
theorem lenOf_local {x : W} (h : ∀ g ∈ x.names, o g = o' g) : lenOf o x = lenOf o' x := by
  cases x <;> simp only [lenOf] <;> (try rw [h _ (by simp [W.names])])
theorem live_local {x : W} (h : ∀ g ∈ x.names, o g = o' g) : x.live o = x.live o' := by
  cases x <;> simp only [W.live] <;> (try rw [h _ (by simp [W.names])])
theorem append_local {tt : TT} {d : Nat} {sT : TypeId} {s x : W} (hs : ∀ g ∈ s.names, o g = o' g) (h : ∀ g ∈ x.names, o g = o' g) : appendK tt d o sT s x = appendK tt d o' sT s x := by
  unfold appendK
  split
  · split
    · split
      · rfl
      · rw [rows_local h]
        split
        · rfl
        · cases s <;> simp only <;> (try rw [hs _ (by simp [W.names])])
    · rfl
  · rfl
theorem fillW_from {place : Nat → Option (Nat × Nat)} : ∀ {ps : List (Nat × S)} {ws0 ws : List W}, fillW place ws0 ps = some ws → ∀ x ∈ ws, x ∈ ws0 ∨ ∃ p ∈ ps, ∀ g ∈ x.names, g ∈ p.2.names
  | [], ws0, ws, h => by simp only [fillW, Option.some.injEq] at h; subst h; intro x hx; exact .inl hx
  | (n, s) :: ps, ws0, ws, h => by
    cases s with
    | v y =>
      simp only [fillW] at h
      split at h
      · split at h
        · intro x hx
          rcases fillW_from h x hx with hx | ⟨p, hp, hg⟩
          · unfold setRange at hx
            rcases List.mem_append.1 hx with hx | hx
            · rcases List.mem_append.1 hx with hx | hx
              · exact .inl (List.mem_of_mem_take hx)
              · refine .inr ⟨(n, .v y), by simp, fun g hg => ?_⟩
                cases y with
                | one y => simp only [V.words, List.mem_singleton] at hx; subst hx; simpa [S.names, V.names] using hg
                | agg ys => simp only [V.words] at hx; simp only [S.names, V.names, List.mem_flatMap]; exact ⟨x, hx, hg⟩
            · exact .inl (List.mem_of_mem_drop hx)
          · exact .inr ⟨p, by simp [hp], hg⟩
        · cases h
      · cases h
    | tup => simp [fillW] at h
    | no => simp [fillW] at h
theorem words_names {y : V} {x : W} (h : x ∈ y.words) {g : Nat} (hg : g ∈ x.names) : g ∈ (S.v y).names := by
  cases y with
  | one y => simp only [V.words, List.mem_singleton] at h; subst h; simpa [S.names, V.names] using hg
  | agg ys => simp only [V.words] at h; simp only [S.names, V.names, List.mem_flatMap]; exact ⟨x, h, hg⟩
theorem kernel_local {tt : TT} {d : Nat} {F F' : Operand → S} {op : Op} {ty : TypeId} (hF : ∀ x ∈ op.operands.toList, F x = F' x) (hO : ∀ x ∈ op.operands.toList, ∀ g ∈ (F x).names, Agree o o' g) :
    kernel tt d o F op ty = kernel tt d o' F' op ty := by
  have ho : ∀ x ∈ op.operands.toList, ∀ g ∈ (F x).names, o g = o' g := fun x hx g hg => (hO x hx g hg).1
  cases op with
  | move x => simp only [kernel, ← hF x (by simp [Op.operands])]
  | assign x => simp only [kernel, ← hF x (by simp [Op.operands])]
  | pick c x y => simp only [kernel, ← hF c (by simp [Op.operands]), ← hF x (by simp [Op.operands]), ← hF y (by simp [Op.operands])]
  | alloc t => rfl
  | box t x => simp only [kernel, ← hF x (by simp [Op.operands])]
  | build t ps =>
    have e : ps.toList.map (fun p => (p.1, F p.2)) = ps.toList.map (fun p => (p.1, F' p.2)) := List.map_congr_left fun p hp => by
      rw [hF p.2 (by simp only [Op.operands]; exact List.mem_map.2 ⟨p, hp, rfl⟩)]
    simp only [kernel, ← e]
  | buildSlice t n ps =>
    have e : ps.toList.map (fun p => (p.1, F p.2)) = ps.toList.map (fun p => (p.1, F' p.2)) := List.map_congr_left fun p hp => by
      rw [hF p.2 (by simp only [Op.operands]; exact List.mem_map.2 ⟨p, hp, rfl⟩)]
    simp only [kernel, ← e]
    split
    · split
      · rename_i ie _
        split
        · rename_i ws hws
          have hn : ∀ x ∈ ws, ∀ g ∈ x.names, Agree o o' g := by
            intro x hx g hg
            rcases fillW_from hws x hx with h | ⟨p, hp, h⟩
            · have := repeatW_mem h
              obtain ⟨v, _, rfl⟩ := List.mem_map.1 this
              rw [cv_names] at hg; cases hg
            · obtain ⟨q, hq, rfl⟩ := List.mem_map.1 hp
              exact hO q.2 (by simp only [Op.operands]; exact List.mem_map.2 ⟨q, hq, rfl⟩) g (h g hg)
          rw [← toPs_local hn]
          split
          · rename_i h
            rw [freeze_local (toPs_freeze h hn)]
          · rfl
        · rfl
      · rfl
    · rfl
  | load t x =>
    have hx := hF x (by simp [Op.operands])
    have hn := ho x (by simp [Op.operands])
    simp only [kernel, ← hx]
    generalize F x = sx at hn
    split <;> simp_all [S.names, V.names, W.names]
  | store t x y =>
    have hx := hF x (by simp [Op.operands])
    have hy := hF y (by simp [Op.operands])
    have hn := ho x (by simp [Op.operands])
    have hm := hO y (by simp [Op.operands])
    simp only [kernel, ← hx, ← hy]
    generalize F x = sx at hn
    generalize F y = sy at hm
    split
    · rename_i g off y _
      rw [hn g (by simp [S.names, V.names, W.names])]
    · rename_i g n off y _
      rw [hn g (by simp [S.names, V.names, W.names])]
      have hw : ∀ x ∈ y.words, ∀ g ∈ x.names, Agree o o' g := fun x hx g hg => hm g (words_names hx hg)
      rw [← toPs_local hw]
      cases hz : toPs o y.words with
      | none => cases o' g with | arr fz _ _ _ _ => cases fz <;> rfl | _ => rfl
      | some z =>
        obtain ⟨ps, a', i'', gs⟩ := z
        have e := freeze_local (toPs_freeze hz hw)
        cases o' g with
        | arr fz _ _ _ _ => cases fz <;> simp only [e]
        | _ => rfl
    · rfl
  | nilCheck x =>
    have hx := hF x (by simp [Op.operands])
    have hn := ho x (by simp [Op.operands])
    simp only [kernel, ← hx]
    generalize F x = sx at hn
    split
    · rw [live_local fun g hg => hn g (by simpa [S.names, V.names] using hg)]
    · rfl
  | binOp op t x y u => simp only [kernel, ← hF x (by simp [Op.operands]), ← hF y (by simp [Op.operands])]
  | unOp op t x => simp only [kernel, ← hF x (by simp [Op.operands])]
  | convert s t x =>
    have hx := hF x (by simp [Op.operands])
    have hn := ho x (by simp [Op.operands])
    simp only [kernel, ← hx]
    generalize F x = sx at hn
    split
    · rfl
    · rw [rows_local fun g hg => hn g (by simpa [S.names, V.names] using hg)]
    · rfl
    · rfl
  | makeSlice t n c =>
    simp only [kernel, ← hF n (by simp [Op.operands]), ← hF c (by simp [Op.operands])]
    split
    · split
      · rename_i ie _
        have : toPs o (ie.zero.map cv) = toPs o' (ie.zero.map cv) := toPs_local fun x hx g hg => by
          obtain ⟨v, _, rfl⟩ := List.mem_map.1 hx
          rw [cv_names] at hg; cases hg
        rw [this]
      · rfl
    · rfl
  | slice t x lo hi mx =>
    cases mx with
    | some m => cases lo with
      | some l => simp only [kernel]
      | none => cases hi with
        | none => simp only [kernel]
        | some h =>
          have hx := hF x (by simp [Op.operands])
          have hn := ho x (by simp [Op.operands])
          simp only [kernel, ← hx, ← hF h (by simp [Op.operands]), ← hF m (by simp [Op.operands])]
          generalize F x = sx at hn
          unfold slice3K
          split
          · rename_i g _ _ h' _ _ m' _ _ _
            rw [hn g (by simp [S.names, V.names, W.names])]
          · rfl
          · rfl
    | none =>
      have hx := hF x (by simp [Op.operands])
      have hn := ho x (by simp [Op.operands])
      have hlo : lo.map F = lo.map F' := by
        cases lo with
        | none => rfl
        | some l => simp [hF l (by simp [Op.operands])]
      have hhi : hi.map F = hi.map F' := by
        cases hi with
        | none => rfl
        | some l => simp [hF l (by simp [Op.operands])]
      simp only [kernel, ← hx, ← hlo, ← hhi]
      generalize F x = sx at hn
      split
      · rename_i x _
        have hn : ∀ g ∈ x.names, o g = o' g := fun g hg => hn g (by simpa [S.names, V.names] using hg)
        rw [← lenOf_local hn]
        split
        · split
          · split
            · rw [hn _ (by simp [W.names])]
            all_goals rfl
          · rfl
        · rfl
      · rfl
      · rfl
  | fieldAddr t x n =>
    have hx := hF x (by simp [Op.operands])
    have hn := ho x (by simp [Op.operands])
    simp only [kernel, ← hx]
    generalize F x = sx at hn
    split
    · rw [live_local fun g hg => hn g (by simpa [S.names, V.names] using hg)]
    · rfl
  | field t x n => simp only [kernel, ← hF x (by simp [Op.operands])]
  | indexAddr t x ix =>
    have hx := hF x (by simp [Op.operands])
    have hn := ho x (by simp [Op.operands])
    simp only [kernel, ← hx, ← hF ix (by simp [Op.operands])]
    generalize F x = sx at hn
    split
    · rename_i x a i n _ _
      have hn : ∀ g ∈ x.names, o g = o' g := fun g hg => hn g (by simpa [S.names, V.names] using hg)
      split
      · rw [hn _ (by simp [W.names])]
      · rw [hn _ (by simp [W.names])]
      all_goals rfl
    · rfl
    · rw [live_local fun g hg => hn g (by simpa [S.names, V.names] using hg)]
    · rfl
  | index t x ix => simp only [kernel, ← hF x (by simp [Op.operands]), ← hF ix (by simp [Op.operands])]
  | extract t n => simp only [kernel, ← hF t (by simp [Op.operands])]
  | range t x => simp only [kernel, ← hF x (by simp [Op.operands])]
  | makeFunc fn first caps =>
    cases fn with
    | func g =>
      simp only [kernel]
      have hc : ∀ x ∈ caps.toList, F x = F' x := fun x hx => hF x (by simp [Op.operands]; exact .inr (by simpa using hx))
      have : ∀ l : List Operand, (∀ x ∈ l, F x = F' x) → ∀ (G : Option (List W) → Option Res), G (l.mapM (fun x => match F x with | .v (.one w) => some w | _ => none)) = G (l.mapM (fun x => match F' x with | .v (.one w) => some w | _ => none)) := by
        intro l hl G
        congr 1
        induction l with
        | nil => rfl
        | cons x l ih =>
          simp only [List.mapM_cons]
          rw [hl x (by simp), ih fun y hy => hl y (by simp [hy])]
      split
      · exact this _ hc fun z => match z with | some ws => some (.pure (.v (.one (.clo g ws)))) | none => none
      · rfl
    | _ => rfl
  | call c =>
    obtain ⟨callee, args, ts⟩ := c
    have ha : ∀ x ∈ args.toList, F x = F' x := fun x hx => hF x (by simp [Op.operands, Call.operands]; exact .inr (by simpa using hx))
    have hb : ∀ x ∈ args.toList, ∀ g ∈ (F x).names, o g = o' g := fun x hx => ho x (by simp [Op.operands, Call.operands]; exact .inr (by simpa using hx))
    cases callee with
    | builtin b =>
      cases b with
      | append =>
        simp only [kernel]
        split
        · rename_i s x sT xT _ hl _
          have hs := ha s (by rw [hl]; simp)
          have hx := ha x (by rw [hl]; simp)
          have ns := hb s (by rw [hl]; simp)
          have nx := hb x (by rw [hl]; simp)
          rw [← hs, ← hx]
          generalize F s = ss at ns
          generalize F x = sx at nx
          split
          · exact append_local (fun g hg => ns g (by simpa [S.names, V.names] using hg)) (fun g hg => nx g (by simpa [S.names, V.names] using hg))
          · rfl
        · rfl
      | clear =>
        simp only [kernel]
        split
        · rename_i x t tl hl _
          have hx := ha x (by rw [hl]; simp)
          have nx := hb x (by rw [hl]; simp)
          rw [← hx]
          generalize F x = sx at nx
          unfold clearK
          split
          · rename_i e _ _ _ g lo hi _
            rw [nx g (by simp [S.names, V.names, W.names])]
            split
            · rename_i ie _ _ _ _ _ _
              have : toPs o (ie.zero.map cv) = toPs o' (ie.zero.map cv) := toPs_local fun x hx g hg => by
                obtain ⟨v, _, rfl⟩ := List.mem_map.1 hx
                rw [cv_names] at hg; cases hg
              rw [this]
            · rfl
          · rfl
        · rfl
      | len =>
        simp only [kernel]
        split
        · rename_i x t hl _
          have hx := ha x (by rw [hl]; simp)
          have nx := hb x (by rw [hl]; simp)
          rw [← hx]
          generalize F x = sx at nx
          split
          · rw [lenOf_local fun g hg => nx g (by simpa [S.names, V.names] using hg)]
          · rfl
          · rfl
        · rfl
      | min =>
        simp only [kernel]
        split
        · rename_i x y hl
          rw [ha x (by rw [hl]; simp), ha y (by rw [hl]; simp)]
        · rename_i x y z hl
          rw [ha x (by rw [hl]; simp), ha y (by rw [hl]; simp), ha z (by rw [hl]; simp)]
        · rfl
      | max =>
        simp only [kernel]
        split
        · rename_i x y hl
          rw [ha x (by rw [hl]; simp), ha y (by rw [hl]; simp)]
        · rename_i x y z hl
          rw [ha x (by rw [hl]; simp), ha y (by rw [hl]; simp), ha z (by rw [hl]; simp)]
        · rfl
      | _ => rfl
    | _ => rfl
  | _ => rfl
theorem toD_local {col : Nat → Option Nat} : ∀ {xs : List W} {j : Nat}, (∀ x ∈ xs, ∀ g ∈ x.names, Agree o o' g) → toD o col j xs = toD o' col j xs
  | [], _, _ => rfl
  | x :: xs, j, h => by
    have hx := h x (by simp)
    simp only [toD]
    rw [toD_local fun y hy => h y (by simp [hy]), toP_local hx]
    cases x with
    | own e => simp only [(hx e (by simp [W.names])).1]
    | _ => rfl
theorem toD_freeze {col : Nat → Option Nat} : ∀ {xs : List W} {j : Nat} {ys : List P} {a i : Bool} {gs : List Nat} {es : List (Nat × Nat)}, toD o col j xs = some (ys, a, i, gs, es) → (∀ x ∈ xs, ∀ g ∈ x.names, Agree o o' g) → ∀ g ∈ gs, Agree o o' g
  | [], j, ys, a, i, gs, es, h, _ => by simp [toD] at h; obtain ⟨_, _, _, rfl, _⟩ := h; simp
  | x :: xs, j, ys, a, i, gs, es, h, hx => by
    simp only [toD] at h
    split at h
    · cases h
    · rename_i ys' a' i' gs' es' h2
      have ih := toD_freeze h2 (fun y hy => hx y (by simp [hy]))
      split at h
      · split at h
        · rename_i h1
          simp only [Option.some.injEq, Prod.mk.injEq] at h
          obtain ⟨_, _, _, rfl, _⟩ := h
          intro g hg
          rcases List.mem_append.1 hg with hg | hg
          · exact toP_freeze h1 (hx x (by simp)) g hg
          · exact ih g hg
        · cases h
      · split at h
        · simp only [Option.some.injEq, Prod.mk.injEq] at h
          obtain ⟨_, _, _, rfl, _⟩ := h
          exact ih
        · split at h
          · split at h
            · simp only [Option.some.injEq, Prod.mk.injEq] at h
              obtain ⟨_, _, _, rfl, _⟩ := h
              exact ih
            · cases h
          · cases h
        · cases h
theorem baseD_local {x : W} (h : ∀ g ∈ x.names, Agree o o' g) : baseD o x = baseD o' x := by
  cases x <;> simp only [baseD] <;> (try rw [homeO_agree (h _ (by simp [W.names])), (h _ (by simp [W.names])).1])
theorem kernelD_local {tt : TT} {dc : List (Nat × Nat)} {d : Nat} {F F' : Operand → S} {op : Op} {ty : TypeId} (hF : ∀ x ∈ op.operands.toList, F x = F' x) (hO : ∀ x ∈ op.operands.toList, ∀ g ∈ (F x).names, Agree o o' g) :
    kernelD tt dc d o F op ty = kernelD tt dc d o' F' op ty := by
  cases op with
  | load t x =>
    have hx := hF x (by simp [Op.operands])
    have hn := hO x (by simp [Op.operands])
    simp only [kernelD, loadHd, ← hx]
    generalize F x = sx at hn
    congr 1
    · split
      · have hg := hn _ (by simp [S.names, V.names, W.names]; rfl)
        rw [← homeO_agree hg]
      · rfl
    · split
      · have hg := hn _ (by simp [S.names, V.names, W.names]; rfl)
        rw [← homeO_agree hg, ← hg.1]
      · rfl
  | slice t x lo hi mx =>
    cases lo with
    | some _ => rfl
    | none =>
    cases mx with
    | some _ => rfl
    | none =>
    have hx := hF x (by simp [Op.operands])
    have hn := hO x (by simp [Op.operands])
    have hh : hi.map F = hi.map F' := by
      cases hi with
      | none => rfl
      | some y => simp only [Option.map_some, Option.some.injEq]; exact hF y (by simp [Op.operands])
    simp only [kernelD, ← hx, ← hh]
    generalize F x = sx at hn
    split
    · have hg := hn _ (by simp [S.names, V.names, W.names]; rfl)
      rw [← hg.1]
    · rfl
  | store t x y =>
    have hx := hF x (by simp [Op.operands])
    have hy := hF y (by simp [Op.operands])
    have hn := hO x (by simp [Op.operands])
    have hm := hO y (by simp [Op.operands])
    simp only [kernelD, ← hx, ← hy]
    generalize F x = sx at hn
    generalize F y = sy at hm
    split
    · rename_i g off y _
      have hg := hn _ (by simp [S.names, V.names, W.names]; rfl)
      have hw : ∀ x ∈ y.words, ∀ g ∈ x.names, Agree o o' g := fun x hx g hg => hm g (words_names hx hg)
      rw [← homeO_agree hg, ← hg.1]
      split
      · rename_i a0 i0 sz cols l0 hole _
        rw [← toD_local hw]
        split
        · rename_i ps a' i' gs es hz
          rw [freeze_local (toD_freeze hz hw)]
        · rfl
      · rfl
    · rfl
  | buildSlice t n ps =>
    have e : ps.toList.map (fun p => (p.1, F p.2)) = ps.toList.map (fun p => (p.1, F' p.2)) := List.map_congr_left fun p hp => by
      rw [hF p.2 (by simp only [Op.operands]; exact List.mem_map.2 ⟨p, hp, rfl⟩)]
    simp only [kernelD, ← e]
    split
    · split
      · rename_i ie _
        split
        · rename_i ws hws
          have hn : ∀ x ∈ ws, ∀ g ∈ x.names, Agree o o' g := by
            intro x hx g hg
            rcases fillW_from hws x hx with h | ⟨p, hp, h⟩
            · have := repeatW_mem h
              obtain ⟨v, _, rfl⟩ := List.mem_map.1 this
              rw [cv_names] at hg; cases hg
            · obtain ⟨q, hq, rfl⟩ := List.mem_map.1 hp
              exact hO q.2 (by simp only [Op.operands]; exact List.mem_map.2 ⟨q, hq, rfl⟩) g (h g hg)
          rw [← toD_local hn]
          split
          · rename_i h
            rw [freeze_local (toD_freeze h hn)]
          · rfl
        · rfl
      · rfl
    · rfl
  | makeSlice t n c =>
    simp only [kernelD, ← hF n (by simp [Op.operands]), ← hF c (by simp [Op.operands])]
    split
    · split
      · rename_i ie _
        have : ∀ col, toD o col 0 (ie.zero.map cv) = toD o' col 0 (ie.zero.map cv) := fun col => toD_local fun x hx g hg => by
          obtain ⟨v, _, rfl⟩ := List.mem_map.1 hx
          rw [cv_names] at hg; cases hg
        rw [this]
      · rfl
    · rfl
  | call c =>
    obtain ⟨callee, args, ts⟩ := c
    have ha : ∀ x ∈ args.toList, F x = F' x := fun x hx => hF x (by simp [Op.operands, Call.operands]; exact .inr (by simpa using hx))
    have hb : ∀ x ∈ args.toList, ∀ g ∈ (F x).names, Agree o o' g := fun x hx => hO x (by simp [Op.operands, Call.operands]; exact .inr (by simpa using hx))
    cases callee with
    | builtin b =>
      cases b with
      | append =>
        simp only [kernelD]
        split
        · rename_i s x sT xT _ hl _
          have hs := ha s (by rw [hl]; simp)
          have hx := ha x (by rw [hl]; simp)
          have ns := hb s (by rw [hl]; simp)
          have nx := hb x (by rw [hl]; simp)
          rw [← hs, ← hx]
          generalize F s = ss at ns
          generalize F x = sx at nx
          split
          · rename_i s' g2 _ _
            have hg := nx g2 (by simp [S.names, V.names, W.names])
            rw [← baseD_local (fun g hg => ns g (by simpa [S.names, V.names] using hg)), ← homeO_agree hg, ← hg.1]
          · rfl
        · rfl
      | _ => rfl
    | _ => rfl
  | _ => rfl
end
end Go.Fw
namespace Go.Fw
open Go.RowKit
set_option linter.unusedSectionVars false
set_option linter.unusedVariables false
set_option linter.unusedSimpArgs false
variable [Globs]
def quiet : Obj → Bool
  | .loop _ => true
  | .deferred _ => true
  | _ => false
theorem quiet_cells {o : Obj} (h : quiet o = true) : ∀ c e f, o ≠ .cells c e f := by intro c e f e'; subst e'; cases h
theorem quiet_iter {o : Obj} (h : quiet o = true) : ∀ s k, o ≠ .stringIter s k := by intro s k e'; subst e'; cases h
theorem quiet_not {o : Obj} (h : quiet o = true) : o.isCells = false := by cases o <;> first | rfl | cases h
section
variable {w w' : World} {b : Nat} {o : Obj}
theorem cell_block {a : Addr} {v : Value} (h : w.cell? a = some v) : ∃ c e f, w.heap[a.block]? = some (.cells c e f) := by
  obtain ⟨o, ho, hc⟩ := cells_of_cell h
  cases o <;> first | exact ⟨_, _, _, ho⟩ | cases hc
theorem RepP.turn (hb : w.heap[b]? = some o) (hq : quiet o = true) (hs : ∀ k, k ≠ b → w'.heap[k]? = w.heap[k]?) {ok : Nat → Prop} {x : P} {v : Value} (r : RepP w ok x v) : RepP w' ok x v := by
  have ne : ∀ {k c e f}, w.heap[k]? = some (.cells c e f) → k ≠ b := fun hk e' => by subst e'; rw [hb] at hk; exact quiet_cells hq _ _ _ (Option.some.inj hk)
  induction r with
  | int k n => exact .int k n
  | bool b => exact .bool b
  | str s => exact .str s
  | opq v h => exact .opq v h
  | nil sz ao cap => exact .nil sz ao cap
  | sl sz l a cap f hs' hok hcap hlen hc hr ih =>
    refine .sl sz l a cap f hs' hok hcap hlen (fun i x hx j y hy => ?_) (fun i x hx j y hy => ih i x hx j y hy)
    have h0 := hc i x hx j y hy
    obtain ⟨c, e, f, hk⟩ := cell_block h0
    rw [← h0]
    exact World.cell?_of_block (w := w) (hs _ (ne hk))
  | seq l v S hv hS hq' =>
    exact .seq l v S hv (fun b' hb' => ⟨(hS b' hb').1, by obtain ⟨c, e, f, hk⟩ := (hS b' hb').2; exact ⟨c, e, f, (hs _ (ne hk)).trans hk⟩⟩)
      (Globs.sq_mono (fun b' hb' => by obtain ⟨c, e, f, hk⟩ := (hS b' hb').2; exact hs _ (ne hk)) hq')
variable {E : Env} {st : St} {gh : Nat → Gh}
theorem ok_turn (hz : w'.heap.size = w.heap.size) {a i : Bool} : E.ok st gh w a i = E.ok st gh w' a i := by
  funext b; unfold Env.ok; rw [hz]
theorem RepW.turn (hb : w.heap[b]? = some o) (hq : quiet o = true) (hs : ∀ k, k ≠ b → w'.heap[k]? = w.heap[k]?) (hz : w'.heap.size = w.heap.size) {x : W} {v : Value} (r : RepW E st gh w x v) : RepW E st gh w' x v := by
  induction r with
  | p a i x v h => exact .p a i x v (by rw [← ok_turn hz]; exact h.turn hb hq hs)
  | nils => exact .nils
  | own g v hv h => exact .own g v hv h
  | vw g lo hi v hv h => exact .vw g lo hi v hv h
  | box g off v hv h => exact .box g off v hv h
  | ep g n off v hv h => exact .ep g n off v hv h
  | sp a i row off b' o' hb' h =>
    refine .sp a i row off b' o' (by rw [← ok_turn hz]; exact hb') fun j y hj => ?_
    obtain ⟨u, hu, hr⟩ := h j y hj
    obtain ⟨c, e, f, hk⟩ := cell_block hu
    refine ⟨u, ?_, by rw [← ok_turn hz]; exact hr.turn hb hq hs⟩
    rw [← hu]
    refine World.cell?_of_block (w := w) (hs _ fun e' => ?_)
    have hk : w.heap[b']? = some (.cells c e f) := hk
    have e' : b' = b := e'
    rw [e', hb] at hk; exact quiet_cells hq _ _ _ (Option.some.inj hk)
  | gl g => exact .gl g
  | itp g v hv h => exact .itp g v hv h
  | gd b x v h ih => exact .gd b x v ih
  | clo f caps vs hl h ih => exact .clo f caps vs hl ih
  | no v => exact .no v
theorem RepV.turn (hb : w.heap[b]? = some o) (hq : quiet o = true) (hs : ∀ k, k ≠ b → w'.heap[k]? = w.heap[k]?) (hz : w'.heap.size = w.heap.size) {x : V} {v : Value} (r : RepV E st gh w x v) : RepV E st gh w' x v := by
  cases r with
  | one x v h => exact .one x v (h.turn hb hq hs hz)
  | agg xs cs hl hv h => exact .agg xs cs hl hv fun j x v hx hv' => (h j x v hx hv').turn hb hq hs hz
theorem RepS.turn (hb : w.heap[b]? = some o) (hq : quiet o = true) (hs : ∀ k, k ≠ b → w'.heap[k]? = w.heap[k]?) (hz : w'.heap.size = w.heap.size) {x : S} {v : Value} (r : RepS E st gh w x v) : RepS E st gh w' x v := by
  cases r with
  | v x v h => exact .v x v (h.turn hb hq hs hz)
  | tup xs vs hl h => exact .tup xs vs hl fun j x v hx hv => (h j x v hx hv).turn hb hq hs hz
  | no v => exact .no v
theorem ArrAt.turn (hb : w.heap[b]? = some o) (hq : quiet o = true) (hs : ∀ k, k ≠ b → w'.heap[k]? = w.heap[k]?) (hz : w'.heap.size = w.heap.size) {a i : Bool} {sz : Nat} {l : List (List P)} {G : Gh} (r : ArrAt E st gh w a i sz l G) : ArrAt E st gh w' a i sz l G := by
  rcases r with r | ⟨ad, c, e, h1, h2, h3, h4, h5, h6, h7⟩
  · exact .inl r
  · exact .inr ⟨ad, c, e, h1, h2, (hs _ fun e' => by rw [e', hb] at h3; exact quiet_cells hq _ _ _ (Option.some.inj h3)).trans h3, h4, h5, h6, fun n x hx j y hy => let ⟨v, q1, q2⟩ := h7 n x hx j y hy; ⟨v, q1, by rw [← ok_turn hz]; exact q2.turn hb hq hs⟩⟩
theorem RepO.turn (hb : w.heap[b]? = some o) (hq : quiet o = true) (hs : ∀ k, k ≠ b → w'.heap[k]? = w.heap[k]?) (hz : w'.heap.size = w.heap.size) {x : O} {G : Gh} (r : RepO E st gh w x G) : RepO E st gh w' x G := by
  have ne : ∀ {k c e f}, w.heap[k]? = some (.cells c e f) → k ≠ b := fun hk e' => by subst e'; rw [hb] at hk; exact quiet_cells hq _ _ _ (Option.some.inj hk)
  cases x with
  | none => trivial
  | box ws =>
    obtain ⟨ad, c, e, h1, h2, h3, h4, h5⟩ := r
    exact ⟨ad, c, e, h1, h2, (hs _ (ne h3)).trans h3, h4, fun j x hx => let ⟨v, q1, q2, q3⟩ := h5 j x hx; ⟨v, q1, q2, q3.turn hb hq hs hz⟩⟩
  | arr fz a i sz l =>
    cases fz with
    | true => exact (by rw [← ok_turn hz]; exact RepP.turn hb hq hs r : RepP w' (E.ok st gh w' a i) (.sl sz l) (.slice G.ad l.length G.cap))
    | false => exact ArrAt.turn hb hq hs hz r
  | deep a i sz cols l hole =>
    rcases r with r | ⟨ad, c, e, h1, h2, h3, h4, h5, h6, ⟨h7, h7'⟩, h8⟩
    · exact .inl r
    · refine .inr ⟨ad, c, e, h1, h2, (hs _ (ne h3)).trans h3, h4, h5, h6, ⟨h7, fun k hk => let ⟨c, e, f, q⟩ := h7' k hk; ⟨c, e, f, (hs _ (ne q)).trans q⟩⟩, fun n x hx j y hy => ?_⟩
      obtain ⟨v, hv, hr⟩ := h8 n x hx j y hy
      refine ⟨v, hv, ?_⟩
      unfold EntAt at *
      cases hc : cols.lookup j with
      | none => rw [hc] at hr; exact (by rw [← ok_turn hz]; exact RepP.turn hb hq hs hr : RepP w' (E.ok st gh w' a i) y v)
      | some sz' =>
        rw [hc] at hr
        simp only at *
        cases hh : holeAt hole n j with
        | some d => rw [hh] at hr; exact ⟨hr.1, hr.2.turn hb hq hs hz⟩
        | none =>
          rw [hh] at hr
          obtain ⟨l', ao, k, q1, q2, q3, q4⟩ := hr
          exact ⟨l', ao, k, q1, q2, q3.turn hb hq hs hz, q4⟩
  | it s n =>
    obtain ⟨ad, bs, k, h1, h2, h3, h4⟩ := r
    refine ⟨ad, bs, k, h1, h2, h3, (hs _ fun e' => ?_).trans h4⟩
    rw [e', hb] at h4; exact quiet_iter hq _ _ (Option.some.inj h4)
theorem Rel.turn {val : Nat → Value} (h : Rel E st gh val w) (hb : w.heap[b]? = some o) (hq : quiet o = true) (hB : E.B0 ≤ b) (o' : Obj) : Rel E st gh val (w.putObj b o') := by
  have hs : ∀ k, k ≠ b → (w.putObj b o').heap[k]? = w.heap[k]? := fun k hk => World.putObj_heap_other hk
  have hz : (w.putObj b o').heap.size = w.heap.size := World.putObj_size
  exact ⟨fun t => (h.slots t).turn hb hq hs hz, fun g => (h.objs g).turn hb hq hs hz, h.inj, fun g a h1 h2 => by rw [hz]; exact h.wr g a h1 h2, h.wi, h.ns, h.wb, fun k hk hw => (hs k (by omega)).trans (h.frame k hk hw), by rw [hz]; exact h.size, h.os, h.tape, h.output, h.us, h.uo, h.ul⟩
omit [Globs] in
structure Grows (w w' : World) : Prop where
  size : w.heap.size ≤ w'.heap.size
  same : ∀ b, b < w.heap.size → w'.heap[b]? = w.heap[b]?
  os : w'.os = w.os
  tape : w'.tape = w.tape
  output : w'.output = w.output
theorem Grows.refl (w : World) : Grows w w := ⟨Nat.le_refl _, fun _ _ => rfl, rfl, rfl, rfl⟩
theorem Grows.trans {w w1 w2 : World} (h : Grows w w1) (k : Grows w1 w2) : Grows w w2 :=
  ⟨Nat.le_trans h.size k.size, fun b hb => (k.same b (Nat.lt_of_lt_of_le hb h.size)).trans (h.same b hb), k.os.trans h.os, k.tape.trans h.tape, k.output.trans h.output⟩
theorem Grows.alloc (w : World) (o : Obj) : Grows w (w.alloc o) :=
  ⟨by simp, fun b hb => Below.heap_alloc w o b hb, rfl, rfl, rfl⟩
theorem Grows.lets (h : Grows w w') : Lets E st st gh gh w w' :=
  ⟨fun a i b hb => ⟨⟨hb.1, Nat.lt_of_lt_of_le hb.2.1 h.size, hb.2.2⟩, h.same b hb.2.1⟩, fun g _ => .inr ⟨⟨rfl, rfl⟩, O.like_refl _⟩⟩
theorem Rel.grows {val : Nat → Value} (h : Rel E st gh val w) (hg : Grows w w') : Rel E st gh val w' := by
  have hl : Lets E st st gh gh w w' := hg.lets
  refine ⟨fun t => hl.repS (h.us t) (h.slots t), fun g => hl.repO (fun ho ad had => hg.same _ (h.wr g ad ho had).2) (h.uo g) (h.objs g), h.inj, fun g a h1 h2 => ⟨(h.wr g a h1 h2).1, Nat.lt_of_lt_of_le (h.wr g a h1 h2).2 hg.size⟩, h.wi, h.ns, h.wb, fun k hk hw => (hg.same k (Nat.lt_of_lt_of_le hk h.size)).trans (h.frame k hk hw), Nat.le_trans h.size hg.size, hg.os.trans h.os, hg.tape.trans h.tape, hg.output.trans h.output, h.us, h.uo, h.ul⟩
theorem Rel.quiet_ok {val : Nat → Value} (h : Rel E st gh val w) (hb : w.heap[b]? = some o) (hq : quiet o = true) (hB : E.B0 ≤ b) (a i : Bool) : E.ok st gh w a i b := by
  refine ⟨.inr (.inr (.inl hB)), (Array.getElem?_eq_some_iff.1 hb).1, fun g ho had => ?_⟩
  have hO := h.objs g
  rcases had with ⟨ad, had, e⟩ | hsub
  case inr =>
    cases hd : (st.o g).isDeep with
    | false => rw [h.ns g ho hd b] at hsub; cases hsub
    | true =>
      cases hog : st.o g with
      | deep a i sz cols l hole =>
        rw [hog] at hO
        rcases hO with ⟨_, _, _, q⟩ | ⟨ad, c, e, _, _, _, _, _, _, ⟨_, q⟩, _⟩
        · rw [q b] at hsub; cases hsub
        · obtain ⟨c, e, f, q⟩ := q b hsub
          rw [hb] at q; exact quiet_cells hq _ _ _ (Option.some.inj q)
      | _ => rw [hog] at hd; cases hd
  cases hog : st.o g with
  | none => rw [hog] at ho; cases ho
  | box ws =>
    rw [hog] at hO
    obtain ⟨ad', c, e', q1, _, q3, _⟩ := hO
    rw [had] at q1; cases q1
    rw [e, hb] at q3; exact quiet_cells hq _ _ _ (Option.some.inj q3)
  | deep a i sz cols l hole =>
    rw [hog] at hO
    rcases hO with ⟨q1, _⟩ | ⟨ad', c, e', q1, _, q3, _⟩
    · rw [had] at q1; cases q1
    · rw [had] at q1; cases q1
      rw [e, hb] at q3; exact quiet_cells hq _ _ _ (Option.some.inj q3)
  | arr fz a i sz l =>
    cases fz with
    | true => rw [hog] at ho; cases ho
    | false =>
      rw [hog] at hO
      rcases hO with ⟨q1, _⟩ | ⟨ad', c, e', q1, _, q3, _⟩
      · rw [had] at q1; cases q1
      · rw [had] at q1; cases q1
        rw [e, hb] at q3; exact quiet_cells hq _ _ _ (Option.some.inj q3)
  | it s n =>
    rw [hog] at hO
    obtain ⟨ad', bs, k, q1, _, _, q4⟩ := hO
    rw [had] at q1; cases q1
    rw [e, hb] at q4; exact quiet_iter hq _ _ (Option.some.inj q4)
end
end Go.Fw
namespace Go.Fw
set_option linter.unusedSectionVars false
variable [Globs]
set_option linter.unusedVariables false
section
variable {E : Env} {st st' : St} {gh gh' : Nat → Gh} {w w' : World} {a : Act}
theorem constS_rep (v : Value) : RepS E st gh w (constS v) v := by
  unfold constS
  split
  · rename_i cs
    split
    · rename_i h
      have h := List.all_eq_true.1 h
      refine .v _ _ (.agg _ cs.toList (by simp) h fun j x u hx hu => ?_)
      rw [List.getElem?_map, hu] at hx
      simp only [Option.map_some, Option.some.injEq] at hx
      subst hx
      exact cv_rep (h u (List.mem_of_getElem? hu))
    · exact .no _
  · exact .no _
  · exact .v _ _ (.one _ _ (.clo _ [] [] rfl fun j x v hx => by simp at hx))
  · split
    · rename_i h; exact .v _ _ (.one _ _ (cv_rep h))
    · exact .no _
theorem constS_names (v : Value) : (constS v).names = [] := by
  unfold constS
  split
  · split
    · simp [S.names, V.names, cv_names]
    · rfl
  · rfl
  · simp [S.names, V.names, W.names]
  · split
    · simp [S.names, V.names, cv_names]
    · rfl
theorem opnd_rep (h : Rel E st gh (fun t => a.tmps.getD t undef) w) (x : Operand) : RepS E st gh w (st.opnd x) (a.eval x) := by
  cases x with
  | tmp t => exact h.slots t
  | const v => exact constS_rep v
  | global g =>
    simp only [St.opnd]
    split
    · exact .v _ _ (.one _ _ (.gl g))
    · exact .no _
  | func f => exact .v _ _ (.one _ _ (.clo _ [] [] rfl fun j x v hx => by simp at hx))
theorem opnd_names (h : Rel E st gh (fun t => a.tmps.getD t undef) w) (x : Operand) : ∀ g ∈ (st.opnd x).names, st.used g = true := by
  cases x with
  | tmp t => exact h.us t
  | const v => intro g hg; simp [St.opnd, constS_names] at hg
  | global g =>
    intro g' hg
    simp only [St.opnd] at hg
    split at hg
    · simp [S.names, V.names, W.names] at hg
    · simp [S.names] at hg
  | func f => intro g hg; simp [St.opnd, S.names, V.names, W.names] at hg
theorem vals_put (dst : Option Tmp) (v : Value) (h : ∀ d, dst = some d → d < a.tmps.size) : (fun t => (a.put dst v).tmps.getD t undef) = putVal (fun t => a.tmps.getD t undef) dst v := by
  cases dst with
  | none => rfl
  | some d =>
    funext t
    have hd := h d rfl
    simp only [Act.put, putVal, Array.getD_eq_getD_getElem?]
    by_cases e : t = d
    · subst e; simp [hd]
    · rw [Array.getElem?_setIfInBounds_ne (Ne.symm e), if_neg e]
variable {Pg : Program} {T : Tab} {tt : TT}
theorem eff_sound (hT : ∀ f sp, T f = some sp → Sound Pg f sp) (htt : TTok Pg tt) (h : Rel E st gh (fun t => a.tmps.getD t undef) w) {o : Oper} {d : Nat} {e : Eff} (hc : effOf T tt d st o fun e' => e' = e) (hnew : ∀ g ∈ e.new, st.used g = false)
    {K : Act → World → Prop} {Q : Exit → Act → World → Prop}
    (hK : ∀ v w' gh', Rel E (st.upd e.upd e.new) gh' (fun t => a.tmps.getD t undef) w' → Lets E st (st.upd e.upd e.new) gh gh' w w' → RepS E (st.upd e.upd e.new) gh' w' e.x v → (∀ g ∈ e.x.names, (st.upd e.upd e.new).used g = true) → K (a.put o.dst v) w') :
    o.wp Pg a w K Q := by
  unfold effOf at hc
  split at hc
  · rename_i f args ts ho
    split at hc
    · rename_i fn caps hf
      split at hc
      · rename_i sp hsp
        split at hc
        · rename_i c hci
          obtain ⟨hfine, outs, same, hR, hsame, he⟩ := hc
          simp only [Bool.and_eq_true, decide_eq_true_eq] at hfine
          have hrf := opnd_rep h f
          rw [hf] at hrf
          generalize hvf : a.eval f = vf at hrf
          cases hrf.one_inv with
          | clo _ _ vs hl hvs =>
          have hS := hT fn sp hsp
          have hrun : (execOp a.eval o).run Pg w = .ok (.enter fn (args.toList.map a.eval ++ vs).toArray) w := by
            have : (#[] ++ args.map a.eval) ++ vs.toArray = (args.toList.map a.eval ++ vs).toArray := by
              apply Array.ext'; simp
            rw [← hS.2.1 (args.toList.map a.eval ++ vs).toArray w, ← this]
            simp only [execOp, ho, resolve, hvf, Deferred.ofValue]
            rfl
          show o.upon Pg a K Q ((execOp a.eval o).run Pg w)
          rw [hrun, Oper.upon_enter]
          have hr : ∀ t, RepS E st gh w (((args.toList.map st.opnd) ++ caps.map fun x => S.v (.one x)).getD t .no) ((args.toList.map a.eval ++ vs).getD t undef) := by
            intro t
            simp only [List.getD_eq_getElem?_getD]
            by_cases ht : t < args.toList.length
            · rw [List.getElem?_append_left (by simpa using ht), List.getElem?_append_left (by simpa using ht), List.getElem?_map, List.getElem?_map, List.getElem?_eq_getElem ht]
              exact opnd_rep h _
            · rw [List.getElem?_append_right (by simpa using ht), List.getElem?_append_right (by simpa using ht)]
              simp only [List.length_map]
              rw [List.getElem?_map]
              cases hx : caps[t - args.toList.length]? with
              | none => exact .no _
              | some x =>
                have hlt : t - args.toList.length < vs.length := by rw [← hl]; exact (List.getElem?_eq_some_iff.1 hx).1
                rw [List.getElem?_eq_getElem hlt]
                exact .v _ _ (.one _ _ (hvs _ x _ hx (List.getElem?_eq_getElem hlt)))
          have hu := dropE_upd (st := st) (e := callEff sp.sig d st.o c outs) fun g hg => (hsame g hg).2
          have hnew : ∀ g ∈ (callEff sp.sig d st.o c outs).new, st.used g = false := fun g hg => hnew g (by rw [← he]; exact hg)
          refine Calls.mono (call_sound hS h hr (by simp; omega) hci hfine.1 hR d rfl hnew) fun e' w' he' => ?_
          obtain ⟨v, gh', rfl, q1, q2, q3, q4⟩ := he'
          rw [← hu] at q1 q2 q3 q4
          rw [he] at q1 q2 q3 q4
          have q3 : RepS E (st.upd e.upd e.new) gh' w' e.x v := by rw [← he]; rw [← he] at q3; exact q3
          have q4 : ∀ g ∈ e.x.names, (st.upd e.upd e.new).used g = true := by rw [← he]; rw [← he] at q4; exact q4
          exact hK v w' gh' q1 q2 q3 q4
        · cases hc
      · cases hc
    · cases hc
  · rcases hc with ⟨dc, r, hk, hp, hc⟩ | hc
    · have he := Bnd.iff.1 hc
      subst he
      obtain ⟨v, w', gh', hd, q1, q2, q3, q4⟩ := kernelD_sound htt o.op E st gh _ w a.eval st.opnd o d r rfl h (opnd_rep h) (opnd_names h) hk hp hnew
      show o.upon Pg a K Q ((execOp a.eval o).run Pg w)
      rcases hd with hd | ⟨hd, rfl⟩
      · rw [hd]; exact hK v w' gh' q1 q2 q3 q4
      · rw [hd]; exact hK _ w' gh' q1 q2 q3 q4
    split at hc
    · rename_i r hk
      obtain ⟨hp, hc⟩ := hc
      have he : ({ x := r.dst r.val, upd := r.upd r.val, new := r.new } : Eff) = e := by
        cases hb : calcs o.op with
        | true => rw [hb] at hc; exact Bnd.iff.1 hc
        | false => rw [hb] at hc; exact hc
      subst he
      obtain ⟨v, w', gh', hd, q1, q2, q3, q4⟩ := kernel_sound htt o.op E st gh _ w a.eval st.opnd o d r rfl h (opnd_rep h) (opnd_names h) hk hp hnew
      show o.upon Pg a K Q ((execOp a.eval o).run Pg w)
      rcases hd with hd | ⟨hd, rfl⟩
      · rw [hd]; exact hK v w' gh' q1 q2 q3 q4
      · rw [hd]; exact hK _ w' gh' q1 q2 q3 q4
    · cases hc
def mark (D : Nat) : Deferred := { target := .collected D, args := #[] }
def Marks (E : Env) (a : Act) (w : World) : Prop := ∃ Ds : List Nat, a.defers = Ds.map mark ∧ Ds.Nodup ∧ ∀ D ∈ Ds, E.B0 ≤ D ∧ w.heap[D]? = some (.deferred (some []))
theorem Marks.nil {E : Env} {a : Act} {w : World} (h : a.defers = []) : Marks E a w := ⟨[], h, List.nodup_nil, fun D hD => by cases hD⟩
structure Good (E : Env) (N : Nat) (ios : List Nat) (gh0 : Nat → Gh) (st : St) (a : Act) (w : World) : Prop where
  ex : ∃ gh, Rel E st gh (fun t => a.tmps.getD t undef) w ∧ ∀ g ∈ ios, st.used g = true ∧ (st.o g = .none ∨ ((gh g).ad = (gh0 g).ad ∧ (gh g).cap = (gh0 g).cap))
  size : a.tmps.size = N
  defers : Marks E a w
theorem put_size (dst : Option Tmp) (v : Value) : (a.put dst v).tmps.size = a.tmps.size := by cases dst <;> simp [Act.put]
theorem put_defers (dst : Option Tmp) (v : Value) : (a.put dst v).defers = a.defers := by cases dst <;> rfl
theorem Marks.same {E : Env} {a : Act} {w w' : World} (hm : Marks E a w) (h : ∀ D, E.B0 ≤ D → w.heap[D]? = some (.deferred (some [])) → w'.heap[D]? = w.heap[D]?) (dst : Option Tmp) (v : Value) : Marks E (a.put dst v) w' := by
  obtain ⟨Ds, h1, h2, h3⟩ := hm
  exact ⟨Ds, (put_defers dst v).trans h1, h2, fun D hD => ⟨(h3 D hD).1, (h D (h3 D hD).1 (h3 D hD).2).trans (h3 D hD).2⟩⟩
theorem Marks.step {val : Nat → Value} (hm : Marks E a w) (hR : Rel E st gh val w) (hL : Lets E st st' gh gh' w w') (dst : Option Tmp) (v : Value) : Marks E (a.put dst v) w' :=
  hm.same (fun D h2 h3 => (hL.ok false false D (hR.quiet_ok h3 rfl h2 _ _)).2) dst v
theorem Marks.put (hm : Marks E a w) (dst : Option Tmp) (v : Value) : Marks E (a.put dst v) w := hm.same (fun _ _ _ => rfl) dst v
def Can (T : Tab) (tt : TT) (N : Nat) (ops : Array Oper) (st : St) (o : Oper) (e : Eff) : Prop := stepW T tt N ops o st fun e' => e' = e
theorem effOf_mono {d : Nat} {o : Oper} {K K' : Eff → Prop} (hK : ∀ e, K e → K' e) (h : effOf T tt d st o K) : effOf T tt d st o K' := by
  unfold effOf at *
  split at h
  · split at h
    · split at h
      · split at h
        · obtain ⟨h1, outs, same, h2, h4, h3⟩ := h; exact ⟨h1, outs, same, h2, h4, hK _ h3⟩
        · exact h
      · exact h
    · exact h
  · rcases h with ⟨dc, r, h1, h2, h3⟩ | h
    · exact .inl ⟨dc, r, h1, h2, Bnd.iff.2 (hK _ (Bnd.iff.1 h3))⟩
    refine .inr ?_
    split at h
    · refine ⟨h.1, ?_⟩
      obtain ⟨_, h⟩ := h
      cases hb : calcs o.op with
      | true => rw [hb] at h; exact Bnd.iff.2 (hK _ (Bnd.iff.1 h))
      | false => rw [hb] at h; exact hK _ h
    · exact h
theorem effOf_can {d : Nat} {o : Oper} {K : Eff → Prop} (h : effOf T tt d st o K) : ∃ e, effOf T tt d st o (fun e' => e' = e) ∧ K e := by
  unfold effOf at *
  split at h
  · split at h
    · split at h
      · split at h
        · obtain ⟨h1, outs, same, h2, h4, h3⟩ := h; exact ⟨_, ⟨h1, outs, same, h2, h4, rfl⟩, h3⟩
        · cases h
      · cases h
    · cases h
  · rcases h with ⟨dc, r, h1, h2, h3⟩ | h
    · exact ⟨_, .inl ⟨dc, r, h1, h2, Bnd.iff.2 rfl⟩, Bnd.iff.1 h3⟩
    split at h
    · obtain ⟨hp, h⟩ := h
      cases hb : calcs o.op with
      | true => rw [hb] at h; exact ⟨_, .inr ⟨hp, Bnd.iff.2 rfl⟩, Bnd.iff.1 h⟩
      | false => rw [hb] at h; exact ⟨_, .inr ⟨hp, rfl⟩, h⟩
    · cases h
theorem step_can {N : Nat} {ops : Array Oper} {o : Oper} {K : Eff → Prop} (h : stepW T tt N ops o st K) : ∃ e, Can T tt N ops st o e ∧ K e := by
  unfold Can
  unfold stepW at *
  obtain ⟨hd, h⟩ := h
  split at h
  · obtain ⟨e, h1, h2, h3⟩ := effOf_can h
    exact ⟨e, ⟨hd, effOf_mono (fun e' he => ⟨by rw [he]; exact h2, he⟩) h1⟩, h3⟩
  · split at h
    · rename_i b hb
      cases b with
      | true =>
        simp only [cond_true] at h
        obtain ⟨e, h1, h2, h3⟩ := effOf_can h
        refine ⟨e, ⟨hd, ?_⟩, h3⟩
        simp only [cond_true]
        exact effOf_mono (fun e' he => ⟨by rw [he]; exact h2, he⟩) h1
      | false => exact ⟨Eff.skip, ⟨hd, rfl⟩, h⟩
    · cases h
theorem step_sound {N : Nat} {ios : List Nat} {gh0 : Nat → Gh} (hT : ∀ f sp, T f = some sp → Sound Pg f sp) (htt : TTok Pg tt) {ops : Array Oper} {i : Nat} {o : Oper} (hi : ops[i]? = some o) (h : Good E N ios gh0 st a w) {e : Eff} (hc : Can T tt N ops st o e)
    {K : Act → World → Prop} {Q : Exit → Act → World → Prop} (hK : ∀ a' w', Good E N ios gh0 (st.eff o.dst e) a' w' → K a' w') : wpOp Pg ops Q i K a w := by
  obtain ⟨⟨gh, hR, hio⟩, hsz, hdf⟩ := h
  unfold Can stepW at hc
  obtain ⟨hd, hc⟩ := hc
  have hd : ∀ d, o.dst = some d → d < a.tmps.size := by
    intro d e
    rw [e] at hd
    rw [hsz]; simpa using hd
  have run : (effOf T tt (o.dst.getD 0) st o fun e' => e'.new.all (fun g => !st.used g) = true ∧ e' = e) → o.wp Pg a w K Q := by
    intro hc
    obtain ⟨e', h1, h2, rfl⟩ := effOf_can hc
    have hnew : ∀ g ∈ e'.new, st.used g = false := fun g hg => by have := (List.all_eq_true.1 h2) g hg; simpa using this
    refine eff_sound hT htt hR h1 hnew fun v w' gh' q1 q2 q3 q4 => hK _ _ ⟨⟨gh', ?_, fun g hg => ?_⟩, by rw [put_size]; exact hsz, hdf.step hR q2 _ _⟩
    · rw [vals_put _ _ hd]
      exact q1.put o.dst q3 q4
    · obtain ⟨p1, p2⟩ := hio g hg
      have ho : (st.eff o.dst e').o g = (st.upd e'.upd e'.new).o g := by unfold St.eff St.put; cases o.dst <;> rfl
      have hu : (st.eff o.dst e').used g = (st.upd e'.upd e'.new).used g := by unfold St.eff St.put; cases o.dst <;> rfl
      refine ⟨by rw [hu]; simp [St.upd, p1], ?_⟩
      rw [ho]
      rcases q2.names g p1 with q | ⟨q, qk⟩
      · exact .inl q
      · rcases p2 with p2 | p2
        · rw [p2] at qk; exact .inl (O.none_like qk)
        · exact .inr ⟨q.1.trans p2.1, q.2.trans p2.2⟩
  unfold wpOp
  rw [hi]
  simp only
  cases hg : o.guard with
  | none =>
    rw [hg] at hc
    have : Region.wanted o (yielded ops a.tmps) = true := by simp [Region.wanted, hg]
    rw [if_pos this]
    exact .inl (run hc)
  | some p =>
    obtain ⟨j, want⟩ := p
    rw [hg] at hc
    simp only at hc
    split at hc
    · rename_i b hb
      have hw : Region.wanted o (yielded ops a.tmps) = b := by
        simp only [Region.wanted, hg, yielded]
        unfold guardOf at hb
        split at hb
        · rename_i t ht
          have hslot := hR.slots t
          rw [ht]
          simp only [Option.bind_some]
          split at hb
          · rename_i a' i' b' hs
            rw [hs] at hslot
            have hv := hslot.p_inv.bool_inv
            have : a.tmps[t]? = some (.bool b') := by
              simp only [Array.getD_eq_getD_getElem?] at hv
              cases hx : a.tmps[t]? with
              | none => rw [hx] at hv; cases hv
              | some x => rw [hx] at hv; simp at hv; rw [hv]
            rw [this]
            simp only [Option.some.injEq] at hb
            subst hb
            cases want <;> cases b' <;> rfl
          · rename_i hs
            rw [hs] at hslot
            simp only [Option.some.injEq] at hb
            subst hb
            have hv : a.tmps.getD t undef = .tuple #[] := by
              generalize a.tmps.getD t undef = v at hslot
              cases hslot with | tup _ vs hl _ =>
              have : vs = [] := by cases vs <;> simp_all
              subst this; rfl
            have : a.tmps[t]? = none ∨ a.tmps[t]? = some (.tuple #[]) := by
              simp only [Array.getD_eq_getD_getElem?] at hv
              cases hx : a.tmps[t]? with
              | none => exact .inl rfl
              | some x => rw [hx] at hv; simp at hv; rw [hv]; exact .inr rfl
            rcases this with h | h <;> rw [h] <;> cases want <;> rfl
          · cases hb
        · cases hb
      rw [hw]
      cases b with
      | true => exact .inl (run hc)
      | false =>
        simp only [cond_false] at hc
        subst hc
        refine hK _ _ ⟨⟨gh, ?_, fun g hg => ?_⟩, by rw [put_size]; exact hsz, hdf.put _ _⟩
        · rw [vals_put _ _ hd]
          unfold St.eff Eff.skip
          simp only [upd_nil]
          exact hR.put o.dst (.tup [] [] rfl fun j x v hx => by simp at hx) (by simp [S.names])
        · have ho : (st.eff o.dst Eff.skip).o g = st.o g := by unfold St.eff St.put Eff.skip; cases o.dst <;> simp [St.upd]
          have hu : (st.eff o.dst Eff.skip).used g = st.used g := by unfold St.eff St.put Eff.skip; cases o.dst <;> simp [St.upd]
          rw [ho, hu]; exact hio g hg
    · cases hc
end
end Go.Fw
namespace Go.Fw
set_option linter.unusedSectionVars false
variable [Globs]
set_option linter.unusedVariables false
section
variable {o o' : Nat → O}
theorem argW_local {k : WS} {x : W} (h : ∀ g ∈ x.names, Agree o o' g) : argW o k x = argW o' k x := by
  cases k with
  | p a i => simp only [argW]; rw [toP_local h]
  | own g' => cases x <;> rfl
  | box g' off =>
    cases off with
    | zero => cases x <;> first | rfl | (rename_i off; cases off <;> rfl)
    | succ off => cases x <;> rfl
  | nils => cases x <;> rfl
  | fn f => cases x <;> first | rfl | (rename_i caps; cases caps <;> rfl)
  | itp g => cases x <;> rfl
  | no => cases x <;> rfl
  | vw g => cases x <;> rfl
  | ep g off => cases x <;> rfl
theorem argWs_local : ∀ {ks : List WS} {xs : List W}, (∀ x ∈ xs, ∀ g ∈ x.names, Agree o o' g) → argWs o ks xs = argWs o' ks xs
  | [], [], _ => rfl
  | [], _ :: _, _ => rfl
  | _ :: _, [], _ => rfl
  | k :: ks, x :: xs, h => by simp only [argWs]; rw [argW_local (h x (by simp)), argWs_local fun y hy => h y (by simp [hy])]
theorem argS_local {k : SS} {x : S} (h : ∀ g ∈ x.names, Agree o o' g) : argS o k x = argS o' k x := by
  cases k with
  | one k =>
    cases x with
    | v x => cases x with
      | one x => exact argW_local fun g hg => h g (by simpa [S.names, V.names] using hg)
      | agg xs => rfl
    | tup => rfl
    | no => rfl
  | agg ks =>
    cases x with
    | v x => cases x with
      | one x => rfl
      | agg xs => exact argWs_local fun x hx g hg => h g (by simp only [S.names, V.names, List.mem_flatMap]; exact ⟨x, hx, hg⟩)
    | tup => rfl
    | no => rfl
theorem getD_no {args : List S} {t : Nat} : args.getD t .no = .no ∨ args.getD t .no ∈ args := by
  rw [List.getD_eq_getElem?_getD]
  cases h : args[t]? with
  | none => exact .inl rfl
  | some x => exact .inr (List.mem_of_getElem? h)
theorem argSlots_local {args : List S} (h : ∀ x ∈ args, ∀ g ∈ x.names, Agree o o' g) : ∀ {L : List (Nat × SS)}, argSlots o args L = argSlots o' args L
  | [] => rfl
  | (t, k) :: L => by
    simp only [argSlots]
    rw [argS_local (o := o) (o' := o') (k := k) (x := args.getD t .no) (fun g hg => by
      rcases getD_no (args := args) (t := t) with e | e
      · rw [e] at hg; simp [S.names] at hg
      · exact h _ e g hg), argSlots_local h]
theorem argW_bor_sub {k : WS} {x : W} {us : List P} {c : Bool × Bool} {gs : List Nat} {r : List (Nat × Nat)} (h : argW o k x = some (us, c, gs, r)) (hx : ∀ g ∈ x.names, Agree o o' g) : ∀ g ∈ gs, Agree o o' g := by
  cases k with
  | p a i =>
    simp only [argW] at h
    split at h
    · rename_i ht
      simp only [Option.some.injEq, Prod.mk.injEq] at h
      obtain ⟨_, _, rfl, _⟩ := h
      exact toP_freeze ht hx
    · cases h
  | own g' => cases x <;> simp [argW] at h; obtain ⟨_, _, rfl, _⟩ := h; simp
  | box g' off =>
    cases off with
    | succ off => cases x <;> simp [argW] at h
    | zero =>
      cases x with
      | box g off => cases off <;> simp [argW] at h; obtain ⟨_, _, rfl, _⟩ := h; simp
      | _ => simp [argW] at h
  | nils => simp [argW] at h
  | fn f gs0 =>
    cases x with
    | clo f' caps =>
      simp only [argW] at h
      split at h
      · split at h
        · simp only [Option.some.injEq, Prod.mk.injEq] at h; obtain ⟨_, _, rfl, _⟩ := h; simp
        · cases h
      · cases h
    | _ => simp [argW] at h
  | itp g => simp [argW] at h
  | no => simp [argW] at h
  | vw g => simp [argW] at h
  | ep g off => simp [argW] at h
theorem argWs_bor_sub : ∀ {ks : List WS} {xs : List W} {us : List P} {c : Bool × Bool} {gs : List Nat} {r : List (Nat × Nat)}, argWs o ks xs = some (us, c, gs, r) → (∀ x ∈ xs, ∀ g ∈ x.names, Agree o o' g) → ∀ g ∈ gs, Agree o o' g
  | [], xs, us, c, gs, r, h, _ => by
    cases xs <;> simp [argWs] at h
    obtain ⟨_, _, rfl, _⟩ := h; simp
  | k :: ks, xs, us, c, gs, r, h, hx => by
    cases xs with
    | nil => simp [argWs] at h
    | cons x xs =>
      simp only [argWs] at h
      split at h
      · rename_i h1 h2
        simp only [Option.some.injEq, Prod.mk.injEq] at h
        obtain ⟨_, _, rfl, _⟩ := h
        intro g hg
        rcases List.mem_append.1 hg with hg | hg
        · exact argW_bor_sub h1 (hx _ (by simp)) g hg
        · exact argWs_bor_sub h2 (fun y hy => hx y (by simp [hy])) g hg
      · cases h
theorem argSlots_bor_sub {args : List S} : ∀ {L : List (Nat × SS)} {us : List P} {c : Bool × Bool} {gs : List Nat} {r : List (Nat × Nat)}, argSlots o args L = some (us, c, gs, r) → (∀ x ∈ args, ∀ g ∈ x.names, Agree o o' g) → ∀ g ∈ gs, Agree o o' g
  | [], us, c, gs, r, h, _ => by simp [argSlots] at h; obtain ⟨_, _, rfl, _⟩ := h; simp
  | (t, k) :: L, us, c, gs, r, h, hx => by
    simp only [argSlots] at h
    split at h
    · rename_i h1 h2
      simp only [Option.some.injEq, Prod.mk.injEq] at h
      obtain ⟨_, _, rfl, _⟩ := h
      intro g hg
      rcases List.mem_append.1 hg with hg | hg
      · have hx0 : ∀ g ∈ (args.getD t .no).names, Agree o o' g := by
          rcases getD_no (args := args) (t := t) with e | e
          · rw [e]; simp [S.names]
          · exact hx _ e
        · generalize args.getD t S.no = z at h1 hx0
          cases k with
          | one k =>
            cases z with
            | v z =>
              cases z with
              | one z => exact argW_bor_sub h1 (fun g hg => hx0 g (by simpa [S.names, V.names] using hg)) g hg
              | agg z => simp [argS] at h1
            | _ => simp [argS] at h1
          | agg ks =>
            cases z with
            | v z =>
              cases z with
              | one z => simp [argS] at h1
              | agg z => exact argWs_bor_sub h1 (fun x hx g hg => hx0 g (by simp only [S.names, V.names, List.mem_flatMap]; exact ⟨x, hx, hg⟩)) g hg
            | _ => simp [argS] at h1
      · exact argSlots_bor_sub h2 hx g hg
    · cases h
theorem ioObjs_sub : ∀ {L : List (Nat × OS)} {r r' : List (Nat × Nat)} {u : List P} {c : Bool × Bool}, ioObjs o r L = some (u, c, r') → ∀ p ∈ r, p ∈ r'
  | [], r, r', u, c, h => by simp only [ioObjs, Option.some.injEq, Prod.mk.injEq] at h; obtain ⟨_, _, rfl⟩ := h; exact fun p hp => hp
  | (g', k) :: L, r, r', u, c, h => by
    simp only [ioObjs] at h
    split at h
    · split at h
      · split at h
        · split at h
          · rename_i h2
            simp only [Option.some.injEq, Prod.mk.injEq] at h
            obtain ⟨_, _, rfl⟩ := h
            exact fun p hp => ioObjs_sub h2 p (List.mem_append_left _ hp)
          · cases h
        · cases h
      · split at h
        · split at h
          · rename_i h2
            simp only [Option.some.injEq, Prod.mk.injEq] at h
            obtain ⟨_, _, rfl⟩ := h
            exact ioObjs_sub h2
          · cases h
        · cases h
      · split at h
        · split at h
          · rename_i h2
            simp only [Option.some.injEq, Prod.mk.injEq] at h
            obtain ⟨_, _, rfl⟩ := h
            exact ioObjs_sub h2
          · cases h
        · cases h
      · cases h
    · cases h
theorem ioObjs_local : ∀ {L : List (Nat × OS)} {r r' : List (Nat × Nat)} {u : List P} {c : Bool × Bool}, ioObjs o r L = some (u, c, r') → (∀ p ∈ r', o p.2 = o' p.2) → ioObjs o' r L = some (u, c, r')
  | [], r, r', u, c, h, _ => h
  | (g', k) :: L, r, r', u, c, h, hl => by
    simp only [ioObjs] at h ⊢
    split at h
    · rename_i g hg
      have hmem := mem_of_lookup hg
      have key : ∀ r2 : List (Nat × Nat), (∀ p ∈ r, p ∈ r2) → (∀ p ∈ r2, p ∈ r') → o g = o' g := fun r2 h1 h2 => hl _ (h2 _ (h1 _ hmem))
      split at h
      · rename_i ks ws hk
        split at h
        · rename_i r1 h1
          split at h
          · rename_i h2
            simp only [Option.some.injEq, Prod.mk.injEq] at h
            obtain ⟨rfl, rfl, rfl⟩ := h
            have e := key _ (fun p hp => List.mem_append_left _ hp) (ioObjs_sub h2)
            simp only [← e, hk, h1, ioObjs_local h2 hl]
          · cases h
        · cases h
      · rename_i a1 b1 c1 sz a i sz' l hk
        split at h
        · rename_i hsz
          split at h
          · rename_i h2
            simp only [Option.some.injEq, Prod.mk.injEq] at h
            obtain ⟨rfl, rfl, rfl⟩ := h
            have e := key _ (fun p hp => hp) (ioObjs_sub h2)
            simp only [← e, hk, ioObjs_local h2 hl, if_pos hsz]
          · cases h
        · cases h
      · rename_i a1 b1 sz cols a i sz' cols' l hk
        split at h
        · rename_i hsz
          split at h
          · rename_i h2
            simp only [Option.some.injEq, Prod.mk.injEq] at h
            obtain ⟨rfl, rfl, rfl⟩ := h
            have e := key _ (fun p hp => hp) (ioObjs_sub h2)
            simp only [← e, hk, ioObjs_local h2 hl, if_pos hsz]
          · cases h
        · cases h
      · cases h
    · cases h
theorem argsIn_local {s : Sig} {args : List S} {c : CIn} (h : argsIn s o args = some c) (h1 : ∀ x ∈ args, ∀ g ∈ x.names, Agree o o' g) (h2 : ∀ p ∈ c.ren, o p.2 = o' p.2) : argsIn s o' args = some c := by
  unfold argsIn at *
  rw [← argSlots_local h1]
  split at h
  · rename_i hs
    split at h
    · rename_i hio
      simp only [Option.some.injEq] at h
      subst h
      simp only [ioObjs_local hio fun p hp => h2 p (onceR_mem.2 hp)]
    · cases h
  · cases h
theorem argsIn_bor_sub {s : Sig} {args : List S} {c : CIn} (hc : argsIn s o args = some c) (hx : ∀ x ∈ args, ∀ g ∈ x.names, Agree o o' g) : ∀ g ∈ c.bor, Agree o o' g := by
  unfold argsIn at hc
  split at hc
  · rename_i hsl
    split at hc
    · simp only [Option.some.injEq] at hc; subst hc
      exact argSlots_bor_sub hsl hx
    · cases hc
  · cases hc
end
def renOf (T : Tab) (st : St) (o : Oper) : List Nat :=
  match o.op with
  | .call { callee := .value f, args, .. } => match st.opnd f with
    | .v (.one (.clo fn caps)) => match T fn with
      | some sp => match argsIn sp.sig st.o ((args.toList.map st.opnd) ++ caps.map fun x => S.v (.one x)) with
        | some c => c.ren.map (·.2)
        | none => []
      | none => []
    | _ => []
  | _ => []
def looks : Op → Bool
  | .move _ | .assign _ | .pick _ _ _ | .build _ _ | .extract _ _ | .field _ _ _ | .makeFunc _ _ _ => false
  | _ => true
theorem kernel_blind {o o' : Nat → O} {tt : TT} {d : Nat} {F F' : Operand → S} {op : Op} {ty : TypeId} (hl : looks op = false) (hF : ∀ x ∈ op.operands.toList, F x = F' x) : kernel tt d o F op ty = kernel tt d o' F' op ty := by
  refine (kernel_local (o' := o) hF fun _ _ _ _ => ⟨rfl, fun _ _ => rfl⟩).trans ?_
  cases op <;> first
    | (cases hl; done)
    | rfl
    | (rename_i fn first caps; cases fn <;> rfl)
theorem kernelD_blind {o : Nat → O} {tt : TT} {dc : List (Nat × Nat)} {d : Nat} {F : Operand → S} {op : Op} {ty : TypeId} (hl : looks op = false) : kernelD tt dc d o F op ty = none := by
  cases op <;> first
    | (cases hl; done)
    | rfl
def footOf (T : Tab) (st : St) (o : Oper) : List Nat := (bif looks o.op then (o.op.operands.toList.flatMap fun x => (st.opnd x).names.flatMap fun g => g :: (st.o g).hn) else []) ++ renOf T st o
section
variable {T : Tab} {tt : TT} {st st' : St}
theorem effOf_local {d : Nat} {o : Oper} {K : Eff → Prop} (h : effOf T tt d st o K) (hx : ∀ x ∈ o.op.operands.toList, st.opnd x = st'.opnd x) (ho : ∀ g ∈ footOf T st o, st.o g = st'.o g) : effOf T tt d st' o K := by
  have hfo : looks o.op = true → ∀ x ∈ o.op.operands.toList, ∀ g ∈ (st.opnd x).names, Agree st.o st'.o g := fun hl x hm g hg => by
    have key : ∀ d ∈ g :: (st.o g).hn, st.o d = st'.o d := fun d hd => ho d (List.mem_append_left _ (by rw [hl]; exact List.mem_flatMap.2 ⟨x, hm, List.mem_flatMap.2 ⟨g, hg, hd⟩⟩))
    exact ⟨key g (by simp), fun d hd => key d (by simp [hd])⟩
  have hren : ∀ g ∈ renOf T st o, st.o g = st'.o g := fun g hg => ho g (List.mem_append_right _ hg)
  unfold effOf at *
  unfold renOf at hren
  split at h
  · rename_i f args ts hop
    rw [hop] at hx hfo hren
    have hfo := hfo rfl
    simp only at hren
    have hxf := hx f (by simp [Op.operands, Call.operands])
    have hxa : ∀ x ∈ args.toList, st.opnd x = st'.opnd x := fun x hm => hx x (by simp [Op.operands, Call.operands]; exact .inr (by simpa using hm))
    have hfa : ∀ x ∈ args.toList, ∀ g ∈ (st.opnd x).names, Agree st.o st'.o g := fun x hm => hfo x (by simp [Op.operands, Call.operands]; exact .inr (by simpa using hm))
    have hff := hfo f (by simp [Op.operands, Call.operands])
    rw [← hxf]
    split at h
    · rename_i fn caps hf
      rw [hf] at hff hren
      simp only at hren
      split at h
      · rename_i sp hsp
        rw [hsp] at hren
        simp only at hren
        have hmap : args.toList.map st'.opnd = args.toList.map st.opnd := List.map_congr_left fun x hm => (hxa x hm).symm
        rw [hmap]
        split at h
        · rename_i c hci
          rw [hci] at hren
          have hnm : ∀ x ∈ (args.toList.map st.opnd) ++ (caps.map fun x => S.v (.one x)), ∀ g ∈ x.names, Agree st.o st'.o g := by
            intro x hm g hg
            rcases List.mem_append.1 hm with hm | hm
            · obtain ⟨y, hy, rfl⟩ := List.mem_map.1 hm
              exact hfa y hy g hg
            · obtain ⟨y, hy, rfl⟩ := List.mem_map.1 hm
              refine hff g ?_
              obtain ⟨j, hj⟩ := List.mem_iff_getElem?.1 hy
              simp only [S.names, V.names]
              exact mem_names_clo hj (by simpa [S.names, V.names] using hg)
          have hci' := argsIn_local hci hnm fun p hp => hren p.2 (List.mem_map.2 ⟨p, hp, rfl⟩)
          have hbor : c.bor.map (freeze st.o) = c.bor.map (freeze st'.o) := freeze_local (argsIn_bor_sub hci hnm)
          simp only [hci']
          obtain ⟨q1, outs, same, q2, q4, q3⟩ := h
          have : callEff sp.sig d st'.o c outs = callEff sp.sig d st.o c outs := by simp only [callEff, hbor]
          refine ⟨q1, outs, same, q2, ?_, ?_⟩
          · rw [this]
            intro g hg
            obtain ⟨a1, a2⟩ := q4 g hg
            exact ⟨a1, by rw [a2, hren g a1]⟩
          · rw [this]; exact q3
        · cases h
      · cases h
    · cases h
  · rcases h with ⟨dc, r, h1, h2, h3⟩ | h
    · refine .inl ⟨dc, r, ?_, h2, h3⟩
      cases hl : looks o.op with
      | true => rw [← kernelD_local hx (hfo hl)]; exact h1
      | false => rw [kernelD_blind hl] at h1; cases h1
    · refine .inr ?_
      cases hl : looks o.op with
      | true => rw [← kernel_local hx (hfo hl)]; exact h
      | false => rw [← kernel_blind hl hx]; exact h
theorem Can_local {N : Nat} {ops : Array Oper} {o : Oper} {e : Eff} (hc : Can T tt N ops st o e) (hs : ∀ t ∈ o.looksAt ops, st.s t = st'.s t) (ho : ∀ g ∈ footOf T st o, st.o g = st'.o g) (hu : ∀ g ∈ e.new, st.used g = st'.used g) : Can T tt N ops st' o e := by
  have hx : ∀ x ∈ o.op.operands.toList, st.opnd x = st'.opnd x := by
    intro x hm
    cases x with
    | tmp t => exact hs t (List.mem_append_left _ (List.mem_filterMap.2 ⟨_, hm, rfl⟩))
    | _ => rfl
  have eff : (effOf T tt (o.dst.getD 0) st o fun e' => e'.new.all (fun g => !st.used g) = true ∧ e' = e) → (effOf T tt (o.dst.getD 0) st' o fun e' => e'.new.all (fun g => !st'.used g) = true ∧ e' = e) := by
    intro h
    refine effOf_mono (fun e' he => ?_) (effOf_local h hx ho)
    obtain ⟨h1, rfl⟩ := he
    refine ⟨?_, rfl⟩
    rw [List.all_eq_true] at h1 ⊢
    intro g hg
    rw [← hu g hg]; exact h1 g hg
  unfold Can stepW at *
  refine ⟨hc.1, ?_⟩
  have hc := hc.2
  cases hg : o.guard with
  | none => rw [hg] at hc; exact eff hc
  | some p =>
    obtain ⟨j, want⟩ := p
    rw [hg] at hc
    simp only at hc ⊢
    have : guardOf ops st j want = guardOf ops st' j want := by
      unfold guardOf
      cases hd : (ops[j]?).bind (·.dst) with
      | none => rfl
      | some t =>
        simp only
        rw [hs t (List.mem_append_right _ (by simp [hg, hd]))]
    rw [← this]
    split at hc
    · rename_i b hb
      cases b with
      | true => exact eff hc
      | false => exact hc
    · cases hc
end
def nilSl (o : Nat → O) : S → Option (Bool → Prop)
  | .v (.one (.p _ _ (.sl _ l))) => some fun b => l ≠ [] → b = false
  | .v (.one (.own g)) => match (o g).dim with
    | some (_, l) => some fun b => l ≠ 0 → b = false
    | none => none
  | .v (.one .nils) => some fun b => b = true
  | _ => none
def nilPt (o : Nat → O) : S → Option (Bool → Prop)
  | .v (.one (.box g _)) => match o g with
    | .box _ => some fun b => b = false
    | _ => none
  | .v (.one (.p _ _ (.opq (.pointer none)))) => some fun b => b = true
  | _ => none
def nilOf (o : Nat → O) (x : S) (k : TK) (c : Value) : Option (Bool → Prop) :=
  match k, c with
  | .slice _, .slice none 0 0 => nilSl o x
  | .ptr, .pointer none => nilPt o x
  | _, _ => none
def nilCmp (tt : TT) (st : St) (o : Oper) : Option (Bool × (Bool → Prop)) :=
  match o.guard with
  | some _ => none
  | none => match o.op with
    | .binOp op t x (.const c) _ => match tt t with
      | some i => match op, nilOf st.o (st.opnd x) i.k c with
        | .eql, some p => some (true, p)
        | .neq, some p => some (false, p)
        | _, _ => none
      | none => none
    | _ => none
def itHas (s n : P) : Bool := decide (n.nat < s.bytes.size)
def itRune (s n : P) : P := .int .i32 (Utf8.decode s.bytes n.nat).1
def itNext (s n : P) : P := natP (n.nat + (Utf8.decode s.bytes n.nat).2)
def nextOf (st : St) (o : Oper) : Option (Nat × P × P) :=
  match o.guard with
  | some _ => none
  | none => match o.op with
    | .next x true => match st.opnd x with
      | .v (.one (.itp g)) => match st.o g with
        | .it s n => some (g, s, n)
        | _ => none
      | _ => none
    | _ => none
def itEff (g : Nat) (s n : P) : Eff := { x := .tup [.one (.p false false (.bool true)), .one (.p false false (natP n.nat)), .one (.p false false (itRune s n))], upd := [(g, .it s (itNext s n))], new := [] }
def itEnd : Eff := { x := .tup [.one (.p false false (.bool false))], upd := [], new := [] }
def stepI (T : Tab) (tt : TT) (N : Nat) (ops : Array Oper) (o : Oper) (st : St) (K : Eff → Prop) : Prop :=
  match nilCmp tt st o with
  | some (pos, p) => (match o.dst with
    | some d => decide (d < N)
    | none => true) = true ∧ ∀ b : Bool, p b → K { x := scalar (.bool (bif pos then b else !b)), upd := [], new := [] }
  | none => match nextOf st o with
    | some (g, s, n) => (match o.dst with
      | some d => decide (d < N)
      | none => true) = true ∧ (itHas s n = true → K (itEff g s n)) ∧ (itHas s n = false → K itEnd)
    | none => stepW T tt N ops o st K
def runOps (T : Tab) (tt : TT) (N : Nat) (ops : Array Oper) : List Nat → St → (St → Prop) → Prop
  | [], st, K => K st
  | i :: is, st, K => match ops[i]? with
    | some o => stepI T tt N ops o st fun e => runOps T tt N ops is (st.eff o.dst e) K
    | none => False
structure Foot where
  rd : List Nat
  wr : List Nat
  new : List Nat
  ld : Option (Nat × Nat × Nat)
  kp : List (Nat × Nat)
  pk : Bool
  kd : List Nat
def sameH : W → W → Bool
  | .own g, .own g' => Nat.beq g g'
  | .box g off, .box g' off' => Nat.beq g g' && Nat.beq off off'
  | _, _ => false
def keepL (g : Nat) : Nat → List W → List W → Option (List (Nat × Nat))
  | _, [], [] => some []
  | j, x :: xs, y :: ys => match keepL g (j + 1) xs ys with
    | some r => some (match sameH x y with
      | true => (g, j) :: r
      | false => r)
    | none => none
  | _, _, _ => none
def keepO (g : Nat) : O → Option O → List (Nat × Nat)
  | .box ws, some (.box ws') => match keepL g 0 ws ws' with
    | some r => r
    | none => []
  | _, _ => []
def kpOf (st : St) (e : Eff) : List (Nat × Nat) := (e.upd.map (·.1)).flatMap fun g => keepO g (st.o g) (e.upd.lookup g)
def peekOp : Op → Bool
  | .nilCheck _ => true
  | .fieldAddr _ _ _ => true
  | _ => false
def kindOf : O → Nat
  | .box _ => 1
  | .arr _ _ _ _ _ => 2
  | .deep _ _ _ _ _ _ => 2
  | .it _ _ => 3
  | .none => 0
def kdOf (st : St) (e : Eff) : List Nat := (e.upd.map (·.1)).filterMap fun g => match e.upd.lookup g with
  | some x => bif Nat.beq (kindOf x) (kindOf (st.o g)) then some g else none
  | none => none
def ldOf (tt : TT) (st : St) (o : Oper) : Option (Nat × Nat × Nat) := match o.op with
  | .load t x => match tt t, st.opnd x with
    | some i, .v (.one (.box g off)) => some (g, off, i.size)
    | _, _ => none
  | _ => none
def runNote (T : Tab) (tt : TT) (N : Nat) (ops : Array Oper) : List Nat → St → List Foot → (St → List Foot → Prop) → Prop
  | [], st, fs, K => K st fs
  | i :: is, st, fs, K => match ops[i]? with
    | some o => stepW T tt N ops o st fun e => runNote T tt N ops is (st.eff o.dst e) (fs ++ [{ rd := footOf T st o, wr := e.upd.map (·.1), new := e.new, ld := ldOf tt st o, kp := kpOf st e, pk := peekOp o.op, kd := kdOf st e }]) K
    | none => False
def aheadOf (acc : List Nat) (o : Oper) : Nat := o.after.toList.foldl (fun s e => if Region.binds .any e = true then s ||| (2 ^ e.on) ||| acc.getD e.on 0 else s) 0
def aheads : List Oper → List Nat → List Nat
  | [], acc => acc
  | o :: os, acc => aheads os (acc ++ [aheadOf acc o])
def dstNot (x : Option Tmp) (ts : List Tmp) : Bool := match x with
  | some t => !ts.contains t
  | none => true
def softB (w r : Foot) : Bool := match r.ld with
  | some (g, off, n) => (List.range n).all fun j => w.kp.any fun p => Nat.beq p.1 g && Nat.beq p.2 (off + j)
  | none => r.pk && r.rd.all fun g => !w.wr.contains g || w.kd.contains g
def pairB (ops : Array Oper) (x y : Oper) (fx fy : Foot) : Bool :=
  dstNot x.dst (y.looksAt ops) && dstNot y.dst (x.looksAt ops) && dstNot x.dst y.dst.toList && (disj fx.wr fy.rd || softB fx fy) && (disj fy.wr fx.rd || softB fy fx) && disj fx.wr fy.wr && disj fx.new fy.new
def freeB (ops : Array Oper) (fs : List Foot) : Bool :=
  let as := aheads ops.toList []
  (List.range ops.size).all fun j => decide (as.getD j 0 < 2 ^ j) && (List.range j).all fun i => (as.getD j 0).testBit i || match ops[i]?, ops[j]?, fs[i]?, fs[j]? with
    | some x, some y, some fx, some fy => pairB ops x y fx fy
    | _, _, _, _ => false
def regionW (T : Tab) (tt : TT) (N : Nat) (ops : Array Oper) (draw : Bool) (st : St) (K : St → Prop) : Prop :=
  match draw with
  | false => runOps T tt N ops (List.range ops.size) st K
  | true => runNote T tt N ops (List.range ops.size) st [] fun st' fs => freeB ops fs = true ∧ K st'
end Go.Fw
namespace Go.Fw
set_option linter.unusedSectionVars false
variable [Globs]
set_option linter.unusedVariables false
theorem eff_s (st : St) (dst : Option Tmp) (e : Eff) (t : Nat) : (st.eff dst e).s t = if dst = some t then e.x else st.s t := by
  cases dst with
  | none => simp [St.eff, St.put, St.upd]
  | some d =>
    simp only [St.eff, St.put, St.upd, Option.some.injEq]
    by_cases h : t = d
    · subst h; simp
    · have h1 : Nat.beq t d = false := by cases hb : Nat.beq t d with | false => rfl | true => exact absurd (Nat.eq_of_beq_eq_true hb) h
      rw [h1, if_neg (fun e => h e.symm)]; rfl
theorem eff_o (st : St) (dst : Option Tmp) (e : Eff) (g : Nat) : (st.eff dst e).o g = match e.upd.lookup g with | some x => x | none => st.o g := by
  cases dst <;> rfl
theorem eff_used (st : St) (dst : Option Tmp) (e : Eff) (g : Nat) : (st.eff dst e).used g = (e.new.contains g || st.used g) := by
  cases dst <;> rfl
theorem lookup_none_of {α : Type} {g : Nat} : ∀ {l : List (Nat × α)}, g ∉ l.map (·.1) → l.lookup g = none
  | [], _ => rfl
  | (k, v) :: l, h => by
    simp only [List.map_cons, List.mem_cons, not_or] at h
    have : (g == k) = false := by simpa using h.1
    simp only [List.lookup, this]
    exact lookup_none_of h.2
theorem St.ext' {a b : St} (h1 : ∀ t, a.s t = b.s t) (h2 : ∀ g, a.o g = b.o g) (h3 : ∀ g, a.used g = b.used g) : a = b := by
  obtain ⟨s, o, u⟩ := a
  obtain ⟨s', o', u'⟩ := b
  simp only at h1 h2 h3
  rw [funext h1, funext h2, funext h3]
section
variable {ops : Array Oper} {es es' : Nat → Eff} {st : St} {D D' : Nat → Bool}
def SD (ops : Array Oper) (es : Nat → Eff) (st : St) (D : Nat → Bool) : Nat → St
  | 0 => st
  | k + 1 => if D k = true then (SD ops es st D k).eff ((ops[k]?).bind (·.dst)) (es k) else SD ops es st D k
theorem SD_congr : ∀ {n : Nat}, (∀ k < n, es k = es' k) → SD ops es st D n = SD ops es' st D n
  | 0, _ => rfl
  | n + 1, h => by simp only [SD]; rw [SD_congr fun k hk => h k (by omega), h n (by omega)]
theorem SD_congrD : ∀ {n : Nat}, (∀ k < n, D k = D' k) → SD ops es st D n = SD ops es st D' n
  | 0, _ => rfl
  | n + 1, h => by simp only [SD]; rw [SD_congrD fun k hk => h k (by omega), h n (by omega)]
theorem SD_s {t : Nat} : ∀ {n : Nat}, (∀ k < n, D k ≠ D' k → (ops[k]?).bind (·.dst) ≠ some t) → (SD ops es st D n).s t = (SD ops es st D' n).s t
  | 0, _ => rfl
  | n + 1, h => by
    have ih := SD_s (n := n) fun k hk => h k (by omega)
    have hn := h n (by omega)
    simp only [SD]
    cases h1 : D n <;> cases h2 : D' n
    · simpa using ih
    · have := hn (by rw [h1, h2]; simp)
      simp only [if_true, eff_s, if_neg this]; simpa using ih
    · have := hn (by rw [h1, h2]; simp)
      simp only [if_true, eff_s, if_neg this]; simpa using ih
    · simp only [if_true, eff_s, ih]
theorem SD_o {g : Nat} : ∀ {n : Nat}, (∀ k < n, D k ≠ D' k → g ∉ (es k).upd.map (·.1)) → (SD ops es st D n).o g = (SD ops es st D' n).o g
  | 0, _ => rfl
  | n + 1, h => by
    have ih := SD_o (n := n) fun k hk => h k (by omega)
    have hn := h n (by omega)
    simp only [SD]
    cases h1 : D n <;> cases h2 : D' n
    · simpa using ih
    · have := lookup_none_of (hn (by rw [h1, h2]; simp))
      simp only [if_true, eff_o, this]; simpa using ih
    · have := lookup_none_of (hn (by rw [h1, h2]; simp))
      simp only [if_true, eff_o, this]; simpa using ih
    · simp only [if_true, eff_o, ih]
theorem SD_used {g : Nat} : ∀ {n : Nat}, (∀ k < n, D k ≠ D' k → g ∉ (es k).new) → (SD ops es st D n).used g = (SD ops es st D' n).used g
  | 0, _ => rfl
  | n + 1, h => by
    have ih := SD_used (n := n) fun k hk => h k (by omega)
    have hn := h n (by omega)
    simp only [SD]
    cases h1 : D n <;> cases h2 : D' n
    · simpa using ih
    · have := hn (by rw [h1, h2]; simp)
      have : (es n).new.contains g = false := by simpa using this
      simp only [if_true, eff_used, this, Bool.false_or]; simpa using ih
    · have := hn (by rw [h1, h2]; simp)
      have : (es n).new.contains g = false := by simpa using this
      simp only [if_true, eff_used, this, Bool.false_or]; simpa using ih
    · simp only [if_true, eff_used, ih]
theorem SD_last_s {t i : Nat} (hi : D i = true) (hd : (ops[i]?).bind (·.dst) = some t) : ∀ {n : Nat}, i < n → (∀ k, i < k → k < n → D k = true → (ops[k]?).bind (·.dst) ≠ some t) → (SD ops es st D n).s t = (es i).x
  | 0, h, _ => by omega
  | n + 1, hin, h => by
    simp only [SD]
    by_cases e : n = i
    · subst e; simp [hi, eff_s, hd]
    · have ih := SD_last_s hi hd (n := n) (by omega) fun k h1 h2 => h k h1 (by omega)
      cases hn : D n with
      | false => simpa using ih
      | true =>
        have := h n (by omega) (by omega) hn
        simp only [if_true, eff_s, if_neg this, ih]
theorem SD_last_o {g i : Nat} {x : O} (hi : D i = true) (hd : (es i).upd.lookup g = some x) : ∀ {n : Nat}, i < n → (∀ k, i < k → k < n → D k = true → g ∉ (es k).upd.map (·.1)) → (SD ops es st D n).o g = x
  | 0, h, _ => by omega
  | n + 1, hin, h => by
    simp only [SD]
    by_cases e : n = i
    · subst e; simp [hi, eff_o, hd]
    · have ih := SD_last_o hi hd (n := n) (by omega) fun k h1 h2 => h k h1 (by omega)
      cases hn : D n with
      | false => simpa using ih
      | true =>
        have := lookup_none_of (h n (by omega) (by omega) hn)
        simp only [if_true, eff_o, this, ih]
theorem SD_has_used {g i : Nat} (hi : D i = true) (hd : g ∈ (es i).new) : ∀ {n : Nat}, i < n → (SD ops es st D n).used g = true
  | 0, h => by omega
  | n + 1, hin => by
    simp only [SD]
    by_cases e : n = i
    · subst e; simp [hi, eff_used, hd]
    · have ih := SD_has_used hi hd (n := n) (by omega)
      cases hn : D n with
      | false => simpa using ih
      | true => simp only [if_true, eff_used, ih, Bool.or_true]
structure Apart (ops : Array Oper) (x y : Oper) (fx fy : Foot) : Prop where
  dy : ∀ t, x.dst = some t → t ∉ y.looksAt ops
  dx : ∀ t, y.dst = some t → t ∉ x.looksAt ops
  dd : ∀ t, x.dst = some t → y.dst ≠ some t
  wr : (∀ g ∈ fx.wr, g ∉ fy.rd) ∨ softB fx fy = true
  rw : (∀ g ∈ fy.wr, g ∉ fx.rd) ∨ softB fy fx = true
  ww : ∀ g ∈ fx.wr, g ∉ fy.wr
  nn : ∀ g ∈ fx.new, g ∉ fy.new
theorem dstNot_spec {x : Option Tmp} {ts : List Tmp} (h : dstNot x ts = true) : ∀ t, x = some t → t ∉ ts := by
  intro t e
  subst e
  simpa [dstNot] using h
theorem disj_spec {xs ys : List Nat} (h : disj xs ys = true) : ∀ x ∈ xs, x ∉ ys := by
  intro x hx
  have := (List.all_eq_true.1 h) x hx
  simpa using this
theorem pairB_spec {x y : Oper} {fx fy : Foot} (h : pairB ops x y fx fy = true) : Apart ops x y fx fy := by
  simp only [pairB, Bool.and_eq_true, Bool.or_eq_true] at h
  obtain ⟨⟨⟨⟨⟨⟨h1, h2⟩, h3⟩, h4⟩, h5⟩, h6⟩, h7⟩ := h
  exact ⟨dstNot_spec h1, dstNot_spec h2, fun t e e' => dstNot_spec h3 t e (by simp [e']), h4.imp disj_spec id, h5.imp disj_spec id, disj_spec h6, disj_spec h7⟩
theorem ahead_bit {acc : List Nat} {i : Nat} : ∀ {l : List Edge} {s : Nat}, (l.foldl (fun s e => if Region.binds .any e = true then s ||| (2 ^ e.on) ||| acc.getD e.on 0 else s) s).testBit i = true ↔
    s.testBit i = true ∨ ∃ e ∈ l, Region.binds .any e = true ∧ (e.on = i ∨ (acc.getD e.on 0).testBit i = true)
  | [], s => by simp
  | e :: l, s => by
    simp only [List.foldl_cons]
    rw [ahead_bit]
    by_cases hb : Region.binds .any e = true
    · simp only [hb, if_true, Nat.testBit_or, Bool.or_eq_true, Nat.testBit_two_pow, decide_eq_true_eq, List.mem_cons]
      constructor
      · rintro (((h | h) | h) | ⟨e', h1, h2⟩)
        · exact .inl h
        · exact .inr ⟨e, .inl rfl, hb, .inl h⟩
        · exact .inr ⟨e, .inl rfl, hb, .inr h⟩
        · exact .inr ⟨e', .inr h1, h2⟩
      · rintro (h | ⟨e', h1 | h1, h2, h3 | h3⟩)
        · exact .inl (.inl (.inl h))
        · subst h1; exact .inl (.inl (.inr h3))
        · subst h1; exact .inl (.inr h3)
        · exact .inr ⟨e', h1, h2, .inl h3⟩
        · exact .inr ⟨e', h1, h2, .inr h3⟩
    · simp only [hb, List.mem_cons]
      constructor
      · rintro (h | ⟨e', h1, h2⟩)
        · exact .inl (by simpa using h)
        · exact .inr ⟨e', .inr h1, h2⟩
      · rintro (h | ⟨e', h1 | h1, h2, h3⟩)
        · exact .inl (by simpa using h)
        · subst h1; exact absurd h2 hb
        · exact .inr ⟨e', h1, h2, h3⟩
theorem aheads_pre : ∀ {os : List Oper} {acc : List Nat}, ∃ t, aheads os acc = acc ++ t
  | [], acc => ⟨[], by simp [aheads]⟩
  | o :: os, acc => by
    obtain ⟨t, h⟩ := aheads_pre (os := os) (acc := acc ++ [aheadOf acc o])
    exact ⟨aheadOf acc o :: t, by simp [aheads, h]⟩
theorem aheads_get : ∀ {os : List Oper} {acc : List Nat} {j : Nat} {o : Oper}, os[j]? = some o → ∃ acc', (∃ t, aheads os acc = acc' ++ aheadOf acc' o :: t) ∧ acc'.length = acc.length + j
  | [], acc, j, o, h => by simp at h
  | o' :: os, acc, 0, o, h => by
    simp only [List.getElem?_cons_zero, Option.some.injEq] at h
    subst h
    obtain ⟨t, h⟩ := aheads_pre (os := os) (acc := acc ++ [aheadOf acc o'])
    exact ⟨acc, ⟨t, by simp [aheads, h]⟩, rfl⟩
  | o' :: os, acc, j + 1, o, h => by
    simp only [List.getElem?_cons_succ] at h
    obtain ⟨acc', h1, h2⟩ := aheads_get (acc := acc ++ [aheadOf acc o']) h
    exact ⟨acc', h1, by simp at h2; omega⟩
def Down (ops : Array Oper) (D : Nat → Bool) : Prop := ∀ (j : Nat) o, ops[j]? = some o → D j = true → ∀ e ∈ o.after, Region.binds .any e = true → D e.on = true
theorem aheads_bit {j : Nat} {o : Oper} (ho : ops[j]? = some o) {i : Nat} : ((aheads ops.toList []).getD j 0).testBit i = true ↔
    ∃ e ∈ o.after, Region.binds .any e = true ∧ (e.on = i ∨ (e.on < j ∧ ((aheads ops.toList []).getD e.on 0).testBit i = true)) := by
  have hl : ops.toList[j]? = some o := by simpa using ho
  obtain ⟨acc, ⟨t, h1⟩, h2⟩ := aheads_get (acc := []) hl
  simp only [List.length_nil, Nat.zero_add] at h2
  rw [h1]
  have e1 : (acc ++ aheadOf acc o :: t).getD j 0 = aheadOf acc o := by
    rw [List.getD_eq_getElem?_getD, List.getElem?_append_right (by omega), h2]; simp
  have e2 : ∀ k, (acc ++ aheadOf acc o :: t).getD k 0 = if k < j then acc.getD k 0 else (acc ++ aheadOf acc o :: t).getD k 0 := by
    intro k
    split
    · rename_i hk
      rw [List.getD_eq_getElem?_getD, List.getElem?_append_left (by omega), ← List.getD_eq_getElem?_getD]
    · rfl
  rw [e1]
  unfold aheadOf
  rw [ahead_bit]
  simp only [Nat.zero_testBit, Bool.false_eq_true, false_or, Array.mem_toList_iff]
  constructor
  · rintro ⟨e, q1, q2, q3⟩
    refine ⟨e, q1, q2, q3.imp id fun q => ?_⟩
    by_cases hk : e.on < j
    · refine ⟨hk, ?_⟩
      have := e2 e.on
      rw [if_pos hk] at this
      unfold aheadOf at this
      rw [this]; exact q
    · have : acc.getD e.on 0 = 0 := by rw [List.getD_eq_getElem?_getD, List.getElem?_eq_none (by omega)]; rfl
      rw [this] at q; simp at q
  · rintro ⟨e, q1, q2, q3⟩
    refine ⟨e, q1, q2, q3.imp id fun ⟨hk, q⟩ => ?_⟩
    have := e2 e.on
    rw [if_pos hk] at this
    unfold aheadOf at this
    rw [this] at q; exact q
theorem aheads_down (hD : Down ops D) : ∀ (j : Nat) {o : Oper}, ops[j]? = some o → D j = true → ∀ i, ((aheads ops.toList []).getD j 0).testBit i = true → D i = true := by
  intro j
  induction j using Nat.strongRecOn with
  | _ j ih =>
    intro o ho hj i hb
    obtain ⟨e, h1, h2, h3 | ⟨h3, h4⟩⟩ := (aheads_bit ho).1 hb
    · rw [← h3]; exact hD j o ho hj e h1 h2
    · have hlt : j < ops.size := (Array.getElem?_eq_some_iff.1 ho).1
      have hlt' : e.on < ops.size := by omega
      exact ih e.on h3 (Array.getElem?_eq_getElem hlt') (hD j o ho hj e h1 h2) i h4
theorem ahead_lt {j : Nat} {o : Oper} (ho : ops[j]? = some o) (h : (aheads ops.toList []).getD j 0 < 2 ^ j) {e : Edge} (he : e ∈ o.after) (hb : Region.binds .any e = true) : e.on < j := by
  have := (aheads_bit ho (i := e.on)).2 ⟨e, he, hb, .inl rfl⟩
  by_cases hk : e.on < j
  · exact hk
  · rw [Nat.testBit_lt_two_pow (Nat.lt_of_lt_of_le h (Nat.pow_le_pow_right (by omega) (by omega)))] at this; cases this
end
section
variable {E : Env} {N : Nat} {ios : List Nat} {gh0 : Nat → Gh} {st : St} {a : Act} {w : World} {Pg : Program} {T : Tab} {tt : TT} {ops : Array Oper} {Q : Exit → Act → World → Prop}
theorem nilOf_sound {gh : Nat → Gh} (h : Rel E st gh (fun t => a.tmps.getD t undef) w) {x : S} {v : Value} (hx : RepS E st gh w x v) {i : TI} {t : TypeId} (ht : TyOk Pg t i) {c : Value} {p : Bool → Prop} (hp : nilOf st.o x i.k c = some p) :
    ∃ b, (Op.equal t v c).run Pg w = .ok b w ∧ p b := by
  unfold nilOf at hp
  split at hp
  · rename_i e hk
    have hu := ht.kind
    rw [hk] at hu
    have hu : Pg.underlying t = some (.slice e) := hu
    have eqs : ∀ ao n cap, (Op.equal t (.slice ao n cap) (.slice none 0 0)).run Pg w = .ok ao.isNone w := by
      intro ao n cap
      unfold Op.equal Op.maxDepth
      show (Op.equalIn (9999 + 1) t _ _).run Pg w = _
      unfold Op.equalIn
      cases ao <;> simp [run_und hu]
    unfold nilSl at hp
    split at hp
    · simp only [Option.some.injEq] at hp; subst hp
      have r := hx.p_inv
      generalize hl : (P.sl _ _) = y at r
      cases r with
      | nil sz ao cap => cases hl; exact ⟨_, eqs _ _ _, fun h => absurd rfl h⟩
      | sl sz l ad cap f _ _ _ _ _ _ => cases hl; exact ⟨_, eqs _ _ _, fun _ => rfl⟩
      | _ => cases hl
    · rename_i g
      split at hp
      · rename_i sz l ho
        simp only [Option.some.injEq] at hp; subst hp
        cases hx.one_inv with
        | own _ _ _ hb =>
          rw [hb _ _ ho]
          refine ⟨_, eqs _ _ _, fun hl => ?_⟩
          obtain ⟨ad, had, _⟩ := (dim_cap (h.objs g) ho).2 (by omega)
          rw [had]; rfl
      · cases hp
    · simp only [Option.some.injEq] at hp; subst hp
      cases hx.one_inv
      exact ⟨_, eqs _ _ _, rfl⟩
    · cases hp
  · rename_i hk
    have hu := ht.kind
    rw [hk] at hu
    obtain ⟨e, hu⟩ := (hu : ∃ e, Pg.underlying t = some (.pointer e))
    have eqp : ∀ ao, (Op.equal t (.pointer ao) (.pointer none)).run Pg w = .ok ao.isNone w := by
      intro ao
      unfold Op.equal Op.maxDepth
      show (Op.equalIn (9999 + 1) t _ _).run Pg w = _
      unfold Op.equalIn
      cases ao <;> simp [run_und hu]
    unfold nilPt at hp
    split at hp
    · rename_i g off
      split at hp
      · rename_i ws ho
        simp only [Option.some.injEq] at hp; subst hp
        cases hx.one_inv with
        | box _ _ _ _ hb =>
          obtain ⟨ad, _, rfl⟩ := hb ws ho
          exact ⟨_, eqp _, rfl⟩
      · cases hp
    · simp only [Option.some.injEq] at hp; subst hp
      cases hx.p_inv with
      | opq _ _ => exact ⟨_, eqp _, rfl⟩
    · cases hp
  · cases hp
theorem stepI_sound (hT : ∀ f sp, T f = some sp → Sound Pg f sp) (htt : TTok Pg tt) {i : Nat} {o : Oper} (hi : ops[i]? = some o) (hg : Good E N ios gh0 st a w) {K' : Eff → Prop} (h : stepI T tt N ops o st K')
    {K : Act → World → Prop} (hK : ∀ e a' w', K' e → Good E N ios gh0 (st.eff o.dst e) a' w' → K a' w') : wpOp Pg ops Q i K a w := by
  unfold stepI at h
  split at h
  · rename_i pos p hn
    obtain ⟨hd, h⟩ := h
    have hd : ∀ d, o.dst = some d → d < a.tmps.size := by
      intro d e
      rw [e] at hd
      rw [hg.size]; simpa using hd
    unfold nilCmp at hn
    split at hn
    · cases hn
    · rename_i hgd
      split at hn
      · rename_i op t x c u hop
        split at hn
        · rename_i ti ht
          obtain ⟨gh, hR, hio⟩ := hg.ex
          have hx := opnd_rep hR x
          have key : ∀ p', nilOf st.o (st.opnd x) ti.k c = some p' → ∃ b, (Op.equal t (a.eval x) c).run Pg w = .ok b w ∧ p' b := fun p' hp => nilOf_sound hR hx (htt _ _ ht) hp
          have fin : ∀ b, (execOp a.eval o).run Pg w = .ok (.value (.bool (bif pos then b else !b))) w → p b → wpOp Pg ops Q i K a w := by
            intro b hrun hb
            unfold wpOp
            rw [hi]
            simp only
            have : Region.wanted o (yielded ops a.tmps) = true := by simp [Region.wanted, hgd]
            rw [if_pos this]
            left
            show o.upon Pg a K Q ((execOp a.eval o).run Pg w)
            rw [hrun]
            refine hK _ _ _ (h b hb) ⟨⟨gh, ?_, fun g hg' => ?_⟩, by rw [put_size]; exact hg.size, hg.defers.put _ _⟩
            · rw [vals_put _ _ hd]
              unfold St.eff
              simp only [upd_nil]
              exact hR.put o.dst (RepS.ofP (.bool _)) (by simp [scalar, S.names, V.names, W.names])
            · have ho : (st.eff o.dst { x := scalar (.bool (bif pos then b else !b)), upd := [], new := [] }).o g = st.o g := by unfold St.eff St.put; cases o.dst <;> simp [St.upd]
              have hu : (st.eff o.dst { x := scalar (.bool (bif pos then b else !b)), upd := [], new := [] }).used g = st.used g := by unfold St.eff St.put; cases o.dst <;> simp [St.upd]
              rw [ho, hu]; exact hio g hg'
          have hcv : ∀ b, (Op.equal t (a.eval x) c).run Pg w = .ok b w → (c = .slice none 0 0 ∨ c = .pointer none) ∧ True → (eqGuard op t x (.const c) (a.eval x) c).run Pg w = .ok () w := by
            intro b _ hc
            unfold eqGuard
            rcases hc.1 with rfl | rfl
            · cases op <;> first | rfl | (simp only; split <;> first | rfl | simp_all)
            · cases op <;> first | rfl | (simp only; split <;> first | rfl | simp_all)
          have hcc : ∀ p', nilOf st.o (st.opnd x) ti.k c = some p' → c = .slice none 0 0 ∨ c = .pointer none := by
            intro p' hp
            unfold nilOf at hp
            split at hp
            · exact .inl rfl
            · exact .inr rfl
            · cases hp
          split at hn
          · rename_i p' hp
            simp only [Option.some.injEq, Prod.mk.injEq] at hn
            obtain ⟨rfl, rfl⟩ := hn
            obtain ⟨b, hb1, hb2⟩ := key _ hp
            refine fin b ?_ hb2
            have hge := hcv b hb1 ⟨hcc _ hp, trivial⟩
            unfold execOp
            rw [hop]
            refine run_v ?_
            show (eqGuard _ t x (.const c) (a.eval x) c >>= fun _ => binOp _ t (a.eval x) c).run Pg w = _
            rw [Sem.run_bind, hge]
            rcases hcc _ hp with rfl | rfl <;> simp [binOp, hb1]
          · rename_i p' hp
            simp only [Option.some.injEq, Prod.mk.injEq] at hn
            obtain ⟨rfl, rfl⟩ := hn
            obtain ⟨b, hb1, hb2⟩ := key _ hp
            refine fin b ?_ hb2
            have hge := hcv b hb1 ⟨hcc _ hp, trivial⟩
            unfold execOp
            rw [hop]
            refine run_v ?_
            show (eqGuard _ t x (.const c) (a.eval x) c >>= fun _ => binOp _ t (a.eval x) c).run Pg w = _
            rw [Sem.run_bind, hge]
            rcases hcc _ hp with rfl | rfl <;> simp [binOp, hb1]
          · cases hn
        · cases hn
      · cases hn
  · split at h
    · rename_i g s n hn
      obtain ⟨hd, h1, h2⟩ := h
      have hd : ∀ d, o.dst = some d → d < a.tmps.size := by
        intro d e
        rw [e] at hd
        rw [hg.size]; simpa using hd
      unfold nextOf at hn
      split at hn
      · cases hn
      · rename_i hgd
        split at hn
        · rename_i x hop
          split at hn
          · rename_i g' hx
            split at hn
            · rename_i s' n' hog
              simp only [Option.some.injEq, Prod.mk.injEq] at hn
              obtain ⟨rfl, rfl, rfl⟩ := hn
              obtain ⟨gh, hR, hio⟩ := hg.ex
              have hrx := opnd_rep hR x
              rw [hx] at hrx
              obtain ⟨ad, had, hv⟩ : ∃ ad, (gh g').ad = some ad ∧ a.eval x = .pointer (some ⟨ad.block, 0, none⟩) := by
                have := hrx.one_inv
                generalize a.eval x = z at this
                cases this with | itp _ _ _ hb => exact hb _ _ hog
              have hO := hR.objs g'
              rw [hog] at hO
              obtain ⟨ad', bs, k, q1, rfl, rfl, q4⟩ := hO
              rw [had] at q1; cases q1
              have hlt : ad.block < w.heap.size := (hR.wr g' ad.block (by rw [hog]; rfl) (Gh.has_ad had)).2
              have hkn : (P.int .i64 (k : Int)).nat = k := by simp [P.nat, P.num]
              have hget : (getObj ad.block).run Pg w = .ok (.stringIter bs k) w := by simp [getObj, Sem.run, q4]
              have fin : ∀ (v : Value) (w' : World) (e : Eff), (∀ b, b ≠ ad.block → w'.heap[b]? = w.heap[b]?) → (Instr.next (a.eval x) true o.type).run Pg w = .ok v w' → K' e → Rel E (st.upd e.upd e.new) gh (fun t => a.tmps.getD t undef) w' → RepS E (st.upd e.upd e.new) gh w' e.x v → (∀ g ∈ e.x.names, (st.upd e.upd e.new).used g = true) →
                  (∀ g, st.used g = true → (st.upd e.upd e.new).used g = true) → (∀ g, ((st.upd e.upd e.new).o g = .none ∨ True) ∧ (st.o g = .none → (st.upd e.upd e.new).o g = .none)) → wpOp Pg ops Q i K a w := by
                intro v w' e hmm hrun hke hR' hx' hn' hu' ho'
                unfold wpOp
                rw [hi]
                simp only
                have : Region.wanted o (yielded ops a.tmps) = true := by simp [Region.wanted, hgd]
                rw [if_pos this]
                left
                show o.upon Pg a K Q ((execOp a.eval o).run Pg w)
                have : (execOp a.eval o).run Pg w = .ok (.value v) w' := by
                  unfold execOp
                  rw [hop]
                  exact run_v hrun
                rw [this]
                refine hK e _ _ hke ⟨⟨gh, ?_, fun g hg' => ?_⟩, by rw [put_size]; exact hg.size, hg.defers.same (fun D _ h3 => hmm D fun e' => by rw [e', q4] at h3; cases h3) _ _⟩
                · rw [vals_put _ _ hd]
                  exact hR'.put o.dst hx' hn'
                · obtain ⟨p1, p2⟩ := hio g hg'
                  have ho2 : (st.eff o.dst e).o g = (st.upd e.upd e.new).o g := by unfold St.eff St.put; cases o.dst <;> rfl
                  have hu2 : (st.eff o.dst e).used g = (st.upd e.upd e.new).used g := by unfold St.eff St.put; cases o.dst <;> rfl
                  refine ⟨by rw [hu2]; exact hu' g p1, ?_⟩
                  rw [ho2]
                  rcases p2 with p2 | p2
                  · exact .inl ((ho' g).2 p2)
                  · exact .inr p2
              cases hb : itHas (.str bs) (.int .i64 k) with
              | true =>
                have hkb : k < bs.size := by
                  have := of_decide_eq_true hb
                  rw [hkn] at this; exact this
                have hrun : (Instr.next (a.eval x) true o.type).run Pg w = .ok (.tuple #[.bool true, .int .i64 k, .int .i32 (Utf8.decode bs k).1]) { w with heap := w.heap.setIfInBounds ad.block (.stringIter bs (k + (Utf8.decode bs k).2)) } := by
                  rw [hv]
                  simp only [Instr.next, Sem.run_bind, hget, Result.andThen_ok]
                  rw [if_pos hkb]
                  have hset : (setObj ad.block (.stringIter bs (k + (Utf8.decode bs k).2))).run Pg w = .ok () { w with heap := w.heap.setIfInBounds ad.block (.stringIter bs (k + (Utf8.decode bs k).2)) } := by
                    simp [setObj, Sem.run, q4]
                  simp only [Sem.run_bind, hset, Result.andThen_ok, Sem.run_pure]
                  rfl
                obtain ⟨w1, w2⟩ := hR.write g' ad (by rw [hog]; rfl) had (.it (.str bs) (itNext (.str bs) (.int .i64 k))) (by rw [hog]; trivial) { w with heap := w.heap.setIfInBounds ad.block (.stringIter bs (k + (Utf8.decode bs k).2)) }
                  (fun b hb => by simp [Array.getElem?_setIfInBounds, Ne.symm hb]) (by simp) rfl rfl rfl rfl (fun _ e => by cases e) (fun _ => by rw [hog]; rfl)
                  (fun _ => ⟨ad, bs, k + (Utf8.decode bs k).2, had, rfl, by simp only [itNext, natP, hkn]; rfl, by simp [hlt]⟩) (fun g hg => by simp [O.names] at hg)
                have hold : ∀ g, g ≠ g' → (st.upd (itEff g' (.str bs) (.int .i64 k)).upd (itEff g' (.str bs) (.int .i64 k)).new).o g = st.o g := by
                  intro g hne
                  have : (g == g') = false := by simpa using hne
                  simp [itEff, St.upd, List.lookup, this]
                refine fin _ _ (itEff g' (.str bs) (.int .i64 k)) (fun b hb => by simp [Array.getElem?_setIfInBounds, Ne.symm hb]) hrun (h1 hb) w1 ?_ ?_ ?_ ?_
                · refine .tup _ _ rfl fun j x v hx hv => ?_
                  match j, hx, hv with
                  | 0, hx, hv => cases hx; cases hv; exact .one _ _ (.p _ _ _ _ (.bool _))
                  | 1, hx, hv => cases hx; cases hv; exact .one _ _ (.p _ _ _ _ (by rw [hkn]; exact .int _ _))
                  | 2, hx, hv => cases hx; cases hv; exact .one _ _ (.p _ _ _ _ (by simp only [itRune, hkn]; exact .int _ _))
                  | j + 3, hx, _ => cases hx
                · intro g hg'
                  simp [itEff, S.names, V.names, W.names] at hg'
                · intro g hg'; simp [St.upd, hg']
                · intro g
                  refine ⟨.inr trivial, fun h0 => ?_⟩
                  by_cases e : g = g'
                  · subst e; rw [hog] at h0; cases h0
                  · rw [hold g e]; exact h0
              | false =>
                have hkb : ¬ k < bs.size := by
                  have := of_decide_eq_false hb
                  rw [hkn] at this; exact this
                have hrun : (Instr.next (a.eval x) true o.type).run Pg w = .ok (.tuple #[.bool false]) w := by
                  rw [hv]
                  simp only [Instr.next, Sem.run_bind, hget, Result.andThen_ok]
                  rw [if_neg hkb]; rfl
                refine fin _ _ itEnd (fun _ _ => rfl) hrun (h2 hb) (by rw [show itEnd.upd = [] from rfl, show itEnd.new = [] from rfl, upd_nil]; exact hR) ?_ ?_ ?_ ?_
                · refine .tup _ _ rfl fun j x v hx hv => ?_
                  match j, hx, hv with
                  | 0, hx, hv => cases hx; cases hv; exact .one _ _ (.p _ _ _ _ (.bool _))
                  | j + 1, hx, _ => cases hx
                · intro g hg'
                  simp [itEnd, S.names, V.names, W.names] at hg'
                · intro g hg'; simp [St.upd, hg']
                · intro g; exact ⟨.inr trivial, fun h0 => by simpa [itEnd, St.upd] using h0⟩
            · cases hn
          · cases hn
        · cases hn
    · obtain ⟨e, hc, h⟩ := step_can h
      exact step_sound hT htt hi hg hc fun a' w' hg' => hK e a' w' h hg'
theorem runOps_sound (hT : ∀ f sp, T f = some sp → Sound Pg f sp) (htt : TTok Pg tt) {K : St → Prop} (hK : ∀ st' a' w', K st' → Good E N ios gh0 st' a' w' → Q .normal a' w') :
    ∀ (is : List Nat) {st : St} {a : Act} {w : World}, runOps T tt N ops is st K → Good E N ios gh0 st a w → wpOps Pg ops Q is a w
  | [], st, a, w, h, hg => hK st a w h hg
  | i :: is, st, a, w, h, hg => by
    simp only [runOps] at h
    split at h
    · rename_i o ho
      rw [wpOps_cons]
      exact stepI_sound hT htt ho hg h fun e a' w' h hg' => runOps_sound hT htt hK is h hg'
    · cases h
theorem runNote_run {K : St → List Foot → Prop} : ∀ (m k : Nat) (es : Nat → Eff) (fs : List Foot), fs.length = k → runNote T tt N ops (List.range' k m) (SD ops es st (fun _ => true) k) fs K →
    ∃ (es' : Nat → Eff) (fs' : List Foot), (∀ i < k, es' i = es i) ∧ (∀ i < k, fs'[i]? = fs[i]?) ∧ K (SD ops es' st (fun _ => true) (k + m)) fs' ∧
      ∀ i, k ≤ i → i < k + m → ∃ o, ops[i]? = some o ∧ Can T tt N ops (SD ops es' st (fun _ => true) i) o (es' i) ∧ fs'[i]? = some { rd := footOf T (SD ops es' st (fun _ => true) i) o, wr := (es' i).upd.map (·.1), new := (es' i).new, ld := ldOf tt (SD ops es' st (fun _ => true) i) o, kp := kpOf (SD ops es' st (fun _ => true) i) (es' i), pk := peekOp o.op, kd := kdOf (SD ops es' st (fun _ => true) i) (es' i) }
  | 0, k, es, fs, hl, h => ⟨es, fs, fun _ _ => rfl, fun _ _ => rfl, h, fun i h1 h2 => by omega⟩
  | m + 1, k, es, fs, hl, h => by
    simp only [List.range'_succ, runNote] at h
    split at h
    · rename_i o ho
      obtain ⟨e, hc, h⟩ := step_can h
      let es1 : Nat → Eff := fun i => if i = k then e else es i
      have e1 : SD ops es1 st (fun _ => true) k = SD ops es st (fun _ => true) k := SD_congr fun i hi => by simp only [es1]; rw [if_neg (by omega)]
      have e2 : SD ops es1 st (fun _ => true) (k + 1) = (SD ops es st (fun _ => true) k).eff o.dst e := by
        simp only [SD, if_true]
        rw [e1, ho]
        simp [es1]
      rw [← e2] at h
      obtain ⟨es', fs', q1, q2, q3, q4⟩ := runNote_run m (k + 1) es1 _ (by simp [hl]) h
      have e3 : SD ops es' st (fun _ => true) k = SD ops es st (fun _ => true) k := (SD_congr fun i hi => q1 i (by omega)).trans e1
      refine ⟨es', fs', fun i hi => ?_, fun i hi => ?_, by rw [show k + (m + 1) = k + 1 + m by omega]; exact q3, fun i h1 h2 => ?_⟩
      · rw [q1 i (by omega)]; simp only [es1]; rw [if_neg (by omega)]
      · rw [q2 i (by omega), List.getElem?_append_left (by omega)]
      · by_cases e : i = k
        · subst e
          have hei : es' i = e := by rw [q1 i (by omega)]; simp [es1]
          refine ⟨o, ho, by rw [e3, hei]; exact hc, ?_⟩
          rw [q2 i (by omega), List.getElem?_append_right (by omega), e3, hei]
          simp [hl]
        · exact q4 i (by omega) (by omega)
    · cases h
def Rng (ws : List W) (off n : Nat) (x : O) : Prop := ∃ wc, x = .box wc ∧ wc.length = ws.length ∧ ∀ off', off ≤ off' → off' < off + n → wc[off']? = ws[off']?
theorem keepL_spec {g : Nat} : ∀ {j : Nat} {xs ys : List W} {r : List (Nat × Nat)}, keepL g j xs ys = some r → xs.length = ys.length ∧ ∀ p ∈ r, p.1 = g ∧ j ≤ p.2 ∧ xs[p.2 - j]? = ys[p.2 - j]?
  | j, [], [], r, h => by simp only [keepL, Option.some.injEq] at h; subst h; exact ⟨rfl, fun p hp => by cases hp⟩
  | j, [], y :: ys, r, h => by simp [keepL] at h
  | j, x :: xs, [], r, h => by simp [keepL] at h
  | j, x :: xs, y :: ys, r, h => by
    simp only [keepL] at h
    split at h
    · rename_i r' hr
      obtain ⟨h1, h2⟩ := keepL_spec hr
      have old : ∀ p ∈ r', p.1 = g ∧ j ≤ p.2 ∧ (x :: xs)[p.2 - j]? = (y :: ys)[p.2 - j]? := fun p hp => by
        obtain ⟨a1, a2, a3⟩ := h2 p hp
        refine ⟨a1, by omega, ?_⟩
        rw [show p.2 - j = (p.2 - (j + 1)) + 1 by omega, List.getElem?_cons_succ, List.getElem?_cons_succ]; exact a3
      simp only [Option.some.injEq] at h
      refine ⟨by simp [h1], fun p hp => ?_⟩
      rw [← h] at hp
      split at hp
      · rename_i hs
        rcases List.mem_cons.1 hp with rfl | hp
        · refine ⟨rfl, Nat.le_refl _, ?_⟩
          have : x = y := by
            cases x <;> cases y <;> simp only [sameH] at hs <;> first | (cases hs) | skip
            · rw [Nat.eq_of_beq_eq_true hs]
            · simp only [Bool.and_eq_true] at hs
              rw [Nat.eq_of_beq_eq_true hs.1, Nat.eq_of_beq_eq_true hs.2]
          simp [this]
        · exact old p hp
      · exact old p hp
    · cases h
theorem kpOf_spec {st : St} {e : Eff} {p : Nat × Nat} (h : p ∈ kpOf st e) : ∃ wa wb, st.o p.1 = .box wa ∧ e.upd.lookup p.1 = some (.box wb) ∧ wa.length = wb.length ∧ wa[p.2]? = wb[p.2]? := by
  unfold kpOf at h
  obtain ⟨g, _, hp⟩ := List.mem_flatMap.1 h
  cases ho : st.o g with
  | box ws =>
    cases hl : e.upd.lookup g with
    | none => rw [ho, hl] at hp; cases hp
    | some x =>
      cases x with
      | box ws' =>
        rw [ho, hl] at hp
        simp only [keepO] at hp
        split at hp
        · rename_i r hr
          obtain ⟨h1, h2⟩ := keepL_spec hr
          obtain ⟨rfl, _, a3⟩ := h2 p hp
          exact ⟨ws, ws', ho, hl, h1, by simpa using a3⟩
        · cases hp
      | _ => rw [ho, hl] at hp; cases hp
  | _ => rw [ho] at hp; cases hp
theorem ldOf_op {st : St} {o : Oper} {g off n : Nat} (h : ldOf tt st o = some (g, off, n)) : ∃ t x i, o.op = .load t x ∧ tt t = some i ∧ i.size = n ∧ st.opnd x = .v (.one (.box g off)) := by
  unfold ldOf at h
  split at h
  · rename_i t x hop
    split at h
    · rename_i i g' off' ht hx
      simp only [Option.some.injEq, Prod.mk.injEq] at h
      obtain ⟨rfl, rfl, rfl⟩ := h
      exact ⟨t, x, i, hop, ht, rfl, hx⟩
    · cases h
  · cases h
theorem ldOf_foot {st : St} {o : Oper} {g off n : Nat} (h : ldOf tt st o = some (g, off, n)) : g ∈ footOf T st o := by
  obtain ⟨t, x, i, h1, _, _, h4⟩ := ldOf_op h
  unfold footOf
  rw [h1]
  refine List.mem_append_left _ (List.mem_flatMap.2 ⟨x, by simp [Op.operands], List.mem_flatMap.2 ⟨g, ?_, by simp⟩⟩)
  rw [h4]; simp [S.names, V.names, W.names]
theorem SD_where {es : Nat → Eff} {D : Nat → Bool} {g : Nat} : ∀ (n : Nat), ∃ m, (∀ k, m ≤ k → k < n → D k = true → g ∉ (es k).upd.map (·.1)) ∧ (SD ops es st D n).o g = (SD ops es st (fun _ => true) m).o g ∧ (m = 0 ∨ ∃ k, m = k + 1 ∧ k < n ∧ D k = true ∧ g ∈ (es k).upd.map (·.1))
  | 0 => ⟨0, fun k _ h => by omega, rfl, .inl rfl⟩
  | n + 1 => by
    obtain ⟨m, h1, h2, h3⟩ := SD_where (D := D) (g := g) n
    by_cases hw : D n = true ∧ g ∈ (es n).upd.map (·.1)
    · obtain ⟨hd, hg⟩ := hw
      refine ⟨n + 1, fun k a b => by omega, ?_, .inr ⟨n, rfl, by omega, hd, hg⟩⟩
      simp only [SD, hd, if_true, eff_o]
      cases hl : (es n).upd.lookup g with
      | some x => rfl
      | none =>
        exfalso
        obtain ⟨p, hp, e⟩ := List.mem_map.1 hg
        have : ∀ {l : List (Nat × O)}, p ∈ l → l.lookup p.1 ≠ none := by
          intro l
          induction l with
          | nil => intro h; cases h
          | cons q l ih =>
            intro h hn
            simp only [List.lookup] at hn
            split at hn
            · cases hn
            · rename_i hb
              rcases List.mem_cons.1 h with h | h
              · subst h; simp at hb
              · exact ih h hn
        exact this hp (by rw [e]; exact hl)
    · refine ⟨m, fun k a b hd hg => ?_, ?_, h3.imp id fun ⟨k, a, b, c⟩ => ⟨k, a, by omega, c⟩⟩
      · by_cases e : k = n
        · subst e; exact hw ⟨hd, hg⟩
        · exact h1 k a (by omega) hd hg
      · cases hd : D n with
        | false => simp only [SD, hd, Bool.false_eq_true, if_false]; exact h2
        | true =>
          have hg : g ∉ (es n).upd.map (·.1) := fun hg => hw ⟨hd, hg⟩
          simp only [SD, hd, if_true, eff_o, lookup_none_of hg]; exact h2
theorem effOf_load {st : St} {o : Oper} {d : Nat} {t : TypeId} {x : Operand} {i : TI} {g off : Nat} (h1 : o.op = .load t x) (h2 : tt t = some i) (h4 : st.opnd x = .v (.one (.box g off))) {K : Eff → Prop} :
    effOf T tt d st o K ↔ ∃ ws, st.o g = .box ws ∧ (off + i.size ≤ ws.length ∧ 0 < i.size) ∧ K { x := V.ofWords i.agg ((ws.drop off).take i.size), upd := [], new := [] } := by
  have hD : ∀ dc, kernelD tt dc d st.o st.opnd (.load t x) o.type = none := fun dc => by
    simp only [kernelD, loadHd, h2, h4]
    cases isHd dc <;> rfl
  have e : effOf T tt d st o K ↔ (match kernel tt d st.o st.opnd (.load t x) o.type with
      | some r => r.pre ∧ K { x := r.dst r.val, upd := r.upd r.val, new := r.new }
      | none => False) := by
    unfold effOf
    rw [h1]
    simp only [hD, reduceCtorEq, false_and, exists_false, false_or, calcs, cond_false]
    cases kernel tt d st.o st.opnd (.load t x) o.type <;> rfl
  rw [e]
  simp only [kernel, h2, h4]
  cases ho : st.o g with
  | box ws =>
    simp only
    by_cases hs : off + i.size ≤ ws.length ∧ 0 < i.size
    · rw [if_pos hs]
      simp only [Res.pure, true_and]
      constructor
      · intro h; exact ⟨ws, rfl, hs, h⟩
      · rintro ⟨ws', e', _, h⟩; cases e'; exact h
    · rw [if_neg hs]
      simp only [false_iff]
      rintro ⟨ws', e', h, _⟩; cases e'; exact hs h
  | _ =>
    simp only [false_iff]
    rintro ⟨ws', e', _⟩; cases e'
theorem load_upd {st : St} {o : Oper} {e : Eff} {g off n : Nat} (hc : Can T tt N ops st o e) (hl : ldOf tt st o = some (g, off, n)) : e.upd = [] := by
  obtain ⟨t, x, i, h1, h2, h3, h4⟩ := ldOf_op hl
  have key : ∀ {d : Nat}, (effOf T tt d st o fun e' => e'.new.all (fun g => !st.used g) = true ∧ e' = e) → e.upd = [] := by
    intro d h
    obtain ⟨ws, _, _, _, rfl⟩ := (effOf_load h1 h2 h4).1 h
    rfl
  unfold Can stepW at hc
  obtain ⟨_, hc⟩ := hc
  split at hc
  · exact key hc
  · split at hc
    · rename_i b _
      cases b with
      | true => exact key hc
      | false => have hc : Eff.skip = e := hc; rw [← hc]; rfl
    · cases hc
theorem kdOf_spec {st : St} {e : Eff} {g : Nat} (h : g ∈ kdOf st e) : ∃ x, e.upd.lookup g = some x ∧ kindOf x = kindOf (st.o g) := by
  unfold kdOf at h
  obtain ⟨g', _, hp⟩ := List.mem_filterMap.1 h
  cases hl : e.upd.lookup g' with
  | none => rw [hl] at hp; cases hp
  | some x =>
    rw [hl] at hp
    simp only at hp
    cases hb : Nat.beq (kindOf x) (kindOf (st.o g')) with
    | false => rw [hb] at hp; cases hp
    | true =>
      rw [hb] at hp
      cases hp
      exact ⟨x, hl, Nat.eq_of_beq_eq_true hb⟩
theorem live_kind {o o' : Nat → O} {x : W} (h : ∀ g ∈ x.names, kindOf (o g) = kindOf (o' g)) : x.live o = x.live o' := by
  cases x <;> simp only [W.live] <;> first | rfl | skip
  · rename_i g off
    have := h g (by simp [W.names])
    cases h1 : o g <;> cases h2 : o' g <;> rw [h1, h2] at this <;> first | rfl | cases this
  · rename_i g n off
    have := h g (by simp [W.names])
    cases h1 : o g <;> cases h2 : o' g <;> rw [h1, h2] at this <;> first | rfl | cases this
theorem kernel_peek {o o' : Nat → O} {d : Nat} {F F' : Operand → S} {op : Op} {ty : TypeId} (hp : peekOp op = true) (hF : ∀ x ∈ op.operands.toList, F x = F' x) (ho : ∀ x ∈ op.operands.toList, ∀ g ∈ (F x).names, kindOf (o g) = kindOf (o' g)) :
    kernel tt d o F op ty = kernel tt d o' F' op ty := by
  cases op <;> first | (cases hp; done) | skip
  · rename_i x
    have h1 := hF x (by simp [Op.operands])
    have h2 := ho x (by simp [Op.operands])
    simp only [kernel, ← h1]
    generalize F x = z at h2
    split
    · rename_i x
      rw [live_kind (o' := o') fun g hg => h2 g (by simpa [S.names, V.names] using hg)]
    · rfl
  · rename_i t x n
    have h1 := hF x (by simp [Op.operands])
    have h2 := ho x (by simp [Op.operands])
    simp only [kernel, ← h1]
    generalize F x = z at h2
    split
    · rename_i x _ _
      rw [live_kind (o' := o') fun g hg => h2 g (by simpa [S.names, V.names] using hg)]
    · rfl
theorem effOf_peek {st : St} {o : Oper} {d : Nat} (hp : peekOp o.op = true) {K : Eff → Prop} :
    effOf T tt d st o K ↔ (match kernel tt d st.o st.opnd o.op o.type with
      | some r => r.pre ∧ K { x := r.dst r.val, upd := r.upd r.val, new := r.new }
      | none => False) := by
  unfold effOf
  cases hop : o.op <;> rw [hop] at hp <;> first | (cases hp; done) | skip
  all_goals
    simp only [kernelD, reduceCtorEq, false_and, exists_false, false_or, calcs, cond_false]
    generalize kernel tt d st.o st.opnd _ o.type = z
    cases z <;> rfl
theorem peek_none {o : Nat → O} {F : Operand → S} {d : Nat} {op : Op} {ty : TypeId} {r : Res} (hp : peekOp op = true) (h : kernel tt d o F op ty = some r) : r.upd r.val = [] := by
  cases op <;> first | (cases hp; done) | skip
  all_goals
    simp only [kernel] at h
    split at h
    · split at h
      · simp only [Option.some.injEq] at h; subst h; rfl
      · cases h
    · cases h
theorem peek_upd {st : St} {o : Oper} {e : Eff} (hc : Can T tt N ops st o e) (hp : peekOp o.op = true) : e.upd = [] := by
  have key : ∀ {d : Nat}, (effOf T tt d st o fun e' => e'.new.all (fun g => !st.used g) = true ∧ e' = e) → e.upd = [] := by
    intro d h
    have h := (effOf_peek hp).1 h
    split at h
    · rename_i r hr
      obtain ⟨_, _, rfl⟩ := h
      exact peek_none hp hr
    · cases h
  unfold Can stepW at hc
  obtain ⟨_, hc⟩ := hc
  split at hc
  · exact key hc
  · split at hc
    · rename_i b _
      cases b with
      | true => exact key hc
      | false => have hc : Eff.skip = e := hc; rw [← hc]; rfl
    · cases hc
theorem Can_peek {st st' : St} {o : Oper} {e : Eff} (hc : Can T tt N ops st o e) (hp : peekOp o.op = true) (hs : ∀ t ∈ o.looksAt ops, st.s t = st'.s t) (ho : ∀ g ∈ footOf T st o, kindOf (st.o g) = kindOf (st'.o g)) (hu : ∀ g ∈ e.new, st.used g = st'.used g) : Can T tt N ops st' o e := by
  have hx : ∀ x ∈ o.op.operands.toList, st.opnd x = st'.opnd x := by
    intro x hm
    cases x with
    | tmp t => exact hs t (List.mem_append_left _ (List.mem_filterMap.2 ⟨_, hm, rfl⟩))
    | _ => rfl
  have hl : looks o.op = true := by cases hop : o.op <;> rw [hop] at hp <;> first | rfl | cases hp
  have hk : kernel tt (o.dst.getD 0) st.o st.opnd o.op o.type = kernel tt (o.dst.getD 0) st'.o st'.opnd o.op o.type :=
    kernel_peek hp hx fun x hm g hg => ho g (List.mem_append_left _ (by rw [hl]; exact List.mem_flatMap.2 ⟨x, hm, List.mem_flatMap.2 ⟨g, hg, by simp⟩⟩))
  have eff : (effOf T tt (o.dst.getD 0) st o fun e' => e'.new.all (fun g => !st.used g) = true ∧ e' = e) → (effOf T tt (o.dst.getD 0) st' o fun e' => e'.new.all (fun g => !st'.used g) = true ∧ e' = e) := by
    intro h
    have h := (effOf_peek hp).1 h
    refine (effOf_peek hp).2 ?_
    rw [← hk]
    split at h
    · obtain ⟨q1, q2, rfl⟩ := h
      refine ⟨q1, ?_, rfl⟩
      rw [List.all_eq_true] at q2 ⊢
      intro g hg
      rw [← hu g hg]; exact q2 g hg
    · cases h
  unfold Can stepW at *
  refine ⟨hc.1, ?_⟩
  have hc := hc.2
  cases hg : o.guard with
  | none => rw [hg] at hc; exact eff hc
  | some p =>
    obtain ⟨j, want⟩ := p
    rw [hg] at hc
    simp only at hc ⊢
    have : guardOf ops st j want = guardOf ops st' j want := by
      unfold guardOf
      cases hd : (ops[j]?).bind (·.dst) with
      | none => rfl
      | some t =>
        simp only
        rw [hs t (List.mem_append_right _ (by simp [hg, hd]))]
    rw [← this]
    split at hc
    · rename_i b hb
      cases b with
      | true => exact eff hc
      | false => exact hc
    · cases hc
theorem Can_load {st st' : St} {o : Oper} {e : Eff} {g off n : Nat} (hc : Can T tt N ops st o e) (hs : ∀ t ∈ o.looksAt ops, st.s t = st'.s t) (hl : ldOf tt st o = some (g, off, n))
    (H : 0 < n → ∀ ws, st.o g = .box ws → Rng ws off n (st'.o g)) (hu : ∀ g ∈ e.new, st.used g = st'.used g) : Can T tt N ops st' o e := by
  obtain ⟨t, x, i, h1, h2, h3, h4⟩ := ldOf_op hl
  have hx : st'.opnd x = .v (.one (.box g off)) := by
    rw [← h4]
    cases x with
    | tmp t => exact (hs t (List.mem_append_left _ (List.mem_filterMap.2 ⟨.tmp t, by simp [h1, Op.operands], rfl⟩))).symm
    | _ => rfl
  have eff : (effOf T tt (o.dst.getD 0) st o fun e' => e'.new.all (fun g => !st.used g) = true ∧ e' = e) → (effOf T tt (o.dst.getD 0) st' o fun e' => e'.new.all (fun g => !st'.used g) = true ∧ e' = e) := by
    intro h
    obtain ⟨ws, ho, ⟨q1, q2⟩, q3, rfl⟩ := (effOf_load h1 h2 h4).1 h
    obtain ⟨wc, r1, r2, r3⟩ := H (by omega) ws ho
    refine (effOf_load h1 h2 hx).2 ⟨wc, r1, ⟨by omega, q2⟩, rfl, ?_⟩
    have key : (wc.drop off).take i.size = (ws.drop off).take i.size := by
     refine List.ext_getElem? fun k => ?_
     rw [List.getElem?_take, List.getElem?_take]
     split
     · rw [List.getElem?_drop, List.getElem?_drop]
       exact r3 _ (by omega) (by omega)
     · rfl
    rw [key]
  unfold Can stepW at *
  refine ⟨hc.1, ?_⟩
  have hc := hc.2
  cases hg : o.guard with
  | none => rw [hg] at hc; exact eff hc
  | some p =>
    obtain ⟨j, want⟩ := p
    rw [hg] at hc
    simp only at hc ⊢
    have : guardOf ops st j want = guardOf ops st' j want := by
      unfold guardOf
      cases hd : (ops[j]?).bind (·.dst) with
      | none => rfl
      | some t =>
        simp only
        rw [hs t (List.mem_append_right _ (by simp [hg, hd]))]
    rw [← this]
    split at hc
    · rename_i b hb
      cases b with
      | true => exact eff hc
      | false => exact hc
    · cases hc
theorem any_sound (hT : ∀ f sp, T f = some sp → Sound Pg f sp) (htt : TTok Pg tt) {es : Nat → Eff} {fs : List Foot} (hfree : freeB ops fs = true)
    (hcan : ∀ i, i < ops.size → ∃ o, ops[i]? = some o ∧ Can T tt N ops (SD ops es st (fun _ => true) i) o (es i) ∧ fs[i]? = some { rd := footOf T (SD ops es st (fun _ => true) i) o, wr := (es i).upd.map (·.1), new := (es i).new, ld := ldOf tt (SD ops es st (fun _ => true) i) o, kp := kpOf (SD ops es st (fun _ => true) i) (es i), pk := peekOp o.op, kd := kdOf (SD ops es st (fun _ => true) i) (es i) })
    (hQ : ∀ a' w', Good E N ios gh0 (SD ops es st (fun _ => true) ops.size) a' w' → Q .normal a' w') :
    ∀ (fuel : Nat) (listed : Array Bool) (a : Act) (w : World), listed.size = ops.size → Down ops (fun k => listed.getD k false) → (List.range ops.size).countP (fun k => !listed.getD k false) ≤ fuel →
      Good E N ios gh0 (SD ops es st (fun k => listed.getD k false) ops.size) a w → wpAny Pg .any ops Q fuel listed a w := by
  have hf : ∀ j, j < ops.size → (aheads ops.toList []).getD j 0 < 2 ^ j ∧ ∀ i, i < j → ((aheads ops.toList []).getD j 0).testBit i = true ∨ ∃ x y fx fy, ops[i]? = some x ∧ ops[j]? = some y ∧ fs[i]? = some fx ∧ fs[j]? = some fy ∧ Apart ops x y fx fy := by
    intro j hj
    have := (List.all_eq_true.1 hfree) j (List.mem_range.2 hj)
    simp only [Bool.and_eq_true, decide_eq_true_eq, List.all_eq_true, List.mem_range, Bool.or_eq_true] at this
    refine ⟨this.1, fun i hi => ?_⟩
    rcases this.2 i hi with h | h
    · exact .inl h
    · right
      split at h
      · rename_i x y fx fy h1 h2 h3 h4
        exact ⟨x, y, fx, fy, h1, h2, h3, h4, pairB_spec h⟩
      · cases h
  have done : ∀ (listed : Array Bool), listed.size = ops.size → Down ops (fun k => listed.getD k false) → Region.ready .any ops listed = [] → ∀ k, k < ops.size → listed.getD k false = true := by
    intro listed hsz hD hr k
    induction k using Nat.strongRecOn with
    | _ k ih =>
      intro hk
      obtain ⟨o, ho, _, _⟩ := hcan k hk
      by_cases hl : listed.getD k false = true
      · exact hl
      · exfalso
        have : k ∈ Region.ready .any ops listed := mem_ready.2 ⟨by
          have hl : listed.getD k false = false := by simpa using hl
          rw [Array.getD_eq_getD_getElem?] at hl ⊢
          rw [Array.getElem?_eq_getElem (by omega)] at hl ⊢
          exact hl, o, ho, fun e he hb => ih e.on (ahead_lt ho (hf k hk).1 he hb) (by have := ahead_lt ho (hf k hk).1 he hb; omega)⟩
        rw [hr] at this; cases this
  have final : ∀ (listed : Array Bool) (a : Act) (w : World), listed.size = ops.size → Down ops (fun k => listed.getD k false) → Region.ready .any ops listed = [] → Good E N ios gh0 (SD ops es st (fun k => listed.getD k false) ops.size) a w → Q .normal a w := by
    intro listed a w hsz hD hr hg
    have h := done listed hsz hD hr
    rw [SD_congrD (D' := fun _ => true) fun k hk => h k hk] at hg
    exact hQ a w hg
  intro fuel
  induction fuel with
  | zero =>
    intro listed a w hsz hD hcnt hg
    have hr : Region.ready .any ops listed = [] := by
      cases hr : Region.ready .any ops listed with
      | nil => rfl
      | cons k ks =>
        exfalso
        have hk : k ∈ Region.ready .any ops listed := by rw [hr]; simp
        obtain ⟨h1, o, ho, _⟩ := mem_ready.1 hk
        have hlt := (Array.getElem?_eq_some_iff.1 ho).1
        have : 0 < (List.range ops.size).countP (fun k => !listed.getD k false) := by
          rw [List.countP_pos_iff]
          refine ⟨k, List.mem_range.2 hlt, ?_⟩
          rw [Array.getD_eq_getD_getElem?] at h1 ⊢
          rw [Array.getElem?_eq_getElem (by omega)] at h1 ⊢
          simpa using h1
        omega
    exact ⟨hr, final listed a w hsz hD hr hg⟩
  | succ fuel ih =>
    intro listed a w hsz hD hcnt hg
    refine ⟨fun hr => final listed a w hsz hD hr hg, fun i hi => ?_⟩
    obtain ⟨hni, oi, hoi, hpre⟩ := mem_ready.1 hi
    have hlt : i < ops.size := (Array.getElem?_eq_some_iff.1 hoi).1
    have hDi : listed.getD i false = false := by
      rw [Array.getD_eq_getD_getElem?] at hni ⊢
      rw [Array.getElem?_eq_getElem (by omega)] at hni ⊢
      exact hni
    obtain ⟨o, ho, hc, hfi⟩ := hcan i hlt
    rw [hoi] at ho; cases ho
    have hset : ∀ k, (listed.setIfInBounds i true).getD k false = if k = i then true else listed.getD k false := by
      intro k
      by_cases e : k = i
      · subst e
        rw [if_pos rfl, Array.getD_eq_getD_getElem?, Array.getElem?_setIfInBounds_self]
        simp [show k < listed.size by omega]
      · rw [if_neg e, Array.getD_eq_getD_getElem?, Array.getElem?_setIfInBounds_ne (Ne.symm e), ← Array.getD_eq_getD_getElem?]
    have hD' : Down ops (fun k => (listed.setIfInBounds i true).getD k false) := by
      intro j o' ho' hj e he hb
      simp only [hset] at hj ⊢
      by_cases ej : j = i
      · subst ej
        rw [hoi] at ho'; cases ho'
        have := hpre e he hb
        rw [this]; simp
      · rw [if_neg ej] at hj
        have := hD j o' ho' hj e he hb
        simp only at this
        rw [this]; simp
    have hap : ∀ k, k < ops.size → k ≠ i → ((k < i ∧ listed.getD k false = false) ∨ (i < k ∧ listed.getD k false = true)) → ∃ y fy, ops[k]? = some y ∧ fs[k]? = some fy ∧
        (∀ t, y.dst = some t → t ∉ oi.looksAt ops) ∧ (∀ t, oi.dst = some t → y.dst ≠ some t) ∧ ((∀ g ∈ fy.wr, g ∉ footOf T (SD ops es st (fun _ => true) i) oi) ∨ ∃ fi, fs[i]? = some fi ∧ softB fy fi = true) ∧ (∀ g ∈ fy.wr, g ∉ (es i).upd.map (·.1)) ∧ (∀ g ∈ fy.new, g ∉ (es i).new) ∧ fy.wr = (es k).upd.map (·.1) ∧ fy.new = (es k).new := by
      intro k hk hne hcase
      obtain ⟨y0, hy0, _, hfk⟩ := hcan k hk
      rcases hcase with ⟨hlt', hfalse⟩ | ⟨hlt', htrue⟩
      · rcases (hf i hlt).2 k hlt' with hb | ⟨x, y, fx, fy, h1, h2, h3, h4, ap⟩
        · have := aheads_down hD' i hoi (by simp [hset]) k hb
          simp only [hset, if_neg hne] at this
          rw [hfalse] at this; cases this
        · rw [hoi] at h2; cases h2
          rw [hfi] at h4; cases h4
          rw [hfk] at h3; cases h3
          exact ⟨x, _, h1, hfk, ap.dy, fun t e e' => ap.dd t e' e, ap.wr.imp id (fun h => ⟨_, hfi, h⟩), ap.ww, ap.nn, rfl, rfl⟩
      · rcases (hf k hk).2 i hlt' with hb | ⟨x, y, fx, fy, h1, h2, h3, h4, ap⟩
        · have := aheads_down hD k hy0 htrue i hb
          rw [hDi] at this; cases this
        · rw [hoi] at h1; cases h1
          rw [hfi] at h3; cases h3
          rw [hfk] at h4; cases h4
          exact ⟨y, _, h2, hfk, ap.dx, ap.dd, ap.rw.imp id (fun h => ⟨_, hfi, h⟩), fun g hg hg' => ap.ww g hg' hg, fun g hg hg' => ap.nn g hg' hg, rfl, rfl⟩
    have hcanon : SD ops es st (fun _ => true) i = SD ops es st (fun k => decide (k < i)) ops.size := by
      have : ∀ m, i + m ≤ ops.size → SD ops es st (fun k => decide (k < i)) (i + m) = SD ops es st (fun _ => true) i := by
        intro m
        induction m with
        | zero => intro _; exact SD_congrD fun k hk => by simp [show k < i by omega]
        | succ m ih =>
          intro hm
          rw [← Nat.add_assoc]
          simp only [SD, show ¬ (i + m < i) by omega, decide_false, Bool.false_eq_true, if_false]
          exact ih (by omega)
      have := this (ops.size - i) (by omega)
      rw [show i + (ops.size - i) = ops.size by omega] at this
      exact this.symm
    have hdiff : ∀ k, k < ops.size → decide (k < i) ≠ listed.getD k false → k ≠ i ∧ ((k < i ∧ listed.getD k false = false) ∨ (i < k ∧ listed.getD k false = true)) := by
      intro k hk hne
      by_cases e : k = i
      · subst e; rw [hDi] at hne; simp at hne
      · refine ⟨e, ?_⟩
        by_cases hki : k < i
        · exact .inl ⟨hki, by simpa [hki] using hne⟩
        · refine .inr ⟨by omega, ?_⟩
          cases hl : listed.getD k false with
          | true => rfl
          | false => rw [hl] at hne; simp [hki] at hne
    have hdst : ∀ (k : Nat) (y : Oper), ops[k]? = some y → (ops[k]?).bind (·.dst) = y.dst := fun k y h => by rw [h]; rfl
    have hc' : Can T tt N ops (SD ops es st (fun k => listed.getD k false) ops.size) oi (es i) := by
      have hslots : ∀ t ∈ oi.looksAt ops, (SD ops es st (fun _ => true) i).s t = (SD ops es st (fun k => listed.getD k false) ops.size).s t := fun t ht => by
        rw [hcanon]
        refine SD_s fun k hk hne => ?_
        obtain ⟨h1, h2⟩ := hdiff k hk hne
        obtain ⟨y, fy, h3, _, h4, _⟩ := hap k hk h1 h2
        rw [hdst k y h3]
        exact fun e => h4 t e ht
      have hused : ∀ g ∈ (es i).new, (SD ops es st (fun _ => true) i).used g = (SD ops es st (fun k => listed.getD k false) ops.size).used g := fun g hg => by
        rw [hcanon]
        refine SD_used fun k hk hne => ?_
        obtain ⟨h1, h2⟩ := hdiff k hk hne
        obtain ⟨y, fy, h3, _, _, _, _, _, h4, _, h5⟩ := hap k hk h1 h2
        rw [← h5]
        exact fun e => h4 g e hg
      have travel : ∀ (g : Nat) (Pr : O → Prop), g ∉ (es i).upd.map (·.1) → (∀ k, k < ops.size → k ≠ i → ((k < i ∧ listed.getD k false = false) ∨ (i < k ∧ listed.getD k false = true)) → g ∈ (es k).upd.map (·.1) →
          (Pr ((SD ops es st (fun _ => true) k).o g) ↔ Pr ((SD ops es st (fun _ => true) (k + 1)).o g))) → Pr ((SD ops es st (fun _ => true) i).o g) → Pr ((SD ops es st (fun k => listed.getD k false) ops.size).o g) := by
        intro g Pr hgi hkeep hP0
        have hstep : ∀ k, k < ops.size → (g ∈ (es k).upd.map (·.1) → (Pr ((SD ops es st (fun _ => true) k).o g) ↔ Pr ((SD ops es st (fun _ => true) (k + 1)).o g))) →
            (Pr ((SD ops es st (fun _ => true) k).o g) ↔ Pr ((SD ops es st (fun _ => true) (k + 1)).o g)) := by
          intro k hk hw
          by_cases hg : g ∈ (es k).upd.map (·.1)
          · exact hw hg
          · have : (SD ops es st (fun _ => true) (k + 1)).o g = (SD ops es st (fun _ => true) k).o g := by
              simp only [SD, if_true, eff_o, lookup_none_of hg]
            rw [this]
        obtain ⟨m', hm', hlast, hafter⟩ := SD_where (ops := ops) (es := es) (st := st) (D := fun k => listed.getD k false) (g := g) ops.size
        rw [hlast]
        rcases Nat.lt_or_ge i m' with him | him
        · -- forward
          have : ∀ d, i + d ≤ m' → Pr ((SD ops es st (fun _ => true) (i + d)).o g) := by
            intro d
            induction d with
            | zero => intro _; exact hP0
            | succ d ihd =>
              intro hd
              have hk : i + d < ops.size := by
                rcases hafter with e | ⟨k1, e, h2, _⟩ <;> omega
              rw [← Nat.add_assoc]
              refine (hstep (i + d) hk (fun hg => ?_)).1 (ihd (by omega))
              by_cases e0 : d = 0
              · exfalso
                subst e0
                exact hgi hg
              · have hin : listed.getD (i + d) false = true := by
                  rcases hafter with e | ⟨k1, rfl, hk1s, hk1, hg1⟩
                  · omega
                  · by_cases e1 : i + d = k1
                    · rw [e1]; exact hk1
                    · obtain ⟨y1, hy1, _, hf1⟩ := hcan k1 hk1s
                      rcases (hf k1 hk1s).2 (i + d) (by omega) with hb | ⟨x2, y2, fx, fy, h1, h2, h3, h4, ap⟩
                      · exact aheads_down hD k1 hy1 hk1 _ hb
                      · exfalso
                        obtain ⟨y0, _, _, hfk⟩ := hcan (i + d) hk
                        rw [hfk] at h3; cases h3
                        rw [hf1] at h4; cases h4
                        exact ap.ww g hg hg1
                exact hkeep (i + d) hk (by omega) (.inr ⟨by omega, hin⟩) hg
          have := this (m' - i) (by omega)
          rwa [show i + (m' - i) = m' by omega] at this
        · -- backward
          have : ∀ d, d ≤ i - m' → Pr ((SD ops es st (fun _ => true) (i - d)).o g) := by
            intro d
            induction d with
            | zero => intro _; exact hP0
            | succ d ihd =>
              intro hd
              have hk : i - (d + 1) < ops.size := by omega
              have e1 : i - (d + 1) + 1 = i - d := by omega
              refine (hstep (i - (d + 1)) hk (fun hg => ?_)).2 (by rw [e1]; exact ihd (by omega))
              have hout : listed.getD (i - (d + 1)) false = false := by
                cases hl : listed.getD (i - (d + 1)) false with
                | false => rfl
                | true => exact absurd hg (hm' (i - (d + 1)) (by omega) hk hl)
              exact hkeep (i - (d + 1)) hk (by omega) (.inl ⟨by omega, hout⟩) hg
          have := this (i - m') (Nat.le_refl _)
          rwa [show i - (i - m') = m' by omega] at this
      cases hld : ldOf tt (SD ops es st (fun _ => true) i) oi with
      | none =>
        by_cases hpk : peekOp oi.op = true
        · refine Can_peek hc hpk hslots (fun g hg => ?_) hused
          refine (travel g (fun x => kindOf ((SD ops es st (fun _ => true) i).o g) = kindOf x) (by rw [peek_upd hc hpk]; simp) (fun k hk hne hcase hgk => ?_) rfl)
          obtain ⟨y, fy, h3, hfk, _, _, h4, _, _, h5, _⟩ := hap k hk hne hcase
          rcases h4 with h4 | ⟨fi, hfi', hs⟩
          · exfalso
            rw [← h5] at hgk
            exact h4 g hgk hg
          · rw [hfi] at hfi'; cases hfi'
            simp only [softB, hld, hpk, Bool.true_and, List.all_eq_true, Bool.or_eq_true, Bool.not_eq_true', List.contains_eq_mem, decide_eq_true_eq, decide_eq_false_iff_not] at hs
            rw [h5] at hs
            rcases hs g hg with hs | hs
            · exact absurd hgk hs
            · obtain ⟨o', ho', _, hfk'⟩ := hcan k hk
              rw [hfk] at hfk'; cases hfk'
              obtain ⟨x, q1, q2⟩ := kdOf_spec hs
              have : (SD ops es st (fun _ => true) (k + 1)).o g = x := by simp only [SD, if_true, eff_o, q1]
              rw [this, q2]
        · refine Can_local hc hslots (fun g hg => ?_) hused
          rw [hcanon] at hg ⊢
          refine SD_o fun k hk hne => ?_
          obtain ⟨h1, h2⟩ := hdiff k hk hne
          obtain ⟨y, fy, h3, _, _, _, h4, _, _, h5, _⟩ := hap k hk h1 h2
          rw [← h5]
          rcases h4 with h4 | ⟨fi, hfi', hs⟩
          · rw [hcanon] at h4
            exact fun e => h4 g e hg
          · rw [hfi] at hfi'; cases hfi'
            simp only [softB, hld, hpk, Bool.false_and] at hs
            cases hs
      | some q =>
        obtain ⟨g, off, n⟩ := q
        refine Can_load hc hslots hld (fun hn ws hws => ?_) hused
        refine travel g (Rng ws off n) (by rw [load_upd hc hld]; simp) (fun k hk hne hcase hg => ?_) ⟨ws, hws, rfl, fun _ _ _ => rfl⟩
        obtain ⟨y, fy, h3, hfk, _, _, h4, _, _, h5, _⟩ := hap k hk hne hcase
        rcases h4 with h4 | ⟨fi, hfi', hs⟩
        · exfalso
          rw [← h5] at hg
          exact h4 g hg (ldOf_foot hld)
        · rw [hfi] at hfi'; cases hfi'
          simp only [softB, hld, List.all_eq_true, List.mem_range] at hs
          obtain ⟨o', ho', _, hfk'⟩ := hcan k hk
          rw [hfk] at hfk'; cases hfk'
          have one : ∀ off', off ≤ off' → off' < off + n → ∃ wa wb, (SD ops es st (fun _ => true) k).o g = .box wa ∧ (SD ops es st (fun _ => true) (k + 1)).o g = .box wb ∧ wa.length = wb.length ∧ wa[off']? = wb[off']? := by
            intro off' h1' h2'
            have := hs (off' - off) (by omega)
            obtain ⟨p, hp, he⟩ := List.any_eq_true.1 this
            simp only [Bool.and_eq_true] at he
            have e1 := Nat.eq_of_beq_eq_true he.1
            have e2 := Nat.eq_of_beq_eq_true he.2
            obtain ⟨wa, wb, q1, q2, q3, q4⟩ := kpOf_spec hp
            rw [e1] at q1 q2
            refine ⟨wa, wb, q1, ?_, q3, by rw [show off' = p.2 by omega]; exact q4⟩
            simp only [SD, if_true, eff_o, q2]
          obtain ⟨wa, wb, q1, q2, q3, _⟩ := one off (Nat.le_refl _) (by omega)
          rw [q1, q2]
          have hall : ∀ off', off ≤ off' → off' < off + n → wa[off']? = wb[off']? := fun off' a1 a2 => by
            obtain ⟨wa', wb', r1, r2, _, r4⟩ := one off' a1 a2
            rw [q1] at r1; rw [q2] at r2; cases r1; cases r2; exact r4
          constructor
          · rintro ⟨wc, hc, hl, hr⟩
            cases hc
            exact ⟨wb, rfl, by omega, fun off' a1 a2 => by rw [← hall off' a1 a2]; exact hr off' a1 a2⟩
          · rintro ⟨wc, hc, hl, hr⟩
            cases hc
            exact ⟨wa, rfl, by omega, fun off' a1 a2 => by rw [hall off' a1 a2]; exact hr off' a1 a2⟩
    have hins : SD ops es st (fun k => (listed.setIfInBounds i true).getD k false) ops.size = (SD ops es st (fun k => listed.getD k false) ops.size).eff oi.dst (es i) := by
      have hDs : ∀ k, (fun k => (listed.setIfInBounds i true).getD k false) k = if k = i then true else listed.getD k false := hset
      have hne : ∀ k, (fun k => (listed.setIfInBounds i true).getD k false) k ≠ (fun k => listed.getD k false) k → k = i := by
        intro k h
        simp only [hset] at h
        by_cases e : k = i
        · exact e
        · rw [if_neg e] at h; exact absurd rfl h
      have hlater : ∀ k, i < k → k < ops.size → (fun k => (listed.setIfInBounds i true).getD k false) k = true → listed.getD k false = true := by
        intro k h1 h2 h3
        simp only [hset, if_neg (show k ≠ i by omega)] at h3
        exact h3
      refine St.ext' (fun t => ?_) (fun g => ?_) (fun g => ?_)
      · rw [eff_s]
        by_cases hd : oi.dst = some t
        · rw [if_pos hd]
          refine SD_last_s (by simp [hset]) ((hdst i oi hoi).trans hd) hlt fun k h1 h2 h3 => ?_
          obtain ⟨y, fy, q1, _, _, q2, _⟩ := hap k h2 (by omega) (.inr ⟨h1, hlater k h1 h2 h3⟩)
          rw [hdst k y q1]
          exact q2 t hd
        · rw [if_neg hd]
          refine SD_s fun k hk hk' => ?_
          rw [hne k hk', hdst i oi hoi]; exact hd
      · rw [eff_o]
        cases hu : (es i).upd.lookup g with
        | some x =>
          refine SD_last_o (by simp [hset]) hu hlt fun k h1 h2 h3 => ?_
          obtain ⟨y, fy, q1, _, _, _, _, q2, _, q3, _⟩ := hap k h2 (by omega) (.inr ⟨h1, hlater k h1 h2 h3⟩)
          rw [← q3]
          exact fun e => q2 g e (List.mem_map.2 ⟨(g, x), mem_of_lookup hu, rfl⟩)
        | none =>
          refine SD_o fun k hk hk' => ?_
          rw [hne k hk']
          intro hm
          obtain ⟨p, hp, rfl⟩ := List.mem_map.1 hm
          have : ∀ {l : List (Nat × O)}, p ∈ l → l.lookup p.1 ≠ none := by
            intro l
            induction l with
            | nil => intro h; cases h
            | cons q l ih =>
              intro h hn
              simp only [List.lookup] at hn
              split at hn
              · cases hn
              · rename_i hb
                rcases List.mem_cons.1 h with h | h
                · subst h; simp at hb
                · exact ih h hn
          exact this hp hu
      · rw [eff_used]
        by_cases hn : g ∈ (es i).new
        · rw [SD_has_used (by simp [hset]) hn hlt]; simp [hn]
        · have : (es i).new.contains g = false := by simpa using hn
          rw [this, Bool.false_or]
          refine SD_used fun k hk hk' => ?_
          rw [hne k hk']; exact hn
    refine step_sound hT htt hoi hg hc' fun a' w' hg' => ih _ a' w' (by simp [hsz]) hD' ?_ (by rw [hins]; exact hg')
    have hlt2 : (List.range ops.size).countP (fun k => !(listed.setIfInBounds i true).getD k false) < (List.range ops.size).countP (fun k => !listed.getD k false) := by
      have gen : ∀ l : List Nat, i ∈ l → l.countP (fun k => !(listed.setIfInBounds i true).getD k false) < l.countP (fun k => !listed.getD k false) := by
        intro l
        have hle : ∀ l : List Nat, l.countP (fun k => !(listed.setIfInBounds i true).getD k false) ≤ l.countP (fun k => !listed.getD k false) := fun l => List.countP_mono_left fun k _ h => by
          simp only [hset] at h
          by_cases e : k = i
          · simp [e] at h
          · simpa [e] using h
        induction l with
        | nil => intro h; cases h
        | cons k l ihl =>
          intro h
          simp only [List.countP_cons]
          by_cases e : k = i
          · subst e
            have h1 : (!(listed.setIfInBounds k true).getD k false) = false := by simp [hset]
            have h2 : (!listed.getD k false) = true := by simp [hDi]
            rw [h1, h2]
            exact Nat.lt_succ_of_le (hle l)
          · have := ihl (by rcases List.mem_cons.1 h with h | h; exact absurd h.symm e; exact h)
            have e1 : (!(listed.setIfInBounds i true).getD k false) = (!listed.getD k false) := by rw [hset, if_neg e]
            rw [e1]; omega
      exact gen _ (List.mem_range.2 hlt)
    omega
theorem region_ops (hT : ∀ f sp, T f = some sp → Sound Pg f sp) (htt : TTok Pg tt) {draw : Bool} {K : St → Prop} (h : regionW T tt N ops draw st K) (hg : Good E N ios gh0 st a w)
    (hK : ∀ st' a' w', K st' → Good E N ios gh0 st' a' w' → Q .normal a' w') : (draw = false ∧ wpOps Pg ops Q (List.range ops.size) a w) ∨ (draw = true ∧ wpAny Pg .any ops Q ops.size (Array.replicate ops.size false) a { w with drawn := w.drawn + 1 }) := by
  cases draw with
  | false => exact .inl ⟨rfl, runOps_sound hT htt hK _ h hg⟩
  | true =>
    have h : runNote T tt N ops (List.range ops.size) st [] (fun st' fs => freeB ops fs = true ∧ K st') := h
    rw [List.range_eq_range'] at h
    obtain ⟨es, fs, _, _, ⟨h1, h2⟩, h3⟩ := runNote_run (st := st) ops.size 0 (fun _ => Eff.skip) [] rfl h
    rw [Nat.zero_add] at h2
    refine .inr ⟨rfl, ?_⟩
    refine any_sound hT htt h1 (fun i hi => h3 i (by omega) (by omega)) (fun a' w' hg' => hK _ a' w' h2 hg') ops.size _ a _ (by simp) ?_ ?_ ?_
    · intro j o _ hj
      simp only [Array.getD_eq_getD_getElem?] at hj
      rw [Array.getElem?_replicate] at hj
      split at hj <;> cases hj
    · refine Nat.le_trans List.countP_le_length ?_
      simp
    · obtain ⟨⟨gh, hR, hio⟩, hsz, hdf⟩ := hg
      have e : SD ops es st (fun k => (Array.replicate ops.size false).getD k false) ops.size = st := by
        have : ∀ n, SD ops es st (fun k => (Array.replicate ops.size false).getD k false) n = st := by
          intro n
          induction n with
          | zero => rfl
          | succ n ih =>
            have : (Array.replicate ops.size false).getD n false = false := by
              rw [Array.getD_eq_getD_getElem?, Array.getElem?_replicate]; split <;> rfl
            simp only [SD, this, Bool.false_eq_true, if_false]; exact ih
        exact this _
      rw [e]
      exact ⟨⟨gh, hR.drew _, hio⟩, hsz, hdf⟩
theorem region_sound (hT : ∀ f sp, T f = some sp → Sound Pg f sp) (htt : TTok Pg tt) (hm : Pg.follows .mixedOrders = true) {id : Nat} {draw : Bool} {K : St → Prop} (h : regionW T tt N ops draw st K) (hg : Good E N ios gh0 st a w)
    (hK : ∀ st' a' w', K st' → Good E N ios gh0 st' a' w' → Q .normal a' w') : (Code.region id ops draw).wp Pg Q a w := by
  rcases region_ops hT htt h hg hK with ⟨e, h2⟩ | ⟨e, h2⟩
  · rw [e]; exact wp_region h2
  · rw [e]; exact wp_region_any hm h2
end
end Go.Fw
namespace Go.Fw
set_option linter.unusedSectionVars false
variable [Globs]
set_option linter.unusedVariables false
def plW (gs : List Nat) (o : Nat → O) : W → W
  | .own g => if gs.contains g = true then match plainO o g with
    | some (a, i, sz, l) => .p a i (P.mkSl sz l)
    | none => .own g
    else .own g
  | .vw g lo hi => if gs.contains g = true then match plainO o g with
    | some (a, i, sz, l) => .p a i (P.mkSl sz ((l.take hi.nat).drop lo.nat))
    | none => .vw g lo hi
    else .vw g lo hi
  | x => x
def plV (gs : List Nat) (o : Nat → O) : V → V
  | .one x => .one (plW gs o x)
  | .agg xs => .agg (xs.map (plW gs o))
def plS (gs : List Nat) (o : Nat → O) : S → S
  | .v x => .v (plV gs o x)
  | .tup xs => .tup (xs.map (plV gs o))
  | .no => .no
def plO (gs : List Nat) (o : Nat → O) (g : Nat) : O := match o g with
  | .box ws => .box (ws.map (plW gs o))
  | x => if gs.contains g = true then (Fw.freeze o g).2 else x
def plainify (gs : List Nat) (st : St) : St := { s := fun t => plS gs st.o (st.s t), o := fun g => plO gs st.o g, used := st.used }
def frzB (o : Nat → O) (gs : List Nat) : Bool := gs.all fun g => (plainO o g).isSome && (o g).names.all fun d => gs.contains d
theorem frzB_spec {o : Nat → O} {gs : List Nat} (h : frzB o gs = true) : Frz o gs := fun g hg => by
  have := (List.all_eq_true.1 h) g hg
  simp only [Bool.and_eq_true, List.all_eq_true, List.contains_eq_mem, decide_eq_true_eq] at this
  exact this
section
variable {E : Env} {st : St} {gh : Nat → Gh} {w : World} {val : Nat → Value}
theorem plW_names {gs : List Nat} {o : Nat → O} {x : W} {g : Nat} (h : g ∈ (plW gs o x).names) : g ∈ x.names := by
  unfold plW at h
  split at h
  · split at h
    · split at h
      · simp [W.names] at h
      · exact h
    · exact h
  · split at h
    · split at h
      · simp [W.names] at h
      · exact h
    · exact h
  · exact h
theorem plV_names {gs : List Nat} {o : Nat → O} {x : V} {g : Nat} (h : g ∈ (plV gs o x).names) : g ∈ x.names := by
  cases x with
  | one x => exact plW_names h
  | agg xs =>
    simp only [plV, V.names, List.mem_flatMap, List.mem_map] at h ⊢
    obtain ⟨_, ⟨x, hx, rfl⟩, hg⟩ := h
    exact ⟨x, hx, plW_names hg⟩
theorem plS_names {gs : List Nat} {o : Nat → O} {x : S} {g : Nat} (h : g ∈ (plS gs o x).names) : g ∈ x.names := by
  cases x with
  | v x => exact plV_names h
  | tup xs =>
    simp only [plS, S.names, List.mem_flatMap, List.mem_map] at h ⊢
    obtain ⟨_, ⟨x, hx, rfl⟩, hg⟩ := h
    exact ⟨x, hx, plV_names hg⟩
  | no => exact h
theorem plainify_o (gs : List Nat) (st : St) (g : Nat) : ((plainify gs st).o g = (st.upd (gs.map (Fw.freeze st.o)) []).o g ∧ ∀ ws, st.o g ≠ .box ws) ∨
    ∃ ws, st.o g = .box ws ∧ (st.upd (gs.map (Fw.freeze st.o)) []).o g = .box ws ∧ (plainify gs st).o g = .box (ws.map (plW gs st.o)) := by
  rw [freezes_o]
  cases ho : st.o g with
  | box ws =>
    refine .inr ⟨ws, rfl, ?_, by simp only [plainify, plO, ho]⟩
    split
    · simp [Fw.freeze, plainO, ho]
    · rfl
  | _ =>
    refine .inl ⟨?_, fun ws e => by cases e⟩
    simp only [plainify, plO, ho]
    simp only [List.contains_eq_mem, decide_eq_true_eq]
theorem plainify_none {gs : List Nat} {st : St} {g : Nat} (h : st.o g = .none) : (plainify gs st).o g = .none := by
  simp only [plainify, plO, h]
  split
  · simp [Fw.freeze, plainO, h]
  · rfl
theorem Rel.plain (h : Rel E st gh val w) (gs : List Nat) (hgs : Frz st.o gs) : Rel E (plainify gs st) gh val w := by
  have h1 := (h.freezes gs hgs).1
  have hss : (st.upd (gs.map (Fw.freeze st.o)) []).s = st.s := rfl
  have hun : ∀ g, (st.upd (gs.map (Fw.freeze st.o)) []).used g = st.used g := fun g => by simp [St.upd]
  have key := plainify_o gs st
  have hfr := fun g => freezes_o (st := st) gs g
  generalize hst1 : st.upd (gs.map (Fw.freeze st.o)) [] = st1 at h1 hss hun key hfr
  have own : ∀ g, ((plainify gs st).o g).owned = (st1.o g).owned := fun g => by
    rcases key g with ⟨e, _⟩ | ⟨ws, _, e1, e2⟩
    · rw [e]
    · rw [e1, e2]; rfl
  have dim : ∀ g, ((plainify gs st).o g).dim = (st1.o g).dim := fun g => by
    rcases key g with ⟨e, _⟩ | ⟨ws, _, e1, e2⟩
    · rw [e]
    · rw [e1, e2]; rfl
  have inner : ∀ g, ((plainify gs st).o g).inner = (st1.o g).inner := fun g => by
    rcases key g with ⟨e, _⟩ | ⟨ws, _, e1, e2⟩
    · rw [e]
    · rw [e1, e2]; rfl
  have isd : ∀ g, ((plainify gs st).o g).isDeep = (st1.o g).isDeep := fun g => by
    rcases key g with ⟨e, _⟩ | ⟨ws, _, e1, e2⟩
    · rw [e]
    · rw [e1, e2]; rfl
  have obox : ∀ g ws, (plainify gs st).o g = .box ws → ∃ ws', st1.o g = .box ws' := fun g ws hg => by
    rcases key g with ⟨e, _⟩ | ⟨ws', _, e1, e2⟩
    · rw [e] at hg; exact ⟨ws, hg⟩
    · exact ⟨ws', e1⟩
  have oit : ∀ g s n, (plainify gs st).o g = .it s n → st1.o g = .it s n := fun g s n hg => by
    rcases key g with ⟨e, _⟩ | ⟨ws', _, e1, e2⟩
    · rw [e] at hg; exact hg
    · rw [e2] at hg; cases hg
  have hok : E.ok (plainify gs st) gh w = E.ok st1 gh w := by funext a i b; simp only [Env.ok, own]
  have hp : ∀ {g a i sz l}, gs.contains g = true → plainO st.o g = some (a, i, sz, l) → st1.o g = .arr true a i sz l := fun {g a i sz l} hc hpl => by
    rw [hfr, if_pos (by simpa using hc), freeze_some hpl]
  have same : ∀ {x : W} {v : Value}, RepW E st1 gh w x v → RepW E (plainify gs st) gh w x v := by
    intro x v r
    induction r with
    | p a i x v hx => exact .p a i x v (by rw [hok]; exact hx)
    | nils => exact .nils
    | own g v hv hx => exact .own g v hv fun sz len hg => hx sz len (by rw [← dim]; exact hg)
    | vw g lo hi v hv hx => exact .vw g lo hi v hv fun sz len hg => hx sz len (by rw [← dim]; exact hg)
    | box g off v hv hx => exact .box g off v hv fun ws hg => by obtain ⟨ws', e⟩ := obox g ws hg; exact hx ws' e
    | ep g n off v hv hx => exact .ep g n off v hv fun sz len hg => hx sz len (by rw [← dim]; exact hg)
    | sp a i row off b o hb hx => exact .sp a i row off b o (by rw [hok]; exact hb) (by rw [hok]; exact hx)
    | gl g => exact .gl g
    | itp g v hv hx => exact .itp g v hv fun s n hg => hx s n (oit g s n hg)
    | gd b x v hx ih => exact .gd b x v ih
    | clo f caps vs hl hx ih => exact .clo f caps vs hl ih
    | no v => exact .no v
  have sameA : ∀ {a i : Bool} {sz : Nat} {l : List (List P)} {G : Gh}, ArrAt E st1 gh w a i sz l G → ArrAt E (plainify gs st) gh w a i sz l G := by
    intro a i sz l G r
    simpa only [ArrAt, hok] using r
  have wd : ∀ {x : W} {v : Value}, RepW E st1 gh w x v → RepW E (plainify gs st) gh w (plW gs st.o x) v := by
    intro x v r
    unfold plW
    split
    · rename_i g
      split
      · rename_i hc
        split
        · rename_i a i sz l hpl
          have ho1 := hp hc hpl
          cases r with
          | own _ _ hv hx =>
            have hv := hx _ _ (O.dim_arr ho1)
            have hO := h1.objs g
            rw [ho1] at hO
            rw [hv]
            exact .p a i _ _ (by rw [hok]; exact RepP.mkSl hO)
        · exact same r
      · exact same r
    · rename_i g lo hi
      split
      · rename_i hc
        split
        · rename_i a i sz l hpl
          have ho1 := hp hc hpl
          cases r with
          | vw _ _ _ _ hv hx =>
            obtain ⟨n, m, c, rfl, rfl, q1, q2, qc, he⟩ := hx _ _ (O.dim_arr ho1)
            have hO := h1.objs g
            rw [ho1] at hO
            rw [he]
            have e1 : (P.int .i64 (n : Int)).nat = n := by simp [P.nat, P.num]
            have e2 : (P.int .i64 (m : Int)).nat = m := by simp [P.nat, P.num]
            rw [e1, e2]
            exact .p a i _ _ (by rw [hok]; exact RepP.mkSl ((RepP.sub hO q1 q2).recap (by simp; omega)))
        · exact same r
      · exact same r
    · exact same r
  have wV : ∀ {x : V} {v : Value}, RepV E st1 gh w x v → RepV E (plainify gs st) gh w (plV gs st.o x) v := by
    intro x v r
    cases r with
    | one x v r => exact .one _ _ (wd r)
    | agg xs cs hl hv hr =>
      refine .agg _ cs (by simpa using hl) hv fun j x v hx hv => ?_
      simp only [List.getElem?_map, Option.map_eq_some_iff] at hx
      obtain ⟨y, hy, rfl⟩ := hx
      exact wd (hr j y v hy hv)
  refine ⟨fun t => ?_, fun g => ?_, ?_, ?_, ?_, ?_, h1.wb, h1.frame, h1.size, h1.os, h1.tape, h1.output, ?_, ?_, ?_⟩
  · have hs := h1.slots t
    rw [hss] at hs
    show RepS E _ gh w (plS gs st.o (st.s t)) (val t)
    cases hs' : st.s t with
    | v x => rw [hs'] at hs; cases hs with | v _ _ r => exact .v _ _ (wV r)
    | tup xs =>
      rw [hs'] at hs
      generalize hval : val t = vt at hs
      cases hs with
      | tup _ vs hl hr =>
        refine .tup _ vs (by simpa using hl) fun j x v hx hv => ?_
        simp only [List.getElem?_map, Option.map_eq_some_iff] at hx
        obtain ⟨y, hy, rfl⟩ := hx
        exact wV (hr j y v hy hv)
    | no => exact .no _
  · have hO := h1.objs g
    rcases key g with ⟨e, _⟩ | ⟨ws', _, e1, e2⟩
    · rw [e]
      generalize st1.o g = x at hO
      cases x with
      | none => trivial
      | box ws =>
        obtain ⟨ad, c, ty, a1, a2, a3, a4, a5⟩ := hO
        exact ⟨ad, c, ty, a1, a2, a3, a4, fun j x hx => let ⟨v, b1, b2, b3⟩ := a5 j x hx; ⟨v, b1, b2, same b3⟩⟩
      | arr fz a i sz l =>
        cases fz with
        | false => exact sameA hO
        | true => simpa only [RepO, hok] using hO
      | deep a i sz cols l hole =>
        rcases hO with hO | ⟨ad, c, ty, a1, a2, a3, a4, a5, a6, a7, a8⟩
        · exact .inl hO
        · refine .inr ⟨ad, c, ty, a1, a2, a3, a4, a5, a6, a7, fun n x hx j y hy => ?_⟩
          obtain ⟨v, hv, hr⟩ := a8 n x hx j y hy
          refine ⟨v, hv, ?_⟩
          unfold EntAt at *
          cases hcj : cols.lookup j with
          | none => rw [hcj] at hr; exact (by rw [hok]; exact hr : RepP w (E.ok (plainify gs st) gh w a i) y v)
          | some sz' =>
            rw [hcj] at hr
            simp only at *
            cases hh : holeAt hole n j with
            | some d => rw [hh] at hr; exact ⟨hr.1, same hr.2⟩
            | none =>
              rw [hh] at hr
              obtain ⟨l', ao, k, q1, q2, q3, q4⟩ := hr
              exact ⟨l', ao, k, q1, q2, sameA q3, q4⟩
      | it s n => exact hO
    · rw [e2]
      rw [e1] at hO
      obtain ⟨ad, c, ty, a1, a2, a3, a4, a5⟩ := hO
      refine ⟨ad, c, ty, a1, a2, a3, by simpa using a4, fun j x hx => ?_⟩
      simp only [List.getElem?_map, Option.map_eq_some_iff] at hx
      obtain ⟨y, hy, rfl⟩ := hx
      obtain ⟨v, b1, b2, b3⟩ := a5 j y hy
      exact ⟨v, b1, b2, wd b3⟩
  · intro g g' b ha ha'
    rw [own] at ha ha'
    exact h1.inj g g' b ha ha'
  · intro g b ha
    rw [own] at ha
    exact h1.wr g b ha
  · intro g i b hg
    rw [inner] at hg
    exact h1.wi g i b hg
  · intro g ho hd
    rw [own] at ho
    rw [isd] at hd
    exact h1.ns g ho hd
  · intro t g hg
    exact h.us t g (plS_names hg)
  · intro g g' hg
    rcases key g with ⟨e, _⟩ | ⟨ws', e0, e1, e2⟩
    · rw [e] at hg
      have := h1.uo g g' hg
      rw [hun] at this; exact this
    · rw [e2] at hg
      simp only [O.names, List.mem_flatMap, List.mem_map] at hg
      obtain ⟨_, ⟨x, hx, rfl⟩, hg⟩ := hg
      exact h.uo g g' (by rw [e0]; simp only [O.names, List.mem_flatMap]; exact ⟨x, hx, plW_names hg⟩)
  · intro g hg
    exact h.ul g fun e => hg (plainify_none e)
theorem plain_ok {gs : List Nat} {w : World} {gh : Nat → Gh} {st : St} {E : Env} {a i : Bool} {b : Nat} (h : E.ok st gh w a i b) : E.ok (plainify gs st) gh w a i b := by
  refine ⟨h.1, h.2.1, fun g ho had => h.2.2 g ?_ had⟩
  rcases plainify_o gs st g with ⟨e, _⟩ | ⟨ws, e, _⟩
  · rw [e, freezes_o] at ho
    split at ho
    · cases hp : plainO st.o g with
      | none => simpa [Fw.freeze, hp] using ho
      | some x => obtain ⟨a, i, sz, l⟩ := x; rw [freeze_some hp] at ho; cases ho
    · exact ho
  · rw [e]; rfl
theorem Rel.norm (h : Rel E st gh val w) (hs gs : List Nat) (hgs : frzB (Fw.shuts hs st).o gs = true) :
    ∃ gh', Rel E (plainify gs (Fw.shuts hs st)) gh' val w ∧ (∀ x, (gh' x).ad = (gh x).ad ∧ (gh' x).cap = (gh x).cap) ∧ (∀ a i b, E.ok st gh w a i b → E.ok (plainify gs (Fw.shuts hs st)) gh' w a i b) ∧
      ∀ g, st.o g = .none → (plainify gs (Fw.shuts hs st)).o g = .none := by
  obtain ⟨gh', h1, l1, e1⟩ := h.shuts hs
  exact ⟨gh', h1.plain gs (frzB_spec hgs), e1, fun a i b hb => plain_ok (l1.ok a i b hb).1, fun g hg => plainify_none (shuts_none hs hg)⟩
end
end Go.Fw
namespace Go.Fw
open Go.RowKit
set_option linter.unusedSectionVars false
set_option linter.unusedVariables false
set_option linter.unusedSimpArgs false
variable [Globs]
def FR (ro : Option Nat) : Fence := { Fence.wide with round := ro }
theorem FR_fn (ro : Option Nat) (f : FuncId) : (FR ro).fn f := trivial
section
variable {Pg : Program} {ro : Option Nat} {n : Nat} {ops : Array Oper} {Q : Exit → Act → World → Prop}
theorem callsIn_FR {f : FuncId} {args : Array Value} {w : World} {R : Ending → World → Prop} (h : Calls Pg f args w R) : CallsIn (FR ro) n Pg f args w R := callsIn_wide.2 h
theorem calls_FR {f : FuncId} {args : Array Value} {w : World} {R : Ending → World → Prop} (h : CallsIn (FR ro) n Pg f args w R) : Calls Pg f args w R := callsIn_wide.1 h
theorem rowsIn_FR {row : String} {args : Array Value} {w : World} {R : Value → World → Prop} (h : Rows Pg row args w R) : RowsIn (FR ro) n Pg row args w R := by
  intro c cs _
  obtain ⟨v, w', h1, h2⟩ := h c cs
  exact ⟨v, w', h1, stepsIn_wide.2 h2⟩
theorem opIn {o : Oper} (ho : ∀ c, o.op ≠ .defer c) {a : Act} {w : World} {K K' : Act → World → Prop} (hK : ∀ a w, K a w → K' a w) (h : o.wp Pg a w K Q) : o.wpIn (FR ro) n Pg a w K' Q := by
  refine ⟨fun _ _ => trivial, ?_⟩
  rw [Oper.semAt_eq _ _ _ ho]
  unfold Oper.wp at h
  have hd : (FR ro).depth.isSome = true → 1 ≤ n := fun e => absurd e (by simp [FR, Fence.wide])
  generalize (execOp a.eval o).run Pg w = r at *
  cases r with
  | ok x w' =>
    cases x <;> simp only [Oper.upon] at h <;> simp only [Oper.uponIn]
    all_goals first
      | exact hK _ _ h
      | exact ⟨hd, callsIn_FR (Calls.mono h fun e w'' he => by cases e <;> first | exact hK _ _ he | exact he)⟩
      | exact ⟨hd, rowsIn_FR (Rows.mono h fun v w'' he => hK _ _ he)⟩
  | halt x w' => cases x <;> simp only [Oper.upon] at h <;> simp only [Oper.uponIn] <;> exact h
theorem opInOp (ho : ∀ o ∈ ops.toList, ∀ c, o.op ≠ .defer c) (hlo : ¬ LetsOut Q) {i : Nat} {a : Act} {w : World} {K K' : Act → World → Prop} (hK : ∀ a w, K a w → K' a w) (h : wpOp Pg ops Q i K a w) : wpOpIn (FR ro) n Pg ops Q i K' a w := by
  unfold wpOp at h
  unfold wpOpIn
  cases hi : ops[i]? with
  | none => rw [hi] at h; exact hK _ _ h
  | some o =>
    rw [hi] at h
    simp only at h ⊢
    split
    · rename_i hw
      rw [if_pos hw] at h
      rcases h with h | h
      · exact opIn (ho o (by have := (Array.getElem?_eq_some_iff.1 hi).2; rw [← this]; simp)) hK h
      · exact absurd h.2 hlo
    · rename_i hw
      rw [if_neg hw] at h
      exact ⟨fun _ _ => trivial, hK _ _ h⟩
theorem opsIn (ho : ∀ o ∈ ops.toList, ∀ c, o.op ≠ .defer c) (hlo : ¬ LetsOut Q) : ∀ (is : List Nat) (a : Act) (w : World), wpOps Pg ops Q is a w → wpOpsIn (FR ro) n Pg ops Q is a w
  | [], a, w, h => h
  | i :: is, a, w, h => by
    rw [wpOps_cons] at h
    rw [wpOpsIn_cons]
    exact opInOp ho hlo (fun a w => opsIn ho hlo is a w) h
theorem anyIn {md : Region.Mode} (ho : ∀ o ∈ ops.toList, ∀ c, o.op ≠ .defer c) (hlo : ¬ LetsOut Q) : ∀ (fuel : Nat) (listed : Array Bool) (a : Act) (w : World), wpAny Pg md ops Q fuel listed a w → wpAnyIn (FR ro) n Pg md ops Q fuel listed a w
  | 0, listed, a, w, h => h
  | fuel + 1, listed, a, w, h => ⟨h.1, fun i hi => opInOp ho hlo (fun a w => anyIn ho hlo fuel _ a w) (h.2 i hi)⟩
end
omit [Globs] in
def P.lv : P → Value
  | .int k n => .int k n
  | .bool b => .bool b
  | .str s => .string s
  | _ => undef
def P.lit : P → Bool
  | .int _ _ => true
  | .bool _ => true
  | .str _ => true
  | _ => false
theorem P.lit_rep {w : World} {ok : Nat → Prop} {x : P} (h : x.lit = true) : RepP w ok x x.lv := by
  cases x <;> first | exact .int _ _ | exact .bool _ | exact .str _ | cases h
omit [Globs] in
def IterOf (Pg : Program) (w : World) (S : List Nat) (rows : List (List P)) (v : Value) : Prop :=
  ∃ gf lb, v = .func (.func gf) #[] lb ∧ (∀ (args : Array Value) (w : World), (callFunc gf args).run Pg w = .ok (.enter gf args) w) ∧
    ∀ (l : Nat) (J : Nat → List Nat → World → Prop) (W : World), (∀ k D A, J k D A → ∀ b ∈ S, A.heap[b]? = w.heap[b]?) → (∀ k D A B D', J k D A → Grows A B → (∀ b ∈ D', b ∈ D ∨ (A.heap.size ≤ b ∧ b < B.heap.size)) → J k D' B) →
      (∀ k row D A, rows[k]? = some row → J k D A → YieldAt Fence.wide 0 Pg l (row.map P.lv).toArray A fun e B => e = .returned (.bool true) ∧ J (k + 1) D B ∧ ∀ b ∈ D, B.heap[b]? = A.heap[b]?) →
      J 0 [] W → Calls Pg gf (#[.func (.yield l) #[] #[]] ++ lb) W fun e B => (∃ v, e = .returned v) ∧ ∃ D, J rows.length D B
omit [Globs] in
theorem IterOf.mono {Pg : Program} {w w' : World} {S : List Nat} {rows : List (List P)} {v : Value} (h : ∀ b ∈ S, w'.heap[b]? = w.heap[b]?) (hi : IterOf Pg w S rows v) : IterOf Pg w' S rows v := by
  obtain ⟨gf, lb, h1, h2, h3⟩ := hi
  exact ⟨gf, lb, h1, h2, fun l J W hJ => h3 l J W fun k D A hA b hb => (hJ k D A hA b hb).trans (h b hb)⟩
section
variable {Pg : Program}
theorem wp_range {g : Operand} {ps : Array Tmp} {x y : Code} {Q : Exit → Act → World → Prop} {a : Act} {w : World} {S : List Nat} {rows : List (List P)} (hit : IterOf Pg w S rows (a.eval g)) (hlen : ∀ row ∈ rows, row.length = ps.size)
    (J : Nat → List Nat → World → Prop) (hS : ∀ k D A, J k D A → ∀ b ∈ S, A.heap[b]? = w.heap[b]?) (hgrow : ∀ k D A B D', J k D A → Grows A B → (∀ b ∈ D', b ∈ D ∨ (A.heap.size ≤ b ∧ b < B.heap.size)) → J k D' B)
    (hturn : ∀ k D A b o o', w.heap.size ≤ b → b ∉ D → J k D A → A.heap[b]? = some o → quiet o = true → J k D (A.putObj b o')) (h0 : J 0 [] w)
    (hround : ∀ k row D A, rows[k]? = some row → J k D A → ∀ l, ∃ a₁, (∀ (K : Act → World → Prop) W, K a₁ W → x.wpIn (FR (some l)) 0 Pg (Exit.then K (fun _ _ _ => False)) { tmps := (ps.zip (row.map P.lv).toArray).foldl (fun t (p, v) => t.setIfInBounds p v) a.tmps, defers := [] } W) ∧
      y.wpIn (FR (some l)) 0 Pg (fun e _ B => e = .normal ∧ J (k + 1) D B ∧ (∀ b ∈ D, B.heap[b]? = A.heap[b]?) ∧ ∀ b o, A.heap[b]? = some o → quiet o = true → w.heap.size ≤ b → B.heap[b]? = some o) a₁ A)
    (hdone : ∀ D B D', w.heap.size ≤ D → J rows.length D' B → B.heap[D]? = some (.deferred (some [])) → Q .normal { a with defers := { target := .collected D, args := #[] } :: a.defers } B) :
    (Code.rangeFunc g ps x y).wp Pg Q a w := by
  obtain ⟨gf, lb, hg, eg, hseq⟩ := hit
  rw [← wpIn_wide (n := 1)]
  refine wpIn_rangeFunc ?_
  intro fn hfn
  obtain ⟨rec, hrec⟩ : ∃ rec : LoopState → Option Code → Loop, rec = fun st pe => { state := st, pending := pe, fn, tmps := a.tmps, params := ps, assign := x, body := y, defers := w.heap.size } := ⟨_, rfl⟩
  obtain ⟨W1, hW1⟩ : ∃ W1, (w.alloc (.deferred (some []))).alloc (.loop (rec .ready none)) = W1 := ⟨_, rfl⟩
  have hL1 : W1.heap[w.heap.size + 1]? = some (.loop (rec .ready none)) := by
    rw [← hW1]; have := World.alloc_heap_new (w.alloc (.deferred (some []))) (.loop (rec .ready none)); rwa [World.size_alloc] at this
  have hK1 : W1.heap[w.heap.size]? = some (.deferred (some [])) := by
    rw [← hW1]; exact (Below.heap_alloc _ _ _ (by simp)).trans (World.alloc_heap_new w _)
  have hJ1 : J 0 [] W1 := by rw [← hW1]; exact hgrow _ _ _ _ [] (hgrow _ _ _ _ [] h0 (Grows.alloc _ _) (fun b hb => by cases hb)) (Grows.alloc _ _) (fun b hb => by cases hb)
  refine ⟨w.heap.size + 1, [{ target := .collected w.heap.size, args := #[] }], W1, { target := .fn (.func gf) lb, args := #[.func (.yield (w.heap.size + 1)) #[] #[]] }, W1, gf,
    #[.func (.yield (w.heap.size + 1)) #[] #[]] ++ lb, W1, ?_, ?_, fun _ _ => trivial, ?_, fun _ => Nat.le_refl _, ?_⟩
  · rw [← hW1, hrec]; exact run_enterLoop_outer _ _ _ _ _
  · simp only [resolve, hg]
    simp [go_sem]
  · simp [invoke, go_sem, eg]
  refine callsIn_wide.2 (Calls.mono (hseq (w.heap.size + 1)
      (fun k D A => J k D A ∧ A.heap[w.heap.size + 1]? = some (.loop (rec .ready none)) ∧ A.heap[w.heap.size]? = some (.deferred (some [])) ∧ ∀ b ∈ D, w.heap.size + 1 < b)
      W1 (fun k D A h => hS k D A h.1) (fun k D A B D' h hg hD => ?_) ?_ ⟨hJ1, hL1, hK1, fun b hb => by cases hb⟩) ?_)
  · have lt : ∀ {i o}, A.heap[i]? = some o → i < A.heap.size := fun h => (Array.getElem?_eq_some_iff.1 h).1
    refine ⟨hgrow k D A B D' h.1 hg hD, (hg.same _ (lt h.2.1)).trans h.2.1, (hg.same _ (lt h.2.2.1)).trans h.2.2.1, fun b hb => ?_⟩
    rcases hD b hb with hb | hb
    · exact h.2.2.2 b hb
    · exact Nat.lt_of_lt_of_le (lt h.2.1) hb.1
  · rintro k row D A hrow ⟨hj, hl, hk, hD⟩
    have hy := run_yield (P := Pg) (args := (row.map P.lv).toArray) hl (by rw [hrec]; simpa using hlen row (List.mem_of_getElem? hrow))
    rw [hrec] at hy
    have hlt : w.heap.size + 1 < A.heap.size := (Array.getElem?_eq_some_iff.1 hl).1
    have hnD : w.heap.size + 1 ∉ D := fun hm => Nat.lt_irrefl _ (hD _ hm)
    have hnD2 : ∀ b ∈ D, b ≠ w.heap.size + 1 := fun b hb e => hnD (e ▸ hb)
    have hj2 : J k D (A.putObj (w.heap.size + 1) (.loop { rec .ready none with state := .busy })) := hturn _ _ _ _ _ _ (by omega) hnD hj hl rfl
    obtain ⟨a₁, hx, hbody⟩ := hround k row D _ hrow hj2 (w.heap.size + 1)
    refine ⟨fn, _, x, y, hy, roundIn_of_wpIn hfn (hx _ _ ⟨_, run_beginRound hl (by rw [hrec]), wpIn_mono hbody ?_⟩)⟩
    rintro e a3 B ⟨rfl, hj3, hkD, hkeep⟩
    have hl2 : (A.putObj (w.heap.size + 1) (.loop { rec .ready none with state := .busy })).heap[w.heap.size + 1]? = some (.loop { rec .ready none with state := .busy }) := World.putObj_heap_same hlt
    have hk2 : (A.putObj (w.heap.size + 1) (.loop { rec .ready none with state := .busy })).heap[w.heap.size]? = some (.deferred (some [])) := (World.putObj_heap_other (by omega)).trans hk
    have hl3 := hkeep _ _ hl2 rfl (by omega)
    have hk3 := hkeep _ _ hk2 rfl (by omega)
    have hr := run_endRound (P := Pg) none hl3
    refine ⟨_, _, hr, rfl, ⟨hturn _ _ _ _ _ _ (by omega) hnD hj3 hl3 rfl, ?_, (World.putObj_heap_other (by omega)).trans hk3, hD⟩, fun b hb => ?_⟩
    · rw [World.putObj_heap_same (Array.getElem?_eq_some_iff.1 hl3).1, hrec]; rfl
    · rw [World.putObj_heap_other (hnD2 b hb), hkD b hb, World.putObj_heap_other (hnD2 b hb)]
  · rintro e B ⟨⟨v, rfl⟩, D, hj, hl, hk, hD⟩
    have hnD : w.heap.size + 1 ∉ D := fun hm => Nat.lt_irrefl _ (hD _ hm)
    refine ⟨none, _, by have := run_endLoop (P := Pg) hl (by rw [hrec]; simp); rw [hrec] at this; exact this, hdone _ _ D (Nat.le_refl _) (hturn _ _ _ _ _ _ (by omega) hnD hj hl rfl) ((World.putObj_heap_other (by omega)).trans hk)⟩
end
end Go.Fw
namespace Go.Fw
set_option linter.unusedSectionVars false
open Go.RowKit
variable [Globs]
set_option linter.unusedVariables false
set_option linter.unusedSimpArgs false
structure Kont where
  n : St → Prop
  x : Nat → St → Prop
  r : St → Prop
def keeps (ios : List Nat) (j : Shape) (m : Ren) : Bool := ios.all fun g => j.nms.contains g && (match m.lookup g with
  | some (some g') => Nat.beq g' g
  | _ => false)
inductive Back (ios : List Nat) (j : Shape) (st : St) (G : List P → Prop) : Prop where
  | mk (hs gs : List Nat) (m : Ren) (vs : List P) (hgs : frzB (Fw.shuts hs st).o gs = true) (hm : keeps ios j m = true) (h : coerce j m (plainify gs (Fw.shuts hs st)) = some vs) (hG : G vs)
inductive LoopW (ios : List Nat) (body : St → Kont → Prop) (st : St) (K : Kont) : Prop where
  | mk (j : Shape) (I : List P → Prop) (μ : List P → Nat) (h0 : Back ios j st I) (round : ∀ us, I us → body (Fw.mk j us) { n := fun st' => Back ios j st' fun vs => I vs ∧ μ vs < μ us, x := K.x, r := K.r })
inductive Wk (ios : List Nat) (K : St → Prop) (st : St) : Prop where
  | now (h : K st)
  | back (j : Shape) (h : Back ios j st fun vs => K (Fw.mk j vs))
def asgTmp : Op → Option Tmp
  | .assign (.tmp t) => some t
  | .move (.tmp t) => some t
  | _ => none
def asgSt (N : Nat) : Code → St → Option St
  | .skip, st => some st
  | .region _ ops false, st => match ops.toList with
    | [o] => match o.guard, o.dst, asgTmp o.op with
      | none, some d, some t => if d < N then some (st.put (some d) (st.s t)) else none
      | _, _, _ => none
    | _ => none
  | .seq x y, st => match asgSt N x st with
    | some st' => asgSt N y st'
    | none => none
  | _, _ => none
def asgAct : Code → Act → Act
  | .region _ ops _, a => match ops.toList with
    | [o] => match o.dst, asgTmp o.op with
      | some d, some t => a.put (some d) (a.tmps.getD t undef)
      | _, _ => a
    | _ => a
  | .seq x y, a => asgAct y (asgAct x a)
  | _, a => a
def rowSt : List Tmp → List P → St → St
  | p :: ps, x :: xs, st => rowSt ps xs (st.put (some p) (.v (.one (.p false false x))))
  | _, _, st => st
def isDefer : Op → Bool
  | .defer _ => true
  | _ => false
def calm : Code → Bool
  | .skip => true
  | .region _ ops _ => ops.toList.all fun o => !isDefer o.op
  | .seq x y => calm x && calm y
  | .cond _ x y => calm x && calm y
  | .block _ c => calm c
  | .loop c => calm c
  | .exit _ => true
  | .ret => true
  | .label _ => true
  | _ => false
def endSt (st : St) : St := { s := fun _ => .no, o := st.o, used := st.used }
def roundW (N : Nat) (body : List Nat → St → Kont → Prop) (ps : List Tmp) (x : Code) (row : List P) (st : St) (K : St → Prop) : Prop :=
  ∃ (sg : Sig) (st1 : St) (c : CIn) (outs : List P) (d : Nat), sg.ok = true ∧ ((sg.ios.all fun g => sg.pin.nms.contains g) && sg.boxy) = true ∧ sg.nres = 0 ∧ asgSt N x (rowSt ps row st) = some st1 ∧
    argsIn sg st.o ((List.range N).map st1.s) = some c ∧ c.fine sg = true ∧
    body sg.ios (Fw.mk sg.pin c.ins) { n := fun st2 => Back sg.ios sg.pout (endSt st2) fun vs => vs = outs, x := fun _ _ => False, r := fun _ => False } ∧
    (∀ g ∈ (callEff sg d st.o c outs).new, st.used g = false) ∧ K (st.upd (callEff sg d st.o c outs).upd (callEff sg d st.o c outs).new)
inductive RangeW (ios : List Nat) (rows : List (List P)) (round : List P → St → (St → Prop) → Prop) (st : St) (K : St → Prop) : Prop where
  | mk (j : Shape) (I : Nat → List P → Prop) (h0 : Back ios j st (I 0)) (hr : ∀ k row us, rows[k]? = some row → I k us → round row (Fw.mk j us) fun st' => Back ios j st' (I (k + 1))) (hd : ∀ us, I rows.length us → K (Fw.mk j us))
def exec (T : Tab) (tt : TT) (N : Nat) (ios : List Nat) : Code → St → Kont → Prop
  | .skip, st, K => K.n st
  | .region _ ops draw, st, K => regionW T tt N ops draw st (Wk ios K.n)
  | .seq x y, st, K => exec T tt N ios x st { n := fun st' => exec T tt N ios y st' K, x := K.x, r := K.r }
  | .cond c x y, st, K => match st.opnd c with
    | .v (.one (.p _ _ (.bool b))) => bif b then exec T tt N ios x st { n := Wk ios K.n, x := K.x, r := K.r } else exec T tt N ios y st { n := Wk ios K.n, x := K.x, r := K.r }
    | _ => False
  | .block id c, st, K => exec T tt N ios c st { n := Wk ios K.n, x := fun id' st' => bif Nat.beq id' id then Wk ios K.n st' else K.x id' st', r := K.r }
  | .loop c, st, K => LoopW ios (exec T tt N ios c) st K
  | .exit id, st, K => K.x id st
  | .ret, st, K => K.r st
  | .label _, st, K => K.n st
  | .rangeFunc g ps x y, st, K => calm y = true ∧ match st.opnd g with
    | .v (.one (.p _ _ (.seq rows))) => (rows.all fun r => Nat.beq r.length ps.size && r.all P.lit) = true ∧ (ps.toList.all fun p => Nat.blt p N) = true ∧
        RangeW ios rows (roundW N (fun ios' st' K' => exec T tt N ios' y st' K') ps.toList x) st (Wk ios K.n)
    | _ => False
  | _, _, _ => False
structure Fit (Pg : Program) : Prop where
  mixed : Pg.follows .mixedOrders = true
  sq : ∀ w S l v, Globs.sq w S l v → IterOf Pg w S l v
section
variable {E : Env} {N : Nat} {ios : List Nat} {gh0 : Nat → Gh} {Pg : Program} {T : Tab} {tt : TT}
structure Knt (E : Env) (N : Nat) (ios : List Nat) (gh0 : Nat → Gh) (K : Kont) (Q : Exit → Act → World → Prop) : Prop where
  n : ∀ st a w, K.n st → Good E N ios gh0 st a w → Q .normal a w
  x : ∀ id st a w, K.x id st → Good E N ios gh0 st a w → Q (.exit id) a w
  r : ∀ st a w, K.r st → Good E N ios gh0 st a w → Q .ret a w
theorem Back.good {j : Shape} {st : St} {G : List P → Prop} (h : Back ios j st G) {a : Act} {w : World} (hg : Good E N ios gh0 st a w) : ∃ vs, G vs ∧ Good E N ios gh0 (Fw.mk j vs) a w := by
  obtain ⟨hs, gs, m, vs, hgs, hm, h, hG⟩ := h
  obtain ⟨⟨gh, hR, hio⟩, hsz, hdf⟩ := hg
  obtain ⟨gh', hR, e1, _, e3⟩ := hR.norm hs gs hgs
  have hr := coerce_recast h
  refine ⟨vs, hG, ⟨reGh gh' (renF j m), hR.recast hr, fun g hg => ?_⟩, hsz, hdf⟩
  have := (List.all_eq_true.1 hm) g hg
  simp only [Bool.and_eq_true] at this
  obtain ⟨h1, h2⟩ := this
  refine ⟨h1, ?_⟩
  have hF : renF j m g = some g := by
    unfold renF
    rw [if_pos h1]
    split at h2
    · rename_i g' hl
      rw [hl, Nat.eq_of_beq_eq_true h2]; rfl
    · cases h2
  have ho := hr.objs g g hF
  rcases (hio g hg).2 with e | e
  · have e := e3 g e
    rw [e] at ho
    generalize (Fw.mk j vs).o g = z at ho
    cases ho; exact .inl rfl
  · exact .inr (by simp only [reGh, hF]; exact ⟨(e1 g).1.trans e.1, (e1 g).2.trans e.2⟩)
theorem Wk.good {K : St → Prop} {st : St} (h : Wk ios K st) {a : Act} {w : World} (hg : Good E N ios gh0 st a w) : ∃ st', K st' ∧ Good E N ios gh0 st' a w := by
  cases h with
  | now h => exact ⟨st, h, hg⟩
  | back j h =>
    obtain ⟨vs, h1, h2⟩ := h.good hg
    exact ⟨_, h1, h2⟩
theorem Knt.wk {K : Kont} {Q : Exit → Act → World → Prop} (h : Knt E N ios gh0 K Q) : Knt E N ios gh0 { n := Wk ios K.n, x := K.x, r := K.r } Q :=
  ⟨fun st a w hk hg => let ⟨st', h1, h2⟩ := hk.good hg; h.n st' a w h1 h2, h.x, h.r⟩
theorem region_soundIn {ro : Option Nat} {n : Nat} {Q : Exit → Act → World → Prop} {st : St} {a : Act} {w : World} {ops : Array Oper} (hT : ∀ f sp, T f = some sp → Sound Pg f sp) (htt : TTok Pg tt) (hm : Pg.follows .mixedOrders = true) {id : Nat} {draw : Bool} {K : St → Prop} (hcm : calm (.region id ops draw) = true) (h : regionW T tt N ops draw st K) (hg : Good E N ios gh0 st a w)
    (hK : ∀ st' a' w', K st' → Good E N ios gh0 st' a' w' → Q .normal a' w') : (Code.region id ops draw).wpIn (FR ro) n Pg Q a w := by
  have hnd : ∀ o ∈ ops.toList, ∀ c, o.op ≠ .defer c := fun o ho c e => by
    have := List.all_eq_true.1 hcm o ho
    rw [e] at this; cases this
  have hlo : ¬ LetsOut (fun e a w => e = .normal ∧ Q .normal a w) := fun ⟨_, _, e, _⟩ => by cases e
  refine wpIn_mono (Q := fun e a w => e = .normal ∧ Q .normal a w) ?_ fun e a w h => by obtain ⟨rfl, h⟩ := h; exact h
  rcases region_ops (Q := fun e a w => e = .normal ∧ Q .normal a w) hT htt h hg fun st' a' w' q hg' => ⟨rfl, hK st' a' w' q hg'⟩ with ⟨e, h2⟩ | ⟨e, h2⟩
  · rw [e]; exact wpIn_region (opsIn hnd hlo _ _ _ h2)
  · rw [e]; exact wpIn_region_any hm (anyIn hnd hlo _ _ _ _ h2)
theorem exec_soundIn (hT : ∀ f sp, T f = some sp → Sound Pg f sp) (htt : TTok Pg tt) (hm : Pg.follows .mixedOrders = true) (ro : Option Nat) (n : Nat) : ∀ (c : Code) {st : St} {K : Kont} {Q : Exit → Act → World → Prop} {a : Act} {w : World},
    calm c = true → exec T tt N ios c st K → Good E N ios gh0 st a w → Knt E N ios gh0 K Q → c.wpIn (FR ro) n Pg Q a w := by
  intro c
  induction c with
  | skip => intro st K Q a w hcm h hg hK; exact wpIn_skip (hK.n _ _ _ h hg)
  | region id ops draw => intro st K Q a w hcm h hg hK; exact region_soundIn hT htt hm hcm h hg fun st' a' w' q hg' => hK.wk.n _ _ _ q hg'
  | seq x y ihx ihy =>
    intro st K Q a w hcm h hg hK
    simp only [calm, Bool.and_eq_true] at hcm
    refine wpIn_seq (ihx hcm.1 h hg ⟨fun st' a' w' q hg' => ihy hcm.2 q hg' hK, fun id st' a' w' q hg' => hK.x _ _ _ _ q hg', fun st' a' w' q hg' => hK.r _ _ _ q hg'⟩)
  | cond c x y ihx ihy =>
    intro st K Q a w hcm h hg hK
    simp only [calm, Bool.and_eq_true] at hcm
    simp only [exec] at h
    split at h
    · rename_i a1 i1 b hc
      obtain ⟨gh, hR, _⟩ := hg.ex
      have hv := opnd_rep hR c
      rw [hc] at hv
      have hv := hv.p_inv.bool_inv
      refine wpIn_cond_split hv (fun hb => ?_) (fun hb => ?_)
      · subst hb; exact ihx hcm.1 h hg hK.wk
      · subst hb; exact ihy hcm.2 h hg hK.wk
    · cases h
  | block id c ih =>
    intro st K Q a w hcm h hg hK
    refine wpIn_block (ih hcm h hg ⟨fun st' a' w' q hg' => hK.wk.n _ _ _ q hg', fun id' st' a' w' q hg' => ?_, fun st' a' w' q hg' => hK.r _ _ _ q hg'⟩)
    simp only [Exit.inBlock]
    by_cases e : id' = id
    · subst e
      rw [if_pos rfl]
      have : Nat.beq id' id' = true := by simp
      simp only [this] at q
      exact hK.wk.n _ _ _ q hg'
    · rw [if_neg e]
      have : Nat.beq id' id = false := by cases hb : Nat.beq id' id with | false => rfl | true => exact absurd (Nat.eq_of_beq_eq_true hb) e
      simp only [this] at q
      exact hK.x _ _ _ _ q hg'
  | loop c ih =>
    intro st K Q a w hcm h hg hK
    obtain ⟨j, I, μ, h0, round⟩ := (show LoopW ios (exec T tt N ios c) st K from h)
    obtain ⟨us, hI, hg0⟩ := h0.good hg
    refine wpIn_loop_rounds (μ us + 1) ?_
    have key : ∀ k us, I us → μ us < k → ∀ a w, Good E N ios gh0 (Fw.mk j us) a w → Code.roundsIn (FR ro) n Pg c Q k a w := by
      intro k
      induction k with
      | zero => intro us _ h; omega
      | succ k ihn =>
        intro us hI hlt a w hg
        refine ih hcm (round us hI) hg ⟨fun st' a' w' q hg' => ?_, fun id st' a' w' q hg' => hK.x _ _ _ _ q hg', fun st' a' w' q hg' => hK.r _ _ _ q hg'⟩
        obtain ⟨vs, ⟨h1, h2⟩, h3⟩ := Back.good q hg'
        exact ihn vs h1 (by omega) _ _ h3
    exact key _ us hI (by omega) a w hg0
  | exit id => intro st K Q a w hcm h hg hK; exact wpIn_exit (hK.x _ _ _ _ h hg)
  | ret => intro st K Q a w hcm h hg hK; exact wpIn_ret (hK.r _ _ _ h hg)
  | label l => intro st K Q a w hcm h hg hK; exact wpIn_label (hK.n _ _ _ h hg)
  | _ => intro st K Q a w hcm; cases hcm
theorem back_out {sp : Sig} {st : St} {outs : List P} {gh1 : Nat → Gh} {rs : Nat → Value} {w' : World} (hfin : Rel E st gh1 rs w') (hio1 : ∀ g ∈ sp.ios, st.used g = true ∧ (st.o g = .none ∨ ((gh1 g).ad = (gh0 g).ad ∧ (gh1 g).cap = (gh0 g).cap)))
    (hBk : Back sp.ios sp.pout st fun vs => vs = outs) : ∃ gh', Rel E (Fw.mk sp.pout outs) gh' rs w' ∧ ∀ g ∈ sp.ios, (gh' g).ad = (gh0 g).ad ∧ (gh' g).cap = (gh0 g).cap := by
  obtain ⟨hs, gs, m, vs, hgs, hkm, hco, rfl⟩ := hBk
  obtain ⟨gh2, hfin, e1, _, e3⟩ := hfin.norm hs gs hgs
  have hr := coerce_recast hco
  refine ⟨reGh gh2 (renF sp.pout m), hfin.recast hr, fun g hg => ?_⟩
  have := (List.all_eq_true.1 hkm) g hg
  simp only [Bool.and_eq_true] at this
  obtain ⟨h1, h2⟩ := this
  have hF : renF sp.pout m g = some g := by
    unfold renF
    rw [if_pos h1]
    split at h2
    · rename_i g' hl
      rw [hl, Nat.eq_of_beq_eq_true h2]; rfl
    · cases h2
  have ho := hr.objs g g hF
  have hbox : (Fw.mk sp.pout vs).o g ≠ .none := by
    have hm : g ∈ sp.pout.objs.map (·.1) := by simpa [Shape.nms] using h1
    obtain ⟨x, hxx⟩ := mkObjs_has (vs := vs) (n := (mkSlots vs 0 sp.pout.slots).2) hm
    have e : (Fw.mk sp.pout vs).o g = x := by
      show (match (mkObjs vs (mkSlots vs 0 sp.pout.slots).2 sp.pout.objs).1.lookup g with | some x => x | none => O.none) = x
      rw [hxx]
    obtain ⟨k, n', _, h2⟩ := mkObjs_mem hxx
    rw [e, h2]
    cases k <;> simp [mkO]
  rcases (hio1 g hg).2 with e | e
  · exfalso
    have e := e3 g e
    rw [e] at ho
    generalize (Fw.mk sp.pout vs).o g = z at ho hbox
    cases ho; exact hbox rfl
  · simp only [reGh, hF]; exact ⟨(e1 g).1.trans e.1, (e1 g).2.trans e.2⟩
structure Head (E : Env) (ios : List Nat) (gh0 : Nat → Gh) (a : Act) (S D : List Nat) (w0 : World) (st : St) (A : World) : Prop where
  ex : ∃ gh, Rel E st gh (fun t => a.tmps.getD t undef) A ∧ (∀ g ∈ ios, st.used g = true ∧ (st.o g = .none ∨ ((gh g).ad = (gh0 g).ad ∧ (gh g).cap = (gh0 g).cap))) ∧ ∀ b ∈ S ++ D, ∃ p q, E.ok st gh A p q b
  marks : Marks E a A
  keep : ∀ b ∈ S, A.heap[b]? = w0.heap[b]?
theorem Head.back {a : Act} {S D : List Nat} {w0 A : World} {j : Shape} {st : St} {G : List P → Prop} (h : Head E ios gh0 a S D w0 st A) (hb : Back ios j st G) : ∃ vs, G vs ∧ Head E ios gh0 a S D w0 (Fw.mk j vs) A := by
  obtain ⟨hs, gs, m, vs, hgs, hm, hc, hG⟩ := hb
  obtain ⟨⟨gh, hR, hio, hok⟩, hmk, hkp⟩ := h
  obtain ⟨gh', hR, e1, e2, e3⟩ := hR.norm hs gs hgs
  have hr := coerce_recast hc
  refine ⟨vs, hG, ⟨reGh gh' (renF j m), hR.recast hr, fun g hg => ?_, fun b hb => ?_⟩, hmk, hkp⟩
  · have := (List.all_eq_true.1 hm) g hg
    simp only [Bool.and_eq_true] at this
    obtain ⟨h1, h2⟩ := this
    refine ⟨h1, ?_⟩
    have hF : renF j m g = some g := by
      unfold renF
      rw [if_pos h1]
      split at h2
      · rename_i g' hl
        rw [hl, Nat.eq_of_beq_eq_true h2]; rfl
      · cases h2
    have ho := hr.objs g g hF
    rcases (hio g hg).2 with e | e
    · have e := e3 g e
      rw [e] at ho
      generalize (Fw.mk j vs).o g = z at ho
      cases ho; exact .inl rfl
    · exact .inr (by simp only [reGh, hF]; exact ⟨(e1 g).1.trans e.1, (e1 g).2.trans e.2⟩)
  · obtain ⟨p, q, h⟩ := hok b hb
    exact ⟨p, q, hr.ok _ _ _ _ b ⟨id, id⟩ (e2 _ _ _ h)⟩
def rowTmps : List Tmp → List P → Array Value → Array Value
  | p :: ps, x :: xs, t => rowTmps ps xs (t.setIfInBounds p x.lv)
  | _, _, t => t
theorem rowTmps_eq : ∀ (ps : List Tmp) (row : List P) (t : Array Value), row.length = ps.length → (ps.zip (row.map P.lv)).foldl (fun t (p : Tmp × Value) => t.setIfInBounds p.1 p.2) t = rowTmps ps row t
  | [], [], t, _ => rfl
  | p :: ps, x :: row, t, h => by
    simp only [List.map_cons, List.zip_cons_cons, List.foldl_cons, rowTmps]
    exact rowTmps_eq ps row _ (by simpa using h)
  | [], x :: row, t, h => by simp at h
  | p :: ps, [], t, h => by simp at h
theorem rowTmps_size : ∀ (ps : List Tmp) (row : List P) (t : Array Value), (rowTmps ps row t).size = t.size
  | p :: ps, x :: row, t => by simp only [rowTmps, rowTmps_size]; simp
  | [], row, t => by simp only [rowTmps]
  | p :: ps, [], t => by simp only [rowTmps]
theorem row_rel {gh : Nat → Gh} {w : World} : ∀ (ps : List Tmp) (row : List P) {st : St} {t : Array Value}, (row.all P.lit) = true → (∀ p ∈ ps, p < t.size) → Rel E st gh (fun k => t.getD k undef) w →
    Rel E (rowSt ps row st) gh (fun k => (rowTmps ps row t).getD k undef) w ∧ (rowSt ps row st).o = st.o ∧ (rowSt ps row st).used = st.used
  | p :: ps, x :: row, st, t, hl, hp, h => by
    simp only [List.all_cons, Bool.and_eq_true] at hl
    have h1 := h.put (some p) (x := .v (.one (.p false false x))) (v := x.lv) (.v _ _ (.one _ _ (.p _ _ _ _ (P.lit_rep hl.1)))) (by simp [S.names, V.names, W.names])
    have e : putVal (fun k => t.getD k undef) (some p) x.lv = fun k => (t.setIfInBounds p x.lv).getD k undef := by
      funext k
      have hlt := hp p (by simp)
      simp only [putVal, Array.getD_eq_getD_getElem?]
      by_cases e : k = p
      · subst e; simp [hlt]
      · rw [if_neg e, Array.getElem?_setIfInBounds_ne (Ne.symm e)]
    rw [e] at h1
    obtain ⟨q1, q2, q3⟩ := row_rel ps row hl.2 (fun p hp' => by simpa using hp p (by simp [hp'])) h1
    exact ⟨q1, q2, q3⟩
  | [], row, st, t, hl, hp, h => by simp only [rowSt, rowTmps]; exact ⟨h, trivial, trivial⟩
  | p :: ps, [], st, t, hl, hp, h => by simp only [rowSt, rowTmps]; exact ⟨h, trivial, trivial⟩
theorem asg_exec {op : Op} {t : Tmp} (h : asgTmp op = some t) : op = .assign (.tmp t) ∨ op = .move (.tmp t) := by
  unfold asgTmp at h
  split at h
  · simp only [Option.some.injEq] at h; subst h; exact .inl rfl
  · simp only [Option.some.injEq] at h; subst h; exact .inr rfl
  · cases h
theorem asg_sound {gh : Nat → Gh} {w : World} : ∀ (x : Code) {st st' : St} {a : Act}, asgSt N x st = some st' → a.tmps.size = N → Rel E st gh (fun k => a.tmps.getD k undef) w →
    Rel E st' gh (fun k => (asgAct x a).tmps.getD k undef) w ∧ (asgAct x a).tmps.size = N ∧ (asgAct x a).defers = a.defers ∧ st'.o = st.o ∧ st'.used = st.used ∧
    ∀ (ro : Option Nat) (n : Nat) (K : Act → World → Prop) (W : World), K (asgAct x a) W → x.wpIn (FR ro) n Pg (Exit.then K (fun _ _ _ => False)) a W := by
  intro x
  induction x with
  | skip =>
    intro st st' a h hsz hR
    simp only [asgSt, Option.some.injEq] at h; subst h
    exact ⟨hR, hsz, rfl, rfl, rfl, fun ro n K W hK => wpIn_skip hK⟩
  | region id ops draw =>
    intro st st' a h hsz hR
    cases draw with
    | true => simp [asgSt] at h
    | false =>
      simp only [asgSt] at h
      split at h
      · rename_i o hops
        split at h
        · rename_i d t hg hd ht
          split at h
          · rename_i hlt
            simp only [Option.some.injEq] at h; subst h
            have hact : asgAct (.region id ops false) a = a.put (some d) (a.tmps.getD t undef) := by simp only [asgAct, hops, hd, ht]
            rw [hact]
            have hv : (fun k => (a.put (some d) (a.tmps.getD t undef)).tmps.getD k undef) = putVal (fun k => a.tmps.getD k undef) (some d) (a.tmps.getD t undef) := vals_put _ _ fun d' e => by cases e; rw [hsz]; exact hlt
            refine ⟨by rw [hv]; exact hR.put _ (hR.slots t) (hR.us t), by rw [put_size]; exact hsz, put_defers _ _, rfl, rfl, fun ro n K W hK => ?_⟩
            have hsize : ops.size = 1 := by rw [← Array.length_toList, hops]; rfl
            have hi : ops[0]? = some o := by rw [← Array.getElem?_toList, hops]; rfl
            refine wpIn_region ?_
            rw [hsize]
            show wpOpsIn _ _ _ _ _ [0] _ _
            simp only [wpOpsIn, hi]
            have hw : Region.wanted o (yielded ops a.tmps) = true := by simp [Region.wanted, hg]
            rw [if_pos hw]
            refine ⟨fun _ _ => trivial, ?_⟩
            have hnd : ∀ c, o.op ≠ .defer c := fun c e => by rw [e] at ht; cases ht
            rw [Oper.semAt_eq _ _ _ hnd]
            have hx : (execOp a.eval o).run Pg W = .ok (.value (a.tmps.getD t undef)) W := by
              rcases asg_exec ht with e | e
              · simp only [execOp, e]; rfl
              · simp only [execOp, e]; rfl
            rw [hx, Oper.uponIn_value, hd]
            exact hK
          · cases h
        · cases h
      · cases h
  | seq x y ihx ihy =>
    intro st st' a h hsz hR
    simp only [asgSt] at h
    split at h
    · rename_i st1 h1
      obtain ⟨a1, a2, a3, a4, a5, a6⟩ := ihx h1 hsz hR
      obtain ⟨b1, b2, b3, b4, b5, b6⟩ := ihy h a2 a1
      refine ⟨b1, b2, b3.trans a3, b4.trans a4, b5.trans a5, fun ro n K W hK => wpIn_seq ?_⟩
      refine wpIn_mono (a6 ro n (fun a w => y.wpIn (FR ro) n Pg (Exit.then K fun _ _ _ => False) a w) W (b6 ro n K W hK)) fun e a w h => ?_
      cases e <;> exact h
    · cases h
  | _ => intro st st' a h; simp [asgSt] at h
theorem range_sound (hT : ∀ f sp, T f = some sp → Sound Pg f sp) (htt : TTok Pg tt) (hm : Fit Pg) {g : Operand} {ps : Array Tmp} {x y : Code} {st : St} {K : Kont} {Q : Exit → Act → World → Prop} {a : Act} {w : World}
    (h : exec T tt N ios (.rangeFunc g ps x y) st K) (hg : Good E N ios gh0 st a w) (hK : Knt E N ios gh0 K Q) : (Code.rangeFunc g ps x y).wp Pg Q a w := by
  obtain ⟨hcm, h⟩ : calm y = true ∧ _ := h
  split at h
  rotate_left
  · exact h.elim
  rename_i p q rows hop
  obtain ⟨hrows, hps, j, I, h0, hr, hd⟩ := h
  obtain ⟨⟨gh, hR, hio⟩, hsz, hmk⟩ := hg
  have hv := opnd_rep hR g
  rw [hop] at hv
  have hv := hv.p_inv
  obtain ⟨S, hS, hq⟩ : ∃ S, (∀ b ∈ S, E.ok st gh w p q b ∧ ∃ c e f, w.heap[b]? = some (.cells c e f)) ∧ Globs.sq w S rows (a.eval g) := by
    generalize a.eval g = v at hv
    cases hv with
    | seq l v S _ hS hq => exact ⟨S, hS, hq⟩
  have hB0 : E.B0 ≤ w.heap.size := hR.size
  have hrow : ∀ row ∈ rows, row.length = ps.toList.length ∧ row.all P.lit = true := fun row hm' => by
    have := List.all_eq_true.1 hrows row hm'
    simp only [Bool.and_eq_true] at this
    exact ⟨by simpa using Nat.eq_of_beq_eq_true this.1, this.2⟩
  have hpN : ∀ p ∈ ps.toList, p < N := fun p hp => by simpa using List.all_eq_true.1 hps p hp
  have hSlt : ∀ b ∈ S, b < w.heap.size := fun b hb => (hS b hb).1.2.1
  obtain ⟨us0, hI0, hH0⟩ := Head.back (S := S) (D := []) (w0 := w) ⟨⟨gh, hR, hio, fun b hb => ⟨p, q, (hS b (by simpa using hb)).1⟩⟩, hmk, fun _ _ => rfl⟩ h0
  refine wp_range (hm.sq _ _ _ _ hq) (fun row hm' => by simpa using (hrow row hm').1) (fun k D A => w.heap.size ≤ A.heap.size ∧ ∃ us, I k us ∧ Head E ios gh0 a S D w (Fw.mk j us) A) (fun k D A hJ => hJ.2.choose_spec.2.keep) ?_ ?_ ⟨Nat.le_refl _, us0, hI0, hH0⟩ ?_ ?_
  · rintro k D A B D' ⟨hz, us, hI, ⟨gh1, hR1, hio1, hok1⟩, hmk1, hkp1⟩ hg hDD
    refine ⟨Nat.le_trans hz hg.size, us, hI, ⟨gh1, hR1.grows hg, hio1, fun b hb => ?_⟩, ?_, fun b hb => (hg.same b (Nat.lt_of_lt_of_le (hSlt b hb) hz)).trans (hkp1 b hb)⟩
    · have old : b ∈ S ++ D → ∃ p q, E.ok (Fw.mk j us) gh1 B p q b := fun hb => by
        obtain ⟨p, q, h⟩ := hok1 b hb
        exact ⟨p, q, (hg.lets.ok p q b h).1⟩
      rcases List.mem_append.1 hb with hb | hb
      · exact old (List.mem_append_left _ hb)
      · rcases hDD b hb with hb | hb
        · exact old (List.mem_append_right _ hb)
        · refine ⟨false, false, .inr (.inr (.inl (by omega))), hb.2, fun g ho had => ?_⟩
          have := (hR1.wr g b ho had).2
          omega
    · obtain ⟨Ds, d1, d2, d3⟩ := hmk1
      exact ⟨Ds, d1, d2, fun D hD => ⟨(d3 D hD).1, (hg.same D (Array.getElem?_eq_some_iff.1 (d3 D hD).2).1).trans (d3 D hD).2⟩⟩
  · rintro k D A b o o' hb hbD ⟨hz, us, hI, ⟨gh1, hR1, hio1, hok1⟩, hmk1, hkp1⟩ ho hqo
    have hzz : (A.putObj b o').heap.size = A.heap.size := World.putObj_size
    refine ⟨by rw [hzz]; exact hz, us, hI, ⟨gh1, hR1.turn ho hqo (by omega) o', hio1, fun b' hb' => ?_⟩, ?_, fun b' hb' => (World.putObj_heap_other (by have := hSlt b' hb'; omega)).trans (hkp1 b' hb')⟩
    · obtain ⟨p, q, h⟩ := hok1 b' hb'
      exact ⟨p, q, by rw [← ok_turn hzz]; exact h⟩
    · obtain ⟨Ds, d1, d2, d3⟩ := hmk1
      obtain ⟨Ds0, e1, e2, e3⟩ := hmk
      have : Ds = Ds0 := by
        have := d1.symm.trans e1
        have hinj : ∀ (l l' : List Nat), l.map mark = l'.map mark → l = l' := by
          intro l
          induction l with
          | nil => intro l' h; cases l' with | nil => rfl | cons => simp at h
          | cons D l ih => intro l' h; cases l' with | nil => simp at h | cons D' l' => simp [mark] at h; rw [h.1, ih l' (by simpa [mark] using h.2)]
        exact hinj _ _ this
      subst this
      exact ⟨Ds, d1, d2, fun D hD => ⟨(d3 D hD).1, (World.putObj_heap_other (by have := (Array.getElem?_eq_some_iff.1 (e3 D hD).2).1; omega)).trans (d3 D hD).2⟩⟩
  · rintro k row D A hrw ⟨hz, us, hI, ⟨gh1, hR1, hio1, hok1⟩, hmk1, hkp1⟩ l
    obtain ⟨hlen, hlit⟩ := hrow row (List.mem_of_getElem? hrw)
    obtain ⟨sg, st1, c, outs, d, r1, r2, r3, r4, r5, r6, r7, r8, r9⟩ := hr k row us hrw hI
    obtain ⟨r2, rb⟩ := Bool.and_eq_true_iff.1 r2
    obtain ⟨u1, u2, u3⟩ := row_rel (t := a.tmps) ps.toList row hlit (fun p hp => by rw [hsz]; exact hpN p hp) hR1
    obtain ⟨v1, v2, v3, v4, v5, v6⟩ := asg_sound (Pg := Pg) x (a := { tmps := rowTmps ps.toList row a.tmps, defers := [] }) r4 (by rw [rowTmps_size]; exact hsz) u1
    have etm : (ps.zip (row.map P.lv).toArray).foldl (fun t (p, v) => t.setIfInBounds p v) a.tmps = rowTmps ps.toList row a.tmps := by
      rw [← rowTmps_eq ps.toList row a.tmps hlen, ← Array.foldl_toList, Array.toList_zip]
    refine ⟨asgAct x { tmps := rowTmps ps.toList row a.tmps, defers := [] }, fun K W hKW => ?_, ?_⟩
    · rw [etm]; exact v6 _ _ K W hKW
    generalize hA1 : asgAct x { tmps := rowTmps ps.toList row a.tmps, defers := [] } = a1 at *
    obtain ⟨E', gh2, q1, q2, q3, q4, q5⟩ := call_back (sp := ⟨sg, fun _ _ => True⟩) r1 hR1 (args := (List.range N).map st1.s) (vals := a1.tmps.toList) (fun t => by
      rw [List.getD_eq_getElem?_getD, List.getElem?_map]
      by_cases ht : t < N
      · rw [List.getElem?_range ht]
        have := v1.slots t
        rw [List.getD_eq_getElem?_getD, Array.getElem?_toList, ← Array.getD_eq_getD_getElem?]
        exact RepS.congr (v4.trans u2).symm this
      · rw [List.getElem?_eq_none (by simpa using ht)]; exact .no _) r5 r6
    have hval : (fun k => a1.tmps.toList.getD k undef) = fun t => a1.tmps.getD t undef := by
      funext t; rw [List.getD_eq_getElem?_getD, Array.getElem?_toList, ← Array.getD_eq_getD_getElem?]
    rw [hval] at q3
    have hgood : Good E' N sg.ios gh2 (Fw.mk sg.pin c.ins) a1 A := ⟨⟨gh2, q3, fun g hg => ⟨(List.all_eq_true.1 r2) g hg, .inr ⟨rfl, rfl⟩⟩⟩, v2, Marks.nil v3⟩
    refine exec_soundIn hT htt hm.mixed (some l) 0 y (Q := fun e _ B => e = .normal ∧ (w.heap.size ≤ B.heap.size ∧ ∃ us, I (k + 1) us ∧ Head E ios gh0 a S D w (Fw.mk j us) B) ∧ (∀ b ∈ D, B.heap[b]? = A.heap[b]?) ∧ ∀ b o, A.heap[b]? = some o → quiet o = true → w.heap.size ≤ b → B.heap[b]? = some o) hcm r7 hgood ⟨fun st2 a2 B hk hg2 => ?_, fun id st2 a2 B hk => hk.elim, fun st2 a2 B hk => hk.elim⟩
    obtain ⟨⟨gh3, hR3, hio3⟩, _, _⟩ := hg2
    have hend : Rel E' (endSt st2) gh3 (fun k => ([] : List Value).getD k undef) B :=
      ⟨fun k => .no _, fun g => RepO.congr (st := st2) (st' := endSt st2) rfl (hR3.objs g), hR3.inj, hR3.wr, hR3.wi, hR3.ns, hR3.wb, hR3.frame, hR3.size, hR3.os, hR3.tape, hR3.output, fun k g hg => by simp [endSt, Fw.S.names] at hg, hR3.uo, hR3.ul⟩
    obtain ⟨gh4, hR4, hio4⟩ := back_out (sp := sg) hend (fun g hg => hio3 g hg) hk
    obtain ⟨gh5, s1, s2, _, _⟩ := q5 d outs _ rfl r8 B [] gh4 r3.symm hR4 fun g hg => ⟨hio4 g hg, Sig.boxy_like rb g hg⟩
    have hfr : ∀ b o, A.heap[b]? = some o → quiet o = true → B.heap[b]? = some o := fun b o ho hqo => by
      have hlt := (Array.getElem?_eq_some_iff.1 ho).1
      rw [hR3.frame b (by rw [q1]; exact hlt) (fun hw => by obtain ⟨c, e, f, hc⟩ := q4 b hw; rw [ho] at hc; exact quiet_cells hqo _ _ _ (Option.some.inj hc)), q2]
      exact ho
    have hBz : A.heap.size ≤ B.heap.size := by rw [← q1]; exact hR3.size
    have hpre : Head E ios gh0 a S D w ((Fw.mk j us).upd (callEff sg d (Fw.mk j us).o c outs).upd (callEff sg d (Fw.mk j us).o c outs).new) B := by
      refine ⟨⟨gh5, s1, fun g hg => ?_, fun b hb => ?_⟩, ?_, fun b hb => ?_⟩
      · obtain ⟨p1, p2⟩ := hio1 g hg
        refine ⟨by simp [St.upd, p1], ?_⟩
        rcases s2.names g p1 with q | ⟨q, qk⟩
        · exact .inl q
        · rcases p2 with p2 | p2
          · rw [p2] at qk; exact .inl (O.none_like qk)
          · exact .inr ⟨q.1.trans p2.1, q.2.trans p2.2⟩
      · obtain ⟨p, q, h⟩ := hok1 b hb
        exact ⟨p, q, (s2.ok p q b h).1⟩
      · obtain ⟨Ds, d1, d2, d3⟩ := hmk1
        exact ⟨Ds, d1, d2, fun D hD => ⟨(d3 D hD).1, hfr D _ (d3 D hD).2 rfl⟩⟩
      · obtain ⟨p, q, h⟩ := hok1 b (List.mem_append_left _ hb)
        exact ((s2.ok p q b h).2).trans (hkp1 b hb)
    obtain ⟨us', hI', hH'⟩ := hpre.back r9
    exact ⟨rfl, ⟨Nat.le_trans hz hBz, us', hI', hH'⟩, fun b hb => (let ⟨p, q, h⟩ := hok1 b (List.mem_append_right _ hb); (s2.ok p q b h).2), fun b o ho hqo _ => hfr b o ho hqo⟩
  · rintro D B D' hD ⟨hz, us, hI, ⟨gh1, hR1, hio1, hok1⟩, hmk1, hkp1⟩ hDB
    have hw := hd us hI
    refine hK.wk.n _ _ _ hw ⟨⟨gh1, hR1, hio1⟩, hsz, ?_⟩
    obtain ⟨Ds, d1, d2, d3⟩ := hmk1
    obtain ⟨Ds0, e1, e2, e3⟩ := hmk
    have hmem : ∀ D' ∈ Ds, D' < w.heap.size := by
      intro D' hD'
      have : mark D' ∈ a.defers := by rw [d1]; exact List.mem_map.2 ⟨D', hD', rfl⟩
      rw [e1] at this
      obtain ⟨D2, h1, h2⟩ := List.mem_map.1 this
      simp [mark] at h2
      subst h2
      exact (Array.getElem?_eq_some_iff.1 (e3 D2 h1).2).1
    refine ⟨D :: Ds, by simp [d1, mark], List.nodup_cons.2 ⟨fun hm' => by have := hmem D hm'; omega, d2⟩, fun D' hD' => ?_⟩
    rcases List.mem_cons.1 hD' with rfl | hD'
    · exact ⟨by omega, hDB⟩
    · exact d3 D' hD'
theorem exec_sound (hT : ∀ f sp, T f = some sp → Sound Pg f sp) (htt : TTok Pg tt) (hm : Fit Pg) : ∀ (c : Code) {st : St} {K : Kont} {Q : Exit → Act → World → Prop} {a : Act} {w : World},
    exec T tt N ios c st K → Good E N ios gh0 st a w → Knt E N ios gh0 K Q → c.wp Pg Q a w := by
  intro c
  induction c with
  | skip => intro st K Q a w h hg hK; exact wp_skip (hK.n _ _ _ h hg)
  | region id ops draw => intro st K Q a w h hg hK; exact region_sound hT htt hm.mixed h hg fun st' a' w' q hg' => hK.wk.n _ _ _ q hg'
  | seq x y ihx ihy =>
    intro st K Q a w h hg hK
    refine wp_seq (ihx h hg ⟨fun st' a' w' q hg' => ihy q hg' hK, fun id st' a' w' q hg' => hK.x _ _ _ _ q hg', fun st' a' w' q hg' => hK.r _ _ _ q hg'⟩)
  | cond c x y ihx ihy =>
    intro st K Q a w h hg hK
    simp only [exec] at h
    split at h
    · rename_i a1 i1 b hc
      obtain ⟨gh, hR, _⟩ := hg.ex
      have hv := opnd_rep hR c
      rw [hc] at hv
      have hv := hv.p_inv.bool_inv
      refine wp_cond_split hv (fun hb => ?_) (fun hb => ?_)
      · subst hb; exact ihx h hg hK.wk
      · subst hb; exact ihy h hg hK.wk
    · cases h
  | block id c ih =>
    intro st K Q a w h hg hK
    refine wp_block (ih h hg ⟨fun st' a' w' q hg' => hK.wk.n _ _ _ q hg', fun id' st' a' w' q hg' => ?_, fun st' a' w' q hg' => hK.r _ _ _ q hg'⟩)
    simp only [Exit.inBlock]
    by_cases e : id' = id
    · subst e
      rw [if_pos rfl]
      have : Nat.beq id' id' = true := by simp
      simp only [this] at q
      exact hK.wk.n _ _ _ q hg'
    · rw [if_neg e]
      have : Nat.beq id' id = false := by cases hb : Nat.beq id' id with | false => rfl | true => exact absurd (Nat.eq_of_beq_eq_true hb) e
      simp only [this] at q
      exact hK.x _ _ _ _ q hg'
  | loop c ih =>
    intro st K Q a w h hg hK
    obtain ⟨j, I, μ, h0, round⟩ := (show LoopW ios (exec T tt N ios c) st K from h)
    obtain ⟨us, hI, hg0⟩ := h0.good hg
    refine wp_loop_rounds (μ us + 1) ?_
    have key : ∀ n us, I us → μ us < n → ∀ a w, Good E N ios gh0 (Fw.mk j us) a w → Code.rounds Pg c Q n a w := by
      intro n
      induction n with
      | zero => intro us _ h; omega
      | succ n ihn =>
        intro us hI hlt a w hg
        refine ih (round us hI) hg ⟨fun st' a' w' q hg' => ?_, fun id st' a' w' q hg' => hK.x _ _ _ _ q hg', fun st' a' w' q hg' => hK.r _ _ _ q hg'⟩
        obtain ⟨vs, ⟨h1, h2⟩, h3⟩ := Back.good q hg'
        exact ihn vs h1 (by omega) _ _ h3
    exact key _ us hI (by omega) a w hg0
  | exit id => intro st K Q a w h hg hK; exact wp_exit (hK.x _ _ _ _ h hg)
  | ret => intro st K Q a w h hg hK; exact wp_ret (hK.r _ _ _ h hg)
  | label l => intro st K Q a w h hg hK; exact wp_label (hK.n _ _ _ h hg)
  | rangeFunc g ps x y ihx ihy => intro st K Q a w h hg hK; exact range_sound hT htt hm h hg hK
  | _ => intro st K Q a w h; exact absurd h (by simp [exec])
def finV (tt : TT) (st : St) : ResultVar → Option S
  | .tmp t => some (st.s t)
  | .cell a t => match tt t, st.s a with
    | some i, .v (.one (.box g off)) => match st.o g with
      | .box ws => if off + i.size ≤ ws.length ∧ 0 < i.size then some (V.ofWords i.agg ((ws.drop off).take i.size)) else none
      | _ => none
    | _, _ => none
def finVs (tt : TT) (st : St) : List ResultVar → Option (List S)
  | [] => some []
  | r :: rs => match finV tt st r, finVs tt st rs with
    | some x, some xs => some (x :: xs)
    | _, _ => none
def finSt (xs : List S) (st : St) : St := { s := fun k => xs.getD k .no, o := st.o, used := st.used }
def Fin (tt : TT) (sp : Sig) (ts : List ResultVar) (outs : List P) (st : St) : Prop := match finVs tt st ts with
  | some xs => Back sp.ios sp.pout (finSt xs st) fun vs => vs = outs
  | none => False
def finK (tt : TT) (sp : Sig) (ts : List ResultVar) (outs : List P) : Kont := { n := Fin tt sp ts outs, x := fun _ _ => False, r := Fin tt sp ts outs }
def resOne (tmps : Array Value) (r : ResultVar) : Sem Value := match r with
  | .tmp t => pure (tmps.getD t undef)
  | .cell a t => do loadVar t (← asAddr (tmps.getD a undef))
theorem results_eq {fn : Func} {ts : List ResultVar} (hr : fn.results = ts.toArray) (tmps : Array Value) : results fn tmps = (do
    let vs ← List.toArray <$> ts.mapM (resOne tmps)
    pure (if h : vs.size = 1 then vs[0] else .tuple vs)) := by
  unfold results
  rw [hr, List.mapM_toArray]
  have : ∀ F : ResultVar → Sem Value, (∀ r, F r = resOne tmps r) → ts.mapM F = ts.mapM (resOne tmps) := fun F hF => by rw [funext hF]
  rw [this _ fun r => by cases r <;> rfl]
theorem finV_sound (htt : TTok Pg tt) {st : St} {gh : Nat → Gh} {a : Act} {w : World} (h : Rel E st gh (fun t => a.tmps.getD t undef) w) {r : ResultVar} {x : S} (hx : finV tt st r = some x) :
    ∃ v, (resOne a.tmps r).run Pg w = .ok v w ∧ RepS E st gh w x v ∧ ∀ g ∈ x.names, st.used g = true := by
  cases r with
  | tmp t =>
    simp only [finV, Option.some.injEq] at hx
    subst hx
    exact ⟨_, rfl, h.slots t, h.us t⟩
  | cell ad t =>
    simp only [finV] at hx
    split at hx
    · rename_i i g off ht hs
      have rx := h.slots ad; rw [hs] at rx
      split at hx
      · rename_i ws hog
        split at hx
        · rename_i hlt
          simp only [Option.some.injEq] at hx; subst hx
          have hO := h.objs g; rw [hog] at hO
          obtain ⟨ad', had, cs, hl, hone, hcell, hrep⟩ := BoxAt.cells hO
          obtain ⟨ad'', had', hv⟩ := (by cases rx.one_inv with | box _ _ _ _ hb => exact hb ws hog : ∃ ad', (gh g).ad = some ad' ∧ a.tmps.getD ad undef = .pointer (some ⟨ad'.block, ad'.off + off, none⟩))
          rw [had] at had'; cases had'
          have hl' : ((cs.drop off).take i.size).length = i.size := by simp; omega
          obtain ⟨v, hrun, hval⟩ := run_loadVar' (Pg := Pg) (w := w) (htt _ _ ht) ad'.block (ad'.off + off) ((cs.drop off).take i.size) hl' (fun j u hu => by
            have hj : j < i.size := by have := (List.getElem?_eq_some_iff.1 hu).1; omega
            rw [List.getElem?_take, if_pos hj, List.getElem?_drop] at hu
            rw [Nat.add_assoc]; exact hcell _ _ hu) (fun _ => hlt.2)
          refine ⟨v, by simp only [resOne]; rw [hv]; simpa [asAddr] using hrun, ofWords_rep (cs := (cs.drop off).take i.size) (by simp; omega) (fun c hc => hone c (List.mem_of_mem_drop (List.mem_of_mem_take hc)))
            (fun j y u hy hu => ?_) v hval, fun g' hg' => ?_⟩
          · have hj : j < i.size := by have := (List.getElem?_eq_some_iff.1 hu).1; omega
            rw [List.getElem?_take, if_pos hj, List.getElem?_drop] at hy hu
            exact hrep _ _ _ hy hu
          · obtain ⟨x, hx, hg'⟩ := ofWords_names hg'
            exact h.uo g g' (by rw [hog]; simp only [O.names, List.mem_flatMap]; exact ⟨x, List.mem_of_mem_drop (List.mem_of_mem_take hx), hg'⟩)
        · cases hx
      · cases hx
    · cases hx
theorem finVs_sound (htt : TTok Pg tt) {st : St} {gh : Nat → Gh} {a : Act} {w : World} (h : Rel E st gh (fun t => a.tmps.getD t undef) w) : ∀ {rs : List ResultVar} {xs : List S}, finVs tt st rs = some xs →
    ∃ vs : List Value, (rs.mapM (resOne a.tmps)).run Pg w = .ok vs w ∧ vs.length = rs.length ∧
      ∀ k, RepS E st gh w (xs.getD k .no) (vs.getD k undef) ∧ ∀ g ∈ (xs.getD k .no).names, st.used g = true
  | [], xs, hx => by
    simp only [finVs, Option.some.injEq] at hx
    subst hx
    exact ⟨[], rfl, rfl, fun k => ⟨.no _, by simp [S.names]⟩⟩
  | r :: rs, xs, hx => by
    simp only [finVs] at hx
    split at hx
    · rename_i x xs h1 h2
      simp only [Option.some.injEq] at hx
      subst hx
      obtain ⟨v, q1, q2, q3⟩ := finV_sound htt h h1
      obtain ⟨vs, p1, p2, p3⟩ := finVs_sound htt h h2
      refine ⟨v :: vs, ?_, by simp [p2], fun k => ?_⟩
      · rw [List.mapM_cons, Sem.run_bind, q1]
        show Sem.run Pg _ w = _
        rw [Sem.run_bind, p1]; rfl
      · cases k with
        | zero => exact ⟨q2, q3⟩
        | succ k => simpa using p3 k
    · cases hx
theorem results_sound (htt : TTok Pg tt) {st : St} {gh : Nat → Gh} {a : Act} {w : World} (h : Rel E st gh (fun t => a.tmps.getD t undef) w) {fn : Func} {ts : List ResultVar} (hr : fn.results = ts.toArray) {xs : List S} (hx : finVs tt st ts = some xs) :
    ∃ vs : List Value, (results fn a.tmps).run Pg w = .ok (retV vs) w ∧ vs.length = ts.length ∧ ∀ k, RepS E st gh w (xs.getD k .no) (vs.getD k undef) ∧ ∀ g ∈ (xs.getD k .no).names, st.used g = true := by
  obtain ⟨vs, q1, q2, q3⟩ := finVs_sound htt h hx
  refine ⟨vs, ?_, q2, q3⟩
  rw [results_eq hr, Sem.run_bind, Sem.run_map, q1]
  match vs with
  | [] => rfl
  | [v] => rfl
  | v :: u :: vs => simp [retV]
theorem sound_of {f : FuncId} {fn : Func} {c : Code} {sp : Spec} (ts : List ResultVar) (hf : Pg.funcs[f]? = some fn) (hb : fn.body = some c) (hname : (fn.name == "runtime.NumGoroutine") = false) (hres : fn.results = ts.toArray)
    (hok : sp.sig.ok = true) (hio : (sp.sig.ios.all fun g => sp.sig.pin.nms.contains g) = true) (hlk : ∀ ins outs, sp.R ins outs → ∀ g ∈ sp.sig.ios, ((Fw.mk sp.sig.pin ins).o g).like ((Fw.mk sp.sig.pout outs).o g)) (hn : sp.sig.nargs ≤ fn.ntmps) (hnr : ts.length = sp.sig.nres)
    (hT : ∀ f sp, T f = some sp → Sound Pg f sp) (htt : TTok Pg tt) (hm : Fit Pg)
    (h : ∀ ins outs, sp.R ins outs → exec T tt fn.ntmps sp.sig.ios c (Fw.mk sp.sig.pin ins) (finK tt sp.sig ts outs)) : Sound Pg f sp := by
  refine ⟨hok, fun args w => ?_, fun E w vals gh ins outs hR hB hw0 hRel hlen => ?_⟩
  · have hname' : ¬ fn.name = "runtime.NumGoroutine" := by simpa using hname
    simp [callFunc, hf, hname', hb]
  · have hsz : vals.toArray.size ≤ fn.ntmps := by simp; omega
    refine callsIn_wide.1 (callsIn_of_wp_marks (n := 0) hf hb trivial (wpIn_wide.2 (exec_sound (E := E) (N := fn.ntmps) (ios := sp.sig.ios) (gh0 := gh) hT htt hm c (h ins outs hR) ⟨⟨gh, ?_, fun g hg => ⟨?_, .inr ⟨rfl, rfl⟩⟩⟩, by simp; omega, Marks.nil rfl⟩ ?_)) rfl)
    · have e : (fun t => (vals.toArray ++ Array.replicate (fn.ntmps - vals.toArray.size) undef).getD t undef) = fun k => vals.getD k undef := by
        funext t
        rw [Array.getD_eq_getD_getElem?, List.getD_eq_getElem?_getD, Array.getElem?_append]
        split
        · simp
        · rename_i ht
          have ht : vals.length ≤ t := by simpa using ht
          rw [List.getElem?_eq_none ht, Array.getElem?_replicate]
          split <;> rfl
      rw [e]; exact hRel
    · exact (List.all_eq_true.1 hio) g hg
    · have fin : ∀ st a w', Fin tt sp.sig ts outs st → Good E fn.ntmps sp.sig.ios gh st a w' → LeavesInM Fence.wide 0 Pg fn a.tmps (fun e w' => ∃ (rs : List Value) (gh' : Nat → Gh), rs.length = sp.sig.nres ∧ e = .returned (retV rs) ∧ Rel E (Fw.mk sp.sig.pout outs) gh' (fun k => rs.getD k undef) w' ∧ ∀ g ∈ sp.sig.ios, ((gh' g).ad = (gh g).ad ∧ (gh' g).cap = (gh g).cap) ∧ ((Fw.mk sp.sig.pin ins).o g).like ((Fw.mk sp.sig.pout outs).o g)) a.defers .returning w' := by
        intro st a w' hBk hg
        unfold Fin at hBk
        split at hBk
        rotate_left
        · cases hBk
        rename_i xs hxs
        obtain ⟨⟨gh1, hR1, hio1⟩, _, Ds, hd1, hd2, hd3⟩ := hg
        rw [hd1]
        clear hd1
        induction Ds generalizing w' with
        | nil =>
          obtain ⟨rs, hrun, hrl, hrs⟩ := results_sound htt hR1 hres hxs
          refine ⟨_, hrun, rs, ?_⟩
          have hfin : Rel E (finSt xs st) gh1 (fun k => rs.getD k undef) w' := by
            refine ⟨fun k => ?_, fun g => RepO.congr (st := st) (st' := finSt xs st) rfl (hR1.objs g), hR1.inj, hR1.wr, hR1.wi, hR1.ns, hR1.wb, hR1.frame, hR1.size, hR1.os, hR1.tape, hR1.output, fun k g hg => (hrs k).2 g hg, hR1.uo, hR1.ul⟩
            exact RepS.congr (st := st) (st' := finSt xs st) rfl (hrs k).1
          obtain ⟨gh', r1, r2⟩ := back_out hfin hio1 hBk
          exact ⟨gh', by omega, rfl, r1, fun g hg => ⟨r2 g hg, hlk ins outs hR g hg⟩⟩
        | cons D Ds ih =>
          obtain ⟨h1, h2⟩ := hd3 D (by simp)
          have hnd := List.nodup_cons.1 hd2
          refine ⟨by simp, .inl ⟨D, _, rfl, run_takeDeferred h2, ih _ (hR1.turn h2 rfl h1 _) hnd.2 fun D' hD' => ?_⟩⟩
          obtain ⟨q1, q2⟩ := hd3 D' (by simp [hD'])
          exact ⟨q1, (World.putObj_heap_other (fun e : D' = D => hnd.1 (by rw [← e]; exact hD'))).trans q2⟩
      exact ⟨fun st a w' hk hg => fin st a w' hk hg, fun id st a w' hk => hk.elim, fun st a w' hk hg => fin st a w' hk hg⟩
end
end Go.Fw
namespace Go.Fg
open Go.Fw
set_option linter.unusedVariables false
set_option linter.unusedSectionVars false
inductive Ty where
  | int (k : IntKind)
  | bool
  | str
  | sl (e : Ty)
  | prod (a b : Ty)
  | st (n : Nat)
  | opq
  | sq (e : Ty)
def ikEq : (a b : IntKind) → Option (PLift (a = b))
  | .i8, .i8 => some ⟨rfl⟩
  | .i16, .i16 => some ⟨rfl⟩
  | .i32, .i32 => some ⟨rfl⟩
  | .i64, .i64 => some ⟨rfl⟩
  | .u8, .u8 => some ⟨rfl⟩
  | .u16, .u16 => some ⟨rfl⟩
  | .u32, .u32 => some ⟨rfl⟩
  | .u64, .u64 => some ⟨rfl⟩
  | _, _ => none
def natEq (a b : Nat) : Option (PLift (a = b)) := match h : Nat.beq a b with
  | true => some ⟨Nat.eq_of_beq_eq_true h⟩
  | false => none
def Ty.eq : (a b : Ty) → Option (PLift (a = b))
  | .int k, .int k' => match ikEq k k' with
    | some ⟨h⟩ => some ⟨h ▸ rfl⟩
    | none => none
  | .bool, .bool => some ⟨rfl⟩
  | .str, .str => some ⟨rfl⟩
  | .opq, .opq => some ⟨rfl⟩
  | .sl a, .sl b => match Ty.eq a b with
    | some ⟨h⟩ => some ⟨h ▸ rfl⟩
    | none => none
  | .sq a, .sq b => match Ty.eq a b with
    | some ⟨h⟩ => some ⟨h ▸ rfl⟩
    | none => none
  | .prod a b, .prod a' b' => match Ty.eq a a', Ty.eq b b' with
    | some ⟨h⟩, some ⟨h'⟩ => some ⟨h ▸ h' ▸ rfl⟩
    | _, _ => none
  | .st n, .st m => match natEq n m with
    | some ⟨h⟩ => some ⟨h ▸ rfl⟩
    | none => none
  | _, _ => none
def Ty.word : Ty → Bool
  | .prod _ _ => false
  | .st _ => false
  | _ => true
def Ty.flat : Ty → Bool
  | .int _ => true
  | .bool => true
  | .str => true
  | .opq => true
  | _ => false
def D (C : Nat → Type) : Ty → Type
  | .int _ => Int
  | .bool => Bool
  | .str => List UInt8
  | .sl e => List (D C e)
  | .prod a b => D C a × D C b
  | .st n => C n
  | .opq => Value
  | .sq e => List (D C e)
structure TP (C : Nat → Type) where
  t : Ty
  x : D C t
def TP.get {C : Nat → Type} (t : Ty) (d : D C t) (ws : List (TP C)) (n : Nat) : D C t := match ws[n]? with
  | some w => match Ty.eq w.t t with
    | some ⟨h⟩ => h ▸ w.x
    | none => d
  | none => d
theorem typed_cons {C : Nat → Type} {ws : List (TP C)} {t : Ty} {ts : List Ty} (h : ws.map (·.t) = t :: ts) : ∃ x ws', ws = ⟨t, x⟩ :: ws' ∧ ws'.map (·.t) = ts := by
  cases ws with
  | nil => cases h
  | cons w ws =>
    obtain ⟨t', x⟩ := w
    simp only [List.map_cons, List.cons.injEq] at h
    obtain ⟨rfl, h⟩ := h
    exact ⟨x, ws, rfl, h⟩
theorem typed_nil {C : Nat → Type} {ws : List (TP C)} (h : ws.map (·.t) = []) : ws = [] := by simpa using h
def enc1With {C : Nat → Type} (size : Ty → Nat) (encE : (t : Ty) → D C t → List P) : (t : Ty) → D C t → P
  | .int k, x => .int k x
  | .bool, b => .bool b
  | .str, s => .str ⟨s.toArray⟩
  | .sl e, l => P.mkSl (size e) (List.map (encE e) l)
  | .opq, v => .opq v
  | .sq e, l => .seq (List.map (encE e) l)
  | .prod _ _, _ => default
  | .st _, _ => default
def encEWith {C : Nat → Type} (F : Nat → List Ty) (er : (n : Nat) → C n → List P) (size : Ty → Nat) : (t : Ty) → D C t → List P
  | .int k, x => [.int k x]
  | .bool, b => [.bool b]
  | .str, s => [.str ⟨s.toArray⟩]
  | .sl e, l => [P.mkSl (size e) (List.map (encEWith F er size e) l)]
  | .opq, v => [.opq v]
  | .sq e, l => [.seq (List.map (encEWith F er size e) l)]
  | .prod a b, x => encEWith F er size a x.1 ++ encEWith F er size b x.2
  | .st n, x => er n x
def sizeWith (F : Nat → List Ty) : Ty → Nat
  | .prod a b => sizeWith F a + sizeWith F b
  | .st n => (F n).length
  | _ => 1
class RE where
  C : Nat → Type
  F : Nat → List Ty
  dflt : (n : Nat) → C n
  un : (n : Nat) → C n → List (TP C)
  ro : (n : Nat) → List (TP C) → C n
  er : (n : Nat) → C n → List P
  Fwd : ∀ n, (F n).all Ty.word = true
  un_ty : ∀ n x, (un n x).map (·.t) = F n
  un_ro : ∀ n ws, ws.map (·.t) = F n → un n (ro n ws) = ws
  er_un : ∀ n x, er n x = (un n x).map fun w => enc1With (sizeWith F) (encEWith F er (sizeWith F)) w.t w.x
  hd : Nat := 999999
  hdF : F hd = [] := by rfl
  G : Nat → Option ((e : Ty) × List (D C e)) := fun _ => none
  Q : World → List Nat → List (List P) → Value → Prop := fun _ _ _ _ => False
  Q_mono : ∀ {w w' : World} {S : List Nat} {l : List (List P)} {v : Value}, (∀ b ∈ S, w'.heap[b]? = w.heap[b]?) → Q w S l v → Q w' S l v := by intro _ _ _ _ _ _ h; exact h
section
variable [RE]
abbrev Dt (t : Ty) : Type := D RE.C t
abbrev Wd := TP RE.C
def size : Ty → Nat := sizeWith RE.F
def encE : (t : Ty) → Dt t → List P := encEWith RE.F RE.er (sizeWith RE.F)
instance : Globs := ⟨fun g => (RE.G g).map fun x => (size x.1, List.map (encE x.1) x.2), RE.Q, RE.Q_mono⟩
theorem gt_eq (g : Nat) : Globs.gt g = (RE.G g).map fun x => (size x.1, List.map (encE x.1) x.2) := rfl
def enc1 (w : Wd) : P := enc1With (sizeWith RE.F) (encEWith RE.F RE.er (sizeWith RE.F)) w.t w.x
def dflt : (t : Ty) → Dt t
  | .int _ => (0 : Int)
  | .bool => false
  | .str => ([] : List UInt8)
  | .sl e => ([] : List (Dt e))
  | .prod a b => (dflt a, dflt b)
  | .st n => RE.dflt n
  | .opq => Value.nilFunc
  | .sq e => ([] : List (Dt e))
def TP.as? (t : Ty) (w : Wd) : Option (Dt t) := match Ty.eq w.t t with
  | some ⟨h⟩ => some (h ▸ w.x)
  | none => none
def TP.as (t : Ty) (w : Wd) : Dt t := match Ty.eq w.t t with
  | some ⟨h⟩ => h ▸ w.x
  | none => dflt t
def wordsE : (t : Ty) → Dt t → List Wd
  | .prod a b, x => wordsE a x.1 ++ wordsE b x.2
  | .st n, x => RE.un n x
  | .int k, x => [⟨.int k, x⟩]
  | .bool, x => [⟨.bool, x⟩]
  | .str, x => [⟨.str, x⟩]
  | .sl e, x => [⟨.sl e, x⟩]
  | .opq, x => [⟨.opq, x⟩]
  | .sq e, x => [⟨.sq e, x⟩]
def tysE : Ty → List Ty
  | .prod a b => tysE a ++ tysE b
  | .st n => RE.F n
  | t => [t]
def ofWordsE : (t : Ty) → List Wd → Dt t
  | .prod a b, ws => (ofWordsE a (ws.take (size a)), ofWordsE b (ws.drop (size a)))
  | .st n, ws => RE.ro n ws
  | .int k, ws => match ws with
    | w :: _ => w.as (.int k)
    | [] => dflt (.int k)
  | .bool, ws => match ws with
    | w :: _ => w.as .bool
    | [] => dflt .bool
  | .str, ws => match ws with
    | w :: _ => w.as .str
    | [] => dflt .str
  | .sl e, ws => match ws with
    | w :: _ => w.as (.sl e)
    | [] => dflt (.sl e)
  | .opq, ws => match ws with
    | w :: _ => w.as .opq
    | [] => dflt .opq
  | .sq e, ws => match ws with
    | w :: _ => w.as (.sq e)
    | [] => dflt (.sq e)
theorem Ty.eq_self : ∀ (t : Ty), ∃ h, Ty.eq t t = some ⟨h⟩ := by
  intro t
  induction t with
  | int k => cases k <;> exact ⟨rfl, rfl⟩
  | bool => exact ⟨rfl, rfl⟩
  | str => exact ⟨rfl, rfl⟩
  | opq => exact ⟨rfl, rfl⟩
  | sl e ih => obtain ⟨h, ih⟩ := ih; exact ⟨rfl, by simp [Ty.eq, ih]⟩
  | sq e ih => obtain ⟨h, ih⟩ := ih; exact ⟨rfl, by simp [Ty.eq, ih]⟩
  | prod a b iha ihb => obtain ⟨h, iha⟩ := iha; obtain ⟨h', ihb⟩ := ihb; exact ⟨rfl, by simp [Ty.eq, iha, ihb]⟩
  | st n =>
    refine ⟨rfl, ?_⟩
    have : natEq n n = some ⟨rfl⟩ := by
      unfold natEq
      split
      · rfl
      · rename_i h; simp at h
    simp [Ty.eq, this]
theorem as_self (t : Ty) (x : Dt t) : TP.as t ⟨t, x⟩ = x := by
  obtain ⟨h, e⟩ := Ty.eq_self t
  simp [TP.as, e]
theorem as_of {t : Ty} {w : Wd} (h : w.t = t) : (⟨t, w.as t⟩ : Wd) = w := by
  obtain ⟨t', x⟩ := w
  simp only at h; subst h
  rw [as_self]
theorem as?_spec {t : Ty} {w : Wd} {x : Dt t} (h : w.as? t = some x) : w = ⟨t, x⟩ := by
  obtain ⟨t', y⟩ := w
  unfold TP.as? at h
  split at h
  · rename_i e he
    simp only at e
    subst e
    simp only [Option.some.injEq] at h
    subst h; rfl
  · cases h
theorem as?_ty {t : Ty} {w : Wd} {x : Dt t} (h : w.as? t = some x) : w.t = t := by rw [as?_spec h]
theorem size_tys : ∀ (t : Ty), (tysE t).length = size t
  | .prod a b => by
    have h1 := size_tys a
    have h2 := size_tys b
    simp only [size] at h1 h2
    simp [tysE, size, sizeWith, h1, h2]
  | .st n => by simp [tysE, size, sizeWith]
  | .int k => rfl
  | .bool => rfl
  | .str => rfl
  | .sl e => rfl
  | .opq => rfl
  | .sq e => rfl
theorem words_ty : ∀ (t : Ty) (x : Dt t), (wordsE t x).map (·.t) = tysE t
  | .prod a b, x => by simp [wordsE, tysE, words_ty a, words_ty b]
  | .st n, x => by simp [wordsE, tysE]; exact RE.un_ty n x
  | .int k, x => rfl
  | .bool, x => rfl
  | .str, x => rfl
  | .sl e, x => rfl
  | .opq, x => rfl
  | .sq e, x => rfl
theorem words_len (t : Ty) (x : Dt t) : (wordsE t x).length = size t := by
  rw [← size_tys, ← words_ty t x, List.length_map]
theorem encE_words : ∀ (t : Ty) (x : Dt t), encE t x = (wordsE t x).map enc1
  | .prod a b, x => by
    show encE a x.1 ++ encE b x.2 = _
    rw [encE_words a x.1, encE_words b x.2]; simp [wordsE]
  | .st n, x => RE.er_un n x
  | .int k, x => rfl
  | .bool, x => rfl
  | .str, x => rfl
  | .sl e, x => rfl
  | .opq, x => rfl
  | .sq e, x => rfl
theorem encE_len (t : Ty) (x : Dt t) : (encE t x).length = size t := by rw [encE_words, List.length_map, words_len]
theorem tys_word : ∀ (t : Ty), (tysE t).all Ty.word = true
  | .prod a b => by simp only [tysE, List.all_append, tys_word a, tys_word b, Bool.and_self]
  | .st n => RE.Fwd n
  | .int k => rfl
  | .bool => rfl
  | .str => rfl
  | .sl e => rfl
  | .opq => rfl
  | .sq e => rfl
theorem one_of {ws : List Wd} {t : Ty} (h : ws.map (·.t) = [t]) : ∃ w, ws = [w] ∧ w.t = t := by
  match ws with
  | [] => cases h
  | [w] => exact ⟨w, rfl, by simpa using h⟩
  | w :: u :: ws => simp at h
theorem words_of : ∀ (t : Ty) (ws : List Wd), ws.map (·.t) = tysE t → wordsE t (ofWordsE t ws) = ws
  | .prod a b, ws, h => by
    have h1 : (ws.take (size a)).map (·.t) = tysE a := by rw [List.map_take, h]; simp [tysE, ← size_tys]
    have h2 : (ws.drop (size a)).map (·.t) = tysE b := by rw [List.map_drop, h]; simp [tysE, ← size_tys]
    show wordsE a (ofWordsE a (ws.take (size a))) ++ wordsE b (ofWordsE b (ws.drop (size a))) = ws
    rw [words_of a _ h1, words_of b _ h2, List.take_append_drop]
  | .st n, ws, h => RE.un_ro n ws h
  | .int k, ws, h => by
    obtain ⟨w, rfl, hw⟩ := one_of (t := (.int k)) h
    show [(⟨.int k, w.as (.int k)⟩ : Wd)] = [w]
    rw [as_of hw]
  | .bool, ws, h => by
    obtain ⟨w, rfl, hw⟩ := one_of (t := .bool) h
    show [(⟨.bool, w.as .bool⟩ : Wd)] = [w]
    rw [as_of hw]
  | .str, ws, h => by
    obtain ⟨w, rfl, hw⟩ := one_of (t := .str) h
    show [(⟨.str, w.as .str⟩ : Wd)] = [w]
    rw [as_of hw]
  | .sl e, ws, h => by
    obtain ⟨w, rfl, hw⟩ := one_of (t := (.sl e)) h
    show [(⟨.sl e, w.as (.sl e)⟩ : Wd)] = [w]
    rw [as_of hw]
  | .opq, ws, h => by
    obtain ⟨w, rfl, hw⟩ := one_of (t := .opq) h
    show [(⟨.opq, w.as .opq⟩ : Wd)] = [w]
    rw [as_of hw]
  | .sq e, ws, h => by
    obtain ⟨w, rfl, hw⟩ := one_of (t := (.sq e)) h
    show [(⟨.sq e, w.as (.sq e)⟩ : Wd)] = [w]
    rw [as_of hw]
theorem encE_of {t : Ty} {ws : List Wd} (h : ws.map (·.t) = tysE t) : encE t (ofWordsE t ws) = ws.map enc1 := by rw [encE_words, words_of t ws h]
def encRows (e : Ty) (l : List (Dt e)) : List (List P) := List.map (encE e) l
theorem enc1_sl (e : Ty) (l : List (Dt e)) : enc1 ⟨.sl e, l⟩ = P.mkSl (size e) (encRows e l) := rfl
theorem enc1_list (e : Ty) (l : List (Dt e)) : (enc1 ⟨.sl e, l⟩).list = encRows e l := by rw [enc1_sl, P.list_mkSl]
theorem enc1_flat {w : Wd} (h : w.t.flat = true) : (enc1 w).flat = true := by
  obtain ⟨t, x⟩ := w
  cases t <;> simp [Ty.flat] at h <;> rfl
end
end Go.Fg
