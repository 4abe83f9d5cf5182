/-
  The framework (a machine on plain data that answers as the program does), part 2.
-/
import Derived.RangeFuncOwn
import Derived.Orders
import Derived.RangeFuncLeaves
import Derived.RangeFuncCalls
import Derived.OrdersIn
import Derived.LoopNIn
import Derived.LoopN
import Derived.Tactics
import Derived.Test.YtdddhnagekhihaaZa
set_option linter.unusedSimpArgs false
set_option linter.unusedVariables false
/-
  THE FRAMEWORK, PART K: the shapes of states where ways meet, and how a state is brought to such a shape.
-/
namespace Go.Fw
set_option linter.unusedSectionVars false
variable [Globs]
set_option linter.unusedVariables false

inductive WS where
  | p (a i : Bool)
  | nils
  | own (g : Nat)
  | box (g off : Nat)
  | fn (f : FuncId)
  | itp (g : Nat)
  | no
inductive SS where
  | one (x : WS)
  | agg (xs : List WS)
inductive OS where
  | box (ws : List WS)
  | arr (fz a i : Bool) (sz : Nat)
  | it
structure Shape where
  slots : List (Nat × SS)
  objs : List (Nat × OS)
abbrev Ren := List (Nat × Option Nat)

def imp (a b : Bool) : Bool := !a || b
def nodupB : List Nat → Bool
  | [] => true
  | x :: xs => !xs.contains x && nodupB xs

/-! ### The data of a state that has the shape -/
def coW (m : Ren) : WS → W → Option (List P)
  | .p a i, .p a' i' x => if ((imp a' a && imp i' i) || x.flat) = true then some [x] else none
  | .p _ _, .nils => some [.sl 0 []]
  | .nils, .nils => some []
  | .own g', .own g => if m.lookup g' = some (some g) then some [] else none
  | .own g', .nils => if m.lookup g' = some none then some [] else none
  | .box g' off, .box g off' => if m.lookup g' = some (some g) ∧ off = off' then some [] else none
  | .fn f, .clo f' [] => if f = f' then some [] else none
  | .itp g', .itp g => if m.lookup g' = some (some g) then some [] else none
  | .no, _ => some []
  | _, _ => none
def coWs (m : Ren) : List WS → List W → Option (List P)
  | [], [] => some []
  | k :: ks, x :: xs => match coW m k x, coWs m ks xs with
    | some u, some v => some (u ++ v)
    | _, _ => none
  | _, _ => none
def coS (m : Ren) : SS → S → Option (List P)
  | .one k, .v (.one x) => coW m k x
  | .agg ks, .v (.agg xs) => coWs m ks xs
  | _, _ => none
def coO (m : Ren) : OS → O → Option (List P)
  | .box ks, .box xs => coWs m ks xs
  | .arr fz a i sz, .arr fz' a' i' sz' l => if fz = fz' ∧ sz = sz' ∧ (imp a' a && imp i' i) = true then some [P.mkSl sz l] else none
  | .it, .it s n => some [s, n]
  | _, _ => none
def coSlots (m : Ren) (s : Nat → S) : List (Nat × SS) → Option (List P)
  | [] => some []
  | (t, k) :: rest => match coS m k (s t), coSlots m s rest with
    | some u, some v => some (u ++ v)
    | _, _ => none
def coObjs (m : Ren) (o : Nat → O) : List (Nat × OS) → Option (List P)
  | [] => some []
  | (g', k) :: rest => match (match m.lookup g' with
      | some (some g) => coO m k (o g)
      | some none => (match k with
        | .arr false _ _ _ => some [.sl 0 []]
        | _ => none)
      | none => none), coObjs m o rest with
    | some u, some v => some (u ++ v)
    | _, _ => none
def WS.names : WS → List Nat
  | .own g | .box g _ | .itp g => [g]
  | _ => []
def SS.names : SS → List Nat
  | .one x => x.names
  | .agg xs => xs.flatMap WS.names
def OS.names : OS → List Nat
  | .box ws => ws.flatMap WS.names
  | _ => []
def Shape.nms (j : Shape) : List Nat := j.objs.map (·.1)
/-- Is the shape whole: each name that it speaks of is an object of its own, none twice? -/
def Shape.ok (j : Shape) : Bool := nodupB j.nms && j.slots.all (fun p => p.2.names.all fun g => j.nms.contains g) && j.objs.all (fun p => p.2.names.all fun g => j.nms.contains g)
def renOk (j : Shape) (m : Ren) : Bool := nodupB (j.nms.filterMap fun g => (m.lookup g).join)
def coerce (j : Shape) (m : Ren) (st : St) : Option (List P) :=
  if (j.ok && renOk j m) = true then match coSlots m st.s j.slots, coObjs m st.o j.objs with
    | some u, some v => some (u ++ v)
    | _, _ => none
  else none

/-! ### The state of a shape with given data -/
def mkW (vs : List P) (n : Nat) : WS → W × Nat
  | .p a i => (.p a i (vs.getD n default), n + 1)
  | .nils => (.nils, n)
  | .own g => (.own g, n)
  | .box g off => (.box g off, n)
  | .fn f => (.clo f [], n)
  | .itp g => (.itp g, n)
  | .no => (.no, n)
def mkWs (vs : List P) : Nat → List WS → List W × Nat
  | n, [] => ([], n)
  | n, k :: ks => ((mkW vs n k).1 :: (mkWs vs (mkW vs n k).2 ks).1, (mkWs vs (mkW vs n k).2 ks).2)
def mkS (vs : List P) (n : Nat) : SS → S × Nat
  | .one k => (.v (.one (mkW vs n k).1), (mkW vs n k).2)
  | .agg ks => (.v (.agg (mkWs vs n ks).1), (mkWs vs n ks).2)
def mkO (vs : List P) (n : Nat) : OS → O × Nat
  | .box ks => (.box (mkWs vs n ks).1, (mkWs vs n ks).2)
  | .arr fz a i sz => (.arr fz a i sz (vs.getD n default).list, n + 1)
  | .it => (.it (vs.getD n default) (vs.getD (n + 1) default), n + 2)
def mkSlots (vs : List P) : Nat → List (Nat × SS) → List (Nat × S) × Nat
  | n, [] => ([], n)
  | n, (t, k) :: rest => ((t, (mkS vs n k).1) :: (mkSlots vs (mkS vs n k).2 rest).1, (mkSlots vs (mkS vs n k).2 rest).2)
def mkObjs (vs : List P) : Nat → List (Nat × OS) → List (Nat × O) × Nat
  | n, [] => ([], n)
  | n, (g, k) :: rest => ((g, (mkO vs n k).1) :: (mkObjs vs (mkO vs n k).2 rest).1, (mkObjs vs (mkO vs n k).2 rest).2)
def mk (j : Shape) (vs : List P) : St :=
  { s := fun t => match (mkSlots vs 0 j.slots).1.lookup t with | some x => x | none => .no,
    o := fun g => match (mkObjs vs (mkSlots vs 0 j.slots).2 j.objs).1.lookup g with | some x => x | none => .none,
    used := fun g => j.nms.contains g }

/-! ### It is a recasting -/
def renF (j : Shape) (m : Ren) (g' : Nat) : Option Nat := if j.nms.contains g' then (m.lookup g').join else none

/-- The data vs from place n on are us. -/
def At (vs : List P) (n : Nat) (us : List P) : Prop := ∀ k y, us[k]? = some y → vs[n + k]? = some y
theorem At.left {vs us1 us2 : List P} {n : Nat} (h : At vs n (us1 ++ us2)) : At vs n us1 := fun k y hk => h k y (by rw [List.getElem?_append_left (List.getElem?_eq_some_iff.1 hk).1]; exact hk)
theorem At.right {vs us1 us2 : List P} {n : Nat} (h : At vs n (us1 ++ us2)) : At vs (n + us1.length) us2 := fun k y hk => by
  have := h (us1.length + k) y (by rw [List.getElem?_append_right (by omega), Nat.add_sub_cancel_left]; exact hk)
  rw [← this]; congr 1; omega
theorem At.head {vs : List P} {n : Nat} {x : P} (h : At vs n [x]) : vs.getD n default = x := by
  have := h 0 x rfl
  rw [List.getD_eq_getElem?_getD]
  rw [Nat.add_zero] at this
  rw [this]; rfl

theorem imp_spec {a b : Bool} (h : imp a b = true) : a = true → b = true := by
  cases a <;> cases b <;> simp_all [imp]

section
variable {vs : List P} {m : Ren} {F : Nat → Option Nat} {nil : Nat → Prop}

theorem coW_ww {k : WS} {x : W} {us : List P} {n : Nat} (hF : ∀ g ∈ k.names, F g = (m.lookup g).join) (hnil : ∀ g ∈ k.names, m.lookup g = some none → nil g) (h : coW m k x = some us) (ha : At vs n us) :
    Ww Cle F nil x (mkW vs n k).1 ∧ (mkW vs n k).2 = n + us.length ∧ (mkW vs n k).1.names = k.names := by
  cases k with
  | p a i =>
    cases x with
    | p a' i' y =>
      simp only [coW] at h
      split at h
      · rename_i hc
        simp only [Option.some.injEq] at h; subst h
        simp only [Bool.or_eq_true, Bool.and_eq_true] at hc
        refine ⟨?_, rfl, by simp [mkW, W.names, WS.names]⟩
        simp only [mkW, ha.head]
        rcases hc with hc | hc
        · exact .p y ⟨imp_spec hc.1, imp_spec hc.2⟩
        · exact .flat y hc
      · cases h
    | nils =>
      simp only [coW, Option.some.injEq] at h; subst h
      refine ⟨?_, rfl, by simp [mkW, W.names, WS.names]⟩
      simp only [mkW, ha.head]
      exact .nilP _ _ _
    | _ => simp [coW] at h
  | nils => cases x <;> simp [coW] at h; subst h; exact ⟨.nils, rfl, by simp [mkW, W.names, WS.names]⟩
  | own g' =>
    cases x with
    | own g =>
      simp only [coW] at h
      split at h
      · rename_i hc
        simp only [Option.some.injEq] at h; subst h
        exact ⟨.own (by rw [hF g' (by simp [WS.names]), hc]; rfl), rfl, by simp [mkW, W.names, WS.names]⟩
      · cases h
    | nils =>
      simp only [coW] at h
      split at h
      · rename_i hc
        simp only [Option.some.injEq] at h; subst h
        exact ⟨.nilO (by rw [hF g' (by simp [WS.names]), hc]; rfl) (hnil g' (by simp [WS.names]) hc), rfl, by simp [mkW, W.names, WS.names]⟩
      · cases h
    | _ => simp [coW] at h
  | box g' off =>
    cases x with
    | box g off' =>
      simp only [coW] at h
      split at h
      · rename_i hc
        simp only [Option.some.injEq] at h; subst h
        obtain ⟨hc, rfl⟩ := hc
        exact ⟨.box (by rw [hF g' (by simp [WS.names]), hc]; rfl), rfl, by simp [mkW, W.names, WS.names]⟩
      · cases h
    | _ => simp [coW] at h
  | fn f =>
    cases x with
    | clo f' caps =>
      cases caps with
      | nil =>
        simp only [coW] at h
        split at h
        · rename_i hc
          simp only [Option.some.injEq] at h; subst h; subst hc
          exact ⟨.clo f [] [] rfl fun j x y hx => (by simp at hx), rfl, by simp [mkW, W.names, WS.names]⟩
        · cases h
      | cons c caps => simp [coW] at h
    | _ => simp [coW] at h
  | itp g' =>
    cases x with
    | itp g =>
      simp only [coW] at h
      split at h
      · rename_i hc
        simp only [Option.some.injEq] at h; subst h
        exact ⟨.itp (by rw [hF g' (by simp [WS.names]), hc]; rfl), rfl, by simp [mkW, W.names, WS.names]⟩
      · cases h
    | _ => simp [coW] at h
  | no => simp [coW] at h; subst h; exact ⟨.no _, rfl, by simp [mkW, W.names, WS.names]⟩

theorem coWs_ww : ∀ {ks : List WS} {xs : List W} {us : List P} {n : Nat}, (∀ k ∈ ks, ∀ g ∈ k.names, F g = (m.lookup g).join) → (∀ k ∈ ks, ∀ g ∈ k.names, m.lookup g = some none → nil g) → coWs m ks xs = some us → At vs n us →
    xs.length = (mkWs vs n ks).1.length ∧ (∀ (j : Nat) x y, xs[j]? = some x → (mkWs vs n ks).1[j]? = some y → Ww Cle F nil x y) ∧ (mkWs vs n ks).2 = n + us.length ∧ (mkWs vs n ks).1.flatMap W.names = ks.flatMap WS.names
  | [], xs, us, n, hF, hn, h, ha => by
    cases xs with
    | nil => simp [coWs] at h; subst h; exact ⟨rfl, fun j x y hx => by simp at hx, rfl, rfl⟩
    | cons x xs => simp [coWs] at h
  | k :: ks, xs, us, n, hF, hn, h, ha => by
    cases xs with
    | nil => simp [coWs] at h
    | cons x xs =>
      simp only [coWs] at h
      split at h
      · rename_i u v hu hv
        simp only [Option.some.injEq] at h; subst h
        obtain ⟨a1, a2, a3⟩ := coW_ww (hF k (by simp)) (hn k (by simp)) hu ha.left
        have ih := coWs_ww (n := n + u.length) (fun k hk => hF k (by simp [hk])) (fun k hk => hn k (by simp [hk])) hv ha.right
        simp only [mkWs, a2]
        refine ⟨by simp [ih.1], fun j x' y' hx hy => ?_, by rw [ih.2.2.1]; simp; omega, by simp [a3, ih.2.2.2]⟩
        cases j with
        | zero => simp at hx hy; subst hx hy; exact a1
        | succ j => simp at hx hy; exact ih.2.1 j x' y' hx hy
      · cases h

theorem coS_sw {k : SS} {x : S} {us : List P} {n : Nat} (hF : ∀ g ∈ k.names, F g = (m.lookup g).join) (hnil : ∀ g ∈ k.names, m.lookup g = some none → nil g) (h : coS m k x = some us) (ha : At vs n us) :
    Sw Cle F nil x (mkS vs n k).1 ∧ (mkS vs n k).2 = n + us.length ∧ (mkS vs n k).1.names = k.names := by
  cases k with
  | one k =>
    cases x with
    | v x =>
      cases x with
      | one x =>
        obtain ⟨a1, a2, a3⟩ := coW_ww hF hnil h ha
        exact ⟨.v (.one a1), a2, by simpa [mkS, S.names, V.names, SS.names] using a3⟩
      | agg xs => simp [coS] at h
    | _ => simp [coS] at h
  | agg ks =>
    cases x with
    | v x =>
      cases x with
      | one x => simp [coS] at h
      | agg xs =>
        obtain ⟨a0, a1, a2, a3⟩ := coWs_ww (fun k hk g hg => hF g (by simp only [SS.names, List.mem_flatMap]; exact ⟨k, hk, hg⟩)) (fun k hk g hg => hnil g (by simp only [SS.names, List.mem_flatMap]; exact ⟨k, hk, hg⟩)) h ha
        exact ⟨.v (.agg _ _ a0 a1), a2, by simpa [mkS, S.names, V.names, SS.names] using a3⟩
    | _ => simp [coS] at h

theorem coSlots_sw {s : Nat → S} : ∀ {L : List (Nat × SS)} {us : List P} {n : Nat}, (∀ p ∈ L, ∀ g ∈ p.2.names, F g = (m.lookup g).join) → (∀ p ∈ L, ∀ g ∈ p.2.names, m.lookup g = some none → nil g) → coSlots m s L = some us → At vs n us →
    (∀ t x, (mkSlots vs n L).1.lookup t = some x → Sw Cle F nil (s t) x ∧ ∀ g ∈ x.names, ∃ p ∈ L, g ∈ p.2.names) ∧ (mkSlots vs n L).2 = n + us.length
  | [], us, n, hF, hn, h, ha => by simp [coSlots] at h; subst h; exact ⟨fun t x hx => by simp [mkSlots] at hx, rfl⟩
  | (t0, k) :: L, us, n, hF, hn, h, ha => by
    simp only [coSlots] at h
    split at h
    · rename_i u v hu hv
      simp only [Option.some.injEq] at h; subst h
      obtain ⟨a1, a2, a3⟩ := coS_sw (hF (t0, k) (by simp)) (hn (t0, k) (by simp)) hu ha.left
      have ih := coSlots_sw (n := n + u.length) (fun p hp => hF p (by simp [hp])) (fun p hp => hn p (by simp [hp])) hv ha.right
      simp only [mkSlots, a2]
      refine ⟨fun t x hx => ?_, by rw [ih.2]; simp; omega⟩
      simp only [List.lookup] at hx
      split at hx
      · rename_i he
        have he : t = t0 := by simpa using he
        subst he
        simp only [Option.some.injEq] at hx; subst hx
        exact ⟨a1, fun g hg => ⟨(t, k), by simp, by rw [a3] at hg; exact hg⟩⟩
      · obtain ⟨b1, b2⟩ := ih.1 t x hx
        exact ⟨b1, fun g hg => let ⟨p, hp, hg⟩ := b2 g hg; ⟨p, by simp [hp], hg⟩⟩
    · cases h

theorem coO_ow {k : OS} {x : O} {us : List P} {n : Nat} (hF : ∀ g ∈ k.names, F g = (m.lookup g).join) (hnil : ∀ g ∈ k.names, m.lookup g = some none → nil g) (h : coO m k x = some us) (ha : At vs n us) :
    Ow Cle F nil x (mkO vs n k).1 ∧ (mkO vs n k).2 = n + us.length ∧ (mkO vs n k).1.names = k.names := by
  cases k with
  | box ks =>
    cases x with
    | box xs =>
      obtain ⟨a0, a1, a2, a3⟩ := coWs_ww (fun k hk g hg => hF g (by simp only [OS.names, List.mem_flatMap]; exact ⟨k, hk, hg⟩)) (fun k hk g hg => hnil g (by simp only [OS.names, List.mem_flatMap]; exact ⟨k, hk, hg⟩)) h ha
      exact ⟨.box _ _ a0 a1, a2, by simpa [mkO, O.names, OS.names] using a3⟩
    | _ => simp [coO] at h
  | arr fz a i sz =>
    cases x with
    | arr fz' a' i' sz' l =>
      simp only [coO] at h
      split at h
      · rename_i hc
        simp only [Option.some.injEq] at h; subst h
        obtain ⟨rfl, rfl, hc⟩ := hc
        simp only [Bool.and_eq_true] at hc
        refine ⟨?_, rfl, rfl⟩
        simp only [mkO, ha.head, P.list_mkSl]
        exact .arr fz sz l ⟨imp_spec hc.1, imp_spec hc.2⟩
      · cases h
    | _ => simp [coO] at h
  | it =>
    cases x with
    | it s p =>
      simp only [coO, Option.some.injEq] at h
      subst h
      refine ⟨?_, rfl, rfl⟩
      have h0 : vs.getD n default = s := At.head (At.left (us1 := [s]) (us2 := [p]) ha)
      have h1 : vs.getD (n + 1) default = p := At.head (At.right (us1 := [s]) (us2 := [p]) ha)
      simp only [mkO, h0, h1]
      exact .it s p
    | _ => simp [coO] at h
end

theorem nodupB_spec : ∀ {l : List Nat}, nodupB l = true → l.Nodup
  | [], _ => List.nodup_nil
  | x :: l, h => by
    simp only [nodupB, Bool.and_eq_true, Bool.not_eq_true', List.contains_eq_mem, decide_eq_false_iff_not] at h
    exact List.nodup_cons.2 ⟨h.1, nodupB_spec h.2⟩

theorem coObjs_ow {vs : List P} {m : Ren} {F : Nat → Option Nat} {nil : Nat → Prop} {o : Nat → O} : ∀ {L : List (Nat × OS)} {us : List P} {n : Nat}, (∀ p ∈ L, ∀ g ∈ p.2.names, F g = (m.lookup g).join) → (∀ p ∈ L, ∀ g ∈ p.2.names, m.lookup g = some none → nil g) →
    (L.map (·.1)).Nodup → coObjs m o L = some us → At vs n us →
    (∀ g' x, (mkObjs vs n L).1.lookup g' = some x → (g' ∈ L.map (·.1)) ∧ (∀ g ∈ x.names, ∃ p ∈ L, g ∈ p.2.names) ∧ ((∃ g, m.lookup g' = some (some g) ∧ Ow Cle F nil (o g) x) ∨ (m.lookup g' = some none ∧ ∃ a i sz, x = .arr false a i sz []))) ∧
    (∀ g' ∈ L.map (·.1), ∃ x, (mkObjs vs n L).1.lookup g' = some x)
  | [], us, n, hF, hn, hd, h, ha => ⟨fun g x hx => by simp [mkObjs] at hx, fun g hg => by simp at hg⟩
  | (g0, k) :: L, us, n, hF, hn, hd, h, ha => by
    simp only [coObjs] at h
    split at h
    · rename_i u v hu hv
      simp only [Option.some.injEq] at h; subst h
      simp only [List.map_cons, List.nodup_cons] at hd
      have key : (mkO vs n k).2 = n + u.length ∧ (mkO vs n k).1.names = k.names ∧ ((∃ g, m.lookup g0 = some (some g) ∧ Ow Cle F nil (o g) (mkO vs n k).1) ∨ (m.lookup g0 = some none ∧ ∃ a i sz, (mkO vs n k).1 = .arr false a i sz [])) := by
        split at hu
        · rename_i g hg
          obtain ⟨a1, a2, a3⟩ := coO_ow (hF (g0, k) (by simp)) (hn (g0, k) (by simp)) hu ha.left
          exact ⟨a2, a3, .inl ⟨g, hg, a1⟩⟩
        · rename_i hg
          split at hu
          · rename_i a i sz
            simp only [Option.some.injEq] at hu; subst hu
            refine ⟨rfl, rfl, .inr ⟨hg, a, i, sz, ?_⟩⟩
            simp only [mkO, ha.left.head]; rfl
          · cases hu
        · cases hu
      obtain ⟨a2, a3, a1⟩ := key
      have ih := coObjs_ow (n := n + u.length) (fun p hp => hF p (by simp [hp])) (fun p hp => hn p (by simp [hp])) hd.2 hv ha.right
      simp only [mkObjs, a2]
      refine ⟨fun g' x hx => ?_, fun g' hg' => ?_⟩
      · simp only [List.lookup] at hx
        split at hx
        · rename_i he
          have he : g' = g0 := by simpa using he
          subst he
          simp only [Option.some.injEq] at hx; subst hx
          exact ⟨by simp, fun g hg => ⟨(g', k), by simp, by rw [a3] at hg; exact hg⟩, a1⟩
        · obtain ⟨b0, b1, b2⟩ := ih.1 g' x hx
          exact ⟨by simp [b0], fun g hg => let ⟨p, hp, hg⟩ := b1 g hg; ⟨p, by simp [hp], hg⟩, b2⟩
      · simp only [List.lookup]
        by_cases he : g' = g0
        · subst he; simp
        · have : (g' == g0) = false := by simpa using he
          rw [this]
          exact ih.2 g' (by simpa [he] using hg')
    · cases h

theorem filterMap_inj {f : Nat → Option Nat} {g1 g2 g : Nat} : ∀ {L : List Nat}, L.Nodup → (L.filterMap f).Nodup → g1 ∈ L → g2 ∈ L → f g1 = some g → f g2 = some g → g1 = g2
  | [], _, _, n1, _, _, _ => by cases n1
  | y :: L, hnd, hren, n1, n2, m1, m2 => by
    simp only [List.nodup_cons] at hnd
    simp only [List.filterMap_cons] at hren
    have hsub : ∀ {z}, z ∈ L → f z = some g → g ∈ L.filterMap f := fun hz he => List.mem_filterMap.2 ⟨_, hz, he⟩
    rcases List.mem_cons.1 n1 with e1 | e1 <;> rcases List.mem_cons.1 n2 with e2 | e2
    · rw [e1, e2]
    · subst e1; rw [m1] at hren; simp only [List.nodup_cons] at hren; exact absurd (hsub e2 m2) hren.1
    · subst e2; rw [m2] at hren; simp only [List.nodup_cons] at hren; exact absurd (hsub e1 m1) hren.1
    · refine filterMap_inj hnd.2 ?_ e1 e2 m1 m2
      split at hren
      · exact hren
      · exact (List.nodup_cons.1 hren).2

theorem coerce_recast {j : Shape} {m : Ren} {st : St} {vs : List P} (h : coerce j m st = some vs) : Recast Cle (renF j m) st (mk j vs) := by
  unfold coerce at h
  split at h
  · rename_i hok
    split at h
    · rename_i u v hu hv
      simp only [Option.some.injEq] at h; subst h
      simp only [Bool.and_eq_true, Shape.ok, List.all_eq_true, List.contains_eq_mem, decide_eq_true_eq] at hok
      obtain ⟨⟨⟨hnd, hsl⟩, hob⟩, hren⟩ := hok
      have hnd' := nodupB_spec hnd
      have hAt : At (u ++ v) 0 (u ++ v) := fun k y hk => by rw [Nat.zero_add]; exact hk
      have hF : ∀ g ∈ j.nms, renF j m g = (m.lookup g).join := fun g hg => by simp [renF, hg]
      -- what is new and empty
      have hobj := fun nil (hnil : ∀ p ∈ j.objs, ∀ g ∈ p.2.names, m.lookup g = some none → nil g) => coObjs_ow (vs := u ++ v) (F := renF j m) (nil := nil) (n := u.length) (fun p hp g hg => hF g (hob p hp g hg)) hnil hnd' hv (by
        have := hAt.right; rwa [Nat.zero_add] at this)
      have hslots := fun nil (hnil : ∀ p ∈ j.slots, ∀ g ∈ p.2.names, m.lookup g = some none → nil g) => coSlots_sw (vs := u ++ v) (F := renF j m) (nil := nil) (n := 0) (fun p hp g hg => hF g (hsl p hp g hg)) hnil hu hAt.left
      have hlen : (mkSlots (u ++ v) 0 j.slots).2 = u.length := by have := (hslots (fun _ => True) (fun _ _ _ _ _ => trivial)).2; omega
      have hnil : ∀ g ∈ j.nms, m.lookup g = some none → ∃ a i sz, (mk j (u ++ v)).o g = .arr false a i sz [] := by
        intro g hg hm
        have hO := hobj (fun _ => True) (fun _ _ _ _ _ => trivial)
        obtain ⟨x, hx⟩ := hO.2 g hg
        rcases (hO.1 g x hx).2.2 with ⟨g2, h2, _⟩ | ⟨_, a, i, sz, e⟩
        · rw [hm] at h2; cases h2
        · refine ⟨a, i, sz, ?_⟩
          show (match (mkObjs (u ++ v) (mkSlots (u ++ v) 0 j.slots).2 j.objs).1.lookup g with | some x => x | none => .none) = _
          rw [hlen, hx, e]
      have hO := hobj (fun g => ∃ a i sz, (mk j (u ++ v)).o g = .arr false a i sz []) (fun p hp g hg hm => hnil g (hob p hp g hg) hm)
      have hS := hslots (fun g => ∃ a i sz, (mk j (u ++ v)).o g = .arr false a i sz []) (fun p hp g hg hm => hnil g (hsl p hp g hg) hm)
      have hoo : ∀ g x, (mk j (u ++ v)).o g = x → x ≠ .none → (mkObjs (u ++ v) u.length j.objs).1.lookup g = some x := by
        intro g x hx hne
        have hx : (match (mkObjs (u ++ v) (mkSlots (u ++ v) 0 j.slots).2 j.objs).1.lookup g with | some x => x | none => .none) = x := hx
        rw [hlen] at hx
        cases hz : (mkObjs (u ++ v) u.length j.objs).1.lookup g with
        | none => rw [hz] at hx; exact absurd hx.symm hne
        | some y => rw [hz] at hx; rw [← hx]
      refine ⟨fun t => ?_, fun g' g hm => ?_, fun g' hm => ?_, fun g1 g2 g h1 h2 m1 m2 => ?_, fun t g hg => ?_, fun g0 g hg => ?_, fun g hg => ?_⟩
      · show Sw _ _ _ (st.s t) (match (mkSlots (u ++ v) 0 j.slots).1.lookup t with | some x => x | none => .no)
        cases hx : (mkSlots (u ++ v) 0 j.slots).1.lookup t with
        | none => exact .no _
        | some x => exact (hS.1 t x hx).1
      · by_cases hne : (mk j (u ++ v)).o g' = .none
        · rw [hne]; exact .none _
        · have hx := hoo g' _ rfl hne
          obtain ⟨b0, b1, b2⟩ := hO.1 g' _ hx
          rw [hF g' b0] at hm
          rcases b2 with ⟨g3, h3, h4⟩ | ⟨h3, _⟩
          · rw [h3] at hm; cases hm; exact h4
          · rw [h3] at hm; cases hm
      · by_cases hne : (mk j (u ++ v)).o g' = .none
        · exact .inl hne
        · have hx := hoo g' _ rfl hne
          obtain ⟨b0, b1, b2⟩ := hO.1 g' _ hx
          rw [hF g' b0] at hm
          rcases b2 with ⟨g3, h3, h4⟩ | ⟨h3, e⟩
          · rw [h3] at hm; cases hm
          · exact .inr e
      · have n1 : g1 ∈ j.nms := by have := hO.1 g1 _ (hoo g1 _ rfl (by intro e; rw [e] at h1; cases h1)); exact this.1
        have n2 : g2 ∈ j.nms := by have := hO.1 g2 _ (hoo g2 _ rfl (by intro e; rw [e] at h2; cases h2)); exact this.1
        rw [hF g1 n1] at m1; rw [hF g2 n2] at m2
        exact filterMap_inj hnd' (nodupB_spec hren) n1 n2 m1 m2
      · have hg : g ∈ (match (mkSlots (u ++ v) 0 j.slots).1.lookup t with | some x => x | none => S.no).names := hg
        cases hx : (mkSlots (u ++ v) 0 j.slots).1.lookup t with
        | none => rw [hx] at hg; simp [S.names] at hg
        | some x =>
          rw [hx] at hg
          obtain ⟨p, hp, hg⟩ := (hS.1 t x hx).2 g hg
          simpa [mk] using hsl p hp g hg
      · by_cases hne : (mk j (u ++ v)).o g0 = .none
        · rw [hne] at hg; simp [O.names] at hg
        · obtain ⟨b0, b1, b2⟩ := hO.1 g0 _ (hoo g0 _ rfl hne)
          obtain ⟨p, hp, hg⟩ := b1 g hg
          simpa [mk] using hob p hp g hg
      · have := (hO.1 g _ (hoo g _ rfl hg)).1
        simpa [mk, Shape.nms] using this
    · cases h
  · cases h
end Go.Fw

/-
  THE FRAMEWORK, PART I: calls, guards, regions, code: what a function's text asks of an abstract state (definitions).
-/
namespace Go.Fw
set_option linter.unusedSectionVars false
variable [Globs]
set_option linter.unusedVariables false

/-! ### Contracts -/
/-- What comes in: slots 0, 1, .. (plain data of class (true, false), handles), arrays that are handed over, boxes that are lent (plain data of class (false, true)). What goes out: the results in slots 0, 1, ..; the boxes; new arrays. -/
structure Sig where
  nargs : Nat
  pin : Shape
  pout : Shape
  nres : Nat
  ios : List Nat
  news : List Nat
structure Spec where
  sig : Sig
  R : List P → List P → Prop
abbrev Tab := FuncId → Option Spec

def bor2 (x y : Bool × Bool) : Bool × Bool := (x.1 || y.1, x.2 || y.2)
def disj (xs ys : List Nat) : Bool := xs.all fun x => !ys.contains x
def WS.flags (a i : Bool) : WS → Bool
  | .p a' i' => (a == a') && (i == i')
  | .own _ => true
  | .box _ off => off == 0
  | .nils => false
  | .fn _ => true
  | .itp _ => false
  | .no => false
def SS.flags (a i : Bool) : SS → Bool
  | .one x => x.flags a i
  | .agg xs => xs.all (WS.flags a i)
def WS.outs (news : List Nat) : WS → Bool
  | .p _ _ => true
  | .own g => news.contains g
  | .box g _ => news.contains g
  | .nils => true
  | _ => false
def SS.outs (news : List Nat) : SS → Bool
  | .one x => x.outs news
  | .agg xs => xs.all (WS.outs news)
def WS.isA : WS → Bool
  | .p a _ => a
  | _ => false
def SS.isA : SS → Bool
  | .one x => x.isA
  | .agg xs => xs.any WS.isA
def OS.isA : OS → Bool
  | .box ws => ws.any WS.isA
  | .arr _ a _ _ => a
  | .it => false
/-- Does anything that goes out lead to what was handed in by value? -/
def Sig.leaks (s : Sig) : Bool := s.pout.slots.any (·.2.isA) || s.pout.objs.any (·.2.isA)
/-- What is lent comes back as what it was: a box, or an array of elements of the same size. -/
def OS.kin : Option OS → Option OS → Bool
  | some (.box _), some (.box _) => true
  | some (.arr _ _ _ sz), some (.arr _ _ _ sz') => Nat.beq sz sz'
  | _, _ => false
def OS.isBox : Option OS → Bool
  | some (.box _) => true
  | _ => false
def Sig.ok (s : Sig) : Bool :=
  s.pin.ok && s.pout.ok && s.pin.slots.all (fun p => p.2.flags true false && decide (p.1 < s.nargs)) &&
  s.pin.objs.all (fun p => match p.2 with
    | .box ws => ws.all (fun k => k.flags false true && (match k with | .box _ _ => false | _ => true)) && s.ios.contains p.1
    | .arr fz a i _ => !fz && !a && i
    | .it => false) &&
  s.pout.slots.all (fun p => p.2.outs s.news) &&
  s.pout.objs.all (fun p => match p.2 with
    | .box ws => ws.all (WS.outs s.news) && ((s.ios.contains p.1 && s.pin.nms.contains p.1) || s.news.contains p.1)
    | .arr fz _ _ _ => !fz && (s.news.contains p.1 || s.ios.contains p.1)
    | .it => false) &&
  disj s.ios s.news && nodupB s.news && s.ios.all (fun g => OS.kin (s.pin.objs.lookup g) (s.pout.objs.lookup g))
/-- Are only boxes lent? -/
def Sig.boxy (s : Sig) : Bool := s.ios.all fun g => OS.isBox (s.pin.objs.lookup g) && OS.isBox (s.pout.objs.lookup g)

/-- What goes into a call: the data, their classes, the objects that are read through handles, the objects that are lent or handed over (their names there and here). -/
structure CIn where
  ins : List P
  A : Bool × Bool
  I : Bool × Bool
  bor : List Nat
  ren : List (Nat × Nat)

def argW (o : Nat → O) : WS → W → Option (List P × (Bool × Bool) × List Nat × List (Nat × Nat))
  | .p _ _, x => match x.toP o with
    | some (y, a, i, gs) => some ([y], (a, i), gs, [])
    | none => none
  | .own g', .own g => some ([], (false, false), [], [(g', g)])
  | .box g' 0, .box g 0 => some ([], (false, false), [], [(g', g)])
  | .fn f, .clo f' [] => if f = f' then some ([], (false, false), [], []) else none
  | _, _ => none
def argWs (o : Nat → O) : List WS → List W → Option (List P × (Bool × Bool) × List Nat × List (Nat × Nat))
  | [], [] => some ([], (false, false), [], [])
  | k :: ks, x :: xs => match argW o k x, argWs o ks xs with
    | some (u, c, g, r), some (u', c', g', r') => some (u ++ u', bor2 c c', g ++ g', r ++ r')
    | _, _ => none
  | _, _ => none
def argS (o : Nat → O) : SS → S → Option (List P × (Bool × Bool) × List Nat × List (Nat × Nat))
  | .one k, .v (.one x) => argW o k x
  | .agg ks, .v (.agg xs) => argWs o ks xs
  | _, _ => none
def argSlots (o : Nat → O) (args : List S) : List (Nat × SS) → Option (List P × (Bool × Bool) × List Nat × List (Nat × Nat))
  | [] => some ([], (false, false), [], [])
  | (t, k) :: rest => match argS o k (args.getD t .no), argSlots o args rest with
    | some (u, c, g, r), some (u', c', g', r') => some (u ++ u', bor2 c c', g ++ g', r ++ r')
    | _, _ => none
/-- The words of a lent box. -/
def ioW : WS → W → Option (List P × (Bool × Bool) × List (Nat × Nat))
  | .p _ _, .p a i x => some ([x], (a, i), [])
  | .p _ _, .nils => some ([.sl 0 []], (false, false), [])
  | .own g', .own g => some ([], (false, false), [(g', g)])
  | _, _ => none
def ioWs : List WS → List W → Option (List P × (Bool × Bool) × List (Nat × Nat))
  | [], [] => some ([], (false, false), [])
  | k :: ks, x :: xs => match ioW k x, ioWs ks xs with
    | some (u, c, r), some (u', c', r') => some (u ++ u', bor2 c c', r ++ r')
    | _, _ => none
  | _, _ => none
def ioObjs (o : Nat → O) : List (Nat × Nat) → List (Nat × OS) → Option (List P × (Bool × Bool) × List (Nat × Nat))
  | ren, [] => some ([], (false, false), ren)
  | ren, (g', k) :: rest => match ren.lookup g' with
    | some g => match k, o g with
      | .box ks, .box ws => match ioWs ks ws with
        | some (u, c, r) => match ioObjs o (ren ++ r) rest with
          | some (u', c', r') => some (u ++ u', bor2 c c', r')
          | none => none
        | none => none
      | .arr _ _ _ sz, .arr false a i sz' l => if sz = sz' then match ioObjs o ren rest with
        | some (u', c', r') => some (P.mkSl sz l :: u', bor2 (a, i) c', r')
        | none => none
        else none
      | _, _ => none
    | none => none
def argsIn (s : Sig) (o : Nat → O) (args : List S) : Option CIn :=
  match argSlots o args s.pin.slots with
  | some (u, A, gs, r) => match ioObjs o r s.pin.objs with
    | some (u', I, r') => some { ins := u ++ u', A, I, bor := gs, ren := r' }
    | none => none
  | none => none
def CIn.fine (c : CIn) (s : Sig) : Bool := nodupB (c.ren.map (·.2)) && nodupB (c.ren.map (·.1)) && disj (c.ren.map (·.2)) c.bor && (c.ren.map (·.1)).all (fun g => s.pin.nms.contains g)

/-- A class of the callee's, seen by the caller. -/
def clsOf (A I : Bool × Bool) (a i : Bool) : Bool × Bool := ((a && A.1) || (i && I.1), (a && A.2) || (i && I.2))
def reW (A I : Bool × Bool) (f : Nat → Nat) : W → W
  | .p a i x => .p (clsOf A I a i).1 (clsOf A I a i).2 x
  | .nils => .nils
  | .own g => .own (f g)
  | .box g off => .box (f g) off
  | _ => .no
def reV (A I : Bool × Bool) (f : Nat → Nat) : V → V
  | .one x => .one (reW A I f x)
  | .agg xs => .agg (xs.map (reW A I f))
def reS (A I : Bool × Bool) (f : Nat → Nat) : S → V
  | .v x => reV A I f x
  | _ => .one .no
def reO (A I : Bool × Bool) (f : Nat → Nat) : O → O
  | .none => .none
  | .box ws => .box (ws.map (reW A I f))
  | .arr fz a i sz l => .arr fz (clsOf A I a i).1 (clsOf A I a i).2 sz l
  | .it s n => .it s n
/-- The caller's name for a new array. -/
def newName (d : Nat) (news : List Nat) (g : Nat) : Nat := d + 1000 * news.idxOf g

/-- What an operation does: the new slot, the objects that turn, the new names. -/
structure Eff where
  x : S
  upd : List (Nat × O)
  new : List Nat
def retS (vs : List V) : S := match vs with
  | [x] => .v x
  | xs => .tup xs
/-- What a call does. -/
def callEff (s : Sig) (d : Nat) (o : Nat → O) (c : CIn) (outs : List P) : Eff :=
  let x := mk s.pout outs
  let f := newName d s.news
  { x := retS ((List.range s.nres).map fun k => reS c.A c.I f (x.s k)),
    upd := (if s.leaks then c.bor.map (freeze o) else []) ++ c.ren.map (fun p => (p.2, if s.ios.contains p.1 then reO c.A c.I f (x.o p.1) else .none)) ++ s.news.map (fun g => (f g, reO c.A c.I f (x.o g))),
    new := s.news.map f }

/-! ### One operation, guarded or not -/
/-- A datum that is bound: K of it. -/
inductive Bnd (x : P) (K : P → Prop) : Prop where
  | mk (h : ∀ z, z = x → K z)
theorem Bnd.iff {x : P} {K : P → Prop} : Bnd x K ↔ K x := ⟨fun ⟨h⟩ => h x rfl, fun h => ⟨fun z e => e ▸ h⟩⟩
def calcs : Op → Bool
  | .pick .. | .binOp .. | .unOp .. | .convert .. | .index .. | .call .. | .makeSlice .. | .store .. | .buildSlice .. | .slice .. => true
  | _ => false

/-- The guard's datum: what must hold of it, and whether the operation runs. -/
def guardOf (ops : Array Oper) (st : St) (j : Nat) (want : Bool) : Option Bool :=
  match (ops[j]?).bind (·.dst) with
  | some t => match st.s t with
    | .v (.one (.p _ _ (.bool b))) => some (bif want then b else !b)
    | .tup [] => some false
    | _ => none
  | none => none
/-- An operation that is passed over gives 'undef', the empty tuple. -/
def Eff.skip : Eff := { x := .tup [], upd := [], new := [] }

/-- The operation without its guard: what it asks, and its effect. -/
def effOf (T : Tab) (tt : TT) (d : Nat) (st : St) (o : Oper) (K : Eff → Prop) : Prop :=
  match o.op with
  | .call { callee := .value f, args, .. } => match st.opnd f with
    | .v (.one (.clo fn caps)) => match T fn with
      | some sp => match argsIn sp.sig st.o ((args.toList.map st.opnd) ++ caps.map fun x => S.v (.one x)) with
        | some c => (c.fine sp.sig && decide (args.size + caps.length = sp.sig.nargs)) = true ∧ ∃ outs, sp.R c.ins outs ∧ K (callEff sp.sig d st.o c outs)
        | none => False
      | none => False
    | _ => False
  | op => match kernel tt d st.o st.opnd op o.type with
    | some r => r.pre ∧ bif calcs op then Bnd r.val fun z => K { x := r.dst z, upd := r.upd z, new := r.new } else K { x := r.dst r.val, upd := r.upd r.val, new := r.new }
    | none => False
def St.eff (st : St) (dst : Option Tmp) (e : Eff) : St := (st.upd e.upd e.new).put dst e.x

/-- The step: N slots; ops: the region. -/
def stepW (T : Tab) (tt : TT) (N : Nat) (ops : Array Oper) (o : Oper) (st : St) (K : Eff → Prop) : Prop :=
  (match o.dst with
    | some d => decide (d < N)
    | none => true) = true ∧
  match o.guard with
  | none => effOf T tt (o.dst.getD 0) st o fun e => e.new.all (fun g => !st.used g) = true ∧ K e
  | some (j, want) => match guardOf ops st j want with
    | some b => bif b then effOf T tt (o.dst.getD 0) st o fun e => e.new.all (fun g => !st.used g) = true ∧ K e else K Eff.skip
    | none => False
end Go.Fw

/-
  THE FRAMEWORK, PART L: a call by contract: what goes in.
-/
namespace Go.Fw
set_option linter.unusedSectionVars false
variable [Globs]
set_option linter.unusedVariables false

theorem lookup_of_mem {α : Type} : ∀ {l : List (Nat × α)}, (l.map (·.1)).Nodup → ∀ {k : Nat} {v : α}, (k, v) ∈ l → l.lookup k = some v
  | [], _, k, v, h => by cases h
  | (k0, v0) :: l, hn, k, v, h => by
    simp only [List.map_cons, List.nodup_cons] at hn
    simp only [List.lookup]
    rcases List.mem_cons.1 h with e | e
    · cases e; simp
    · have hne : (k == k0) = false := by
        have : k ∈ l.map (·.1) := List.mem_map.2 ⟨(k, v), e, rfl⟩
        have : k ≠ k0 := fun e => hn.1 (by rw [← e]; exact this)
        simpa using this
      rw [hne]
      exact lookup_of_mem hn.2 e
theorem mem_of_lookup {α : Type} : ∀ {l : List (Nat × α)} {k : Nat} {v : α}, l.lookup k = some v → (k, v) ∈ l
  | [], k, v, h => by simp at h
  | (k0, v0) :: l, k, v, h => by
    simp only [List.lookup] at h
    split at h
    · rename_i he
      have he : k = k0 := by simpa using he
      simp only [Option.some.injEq] at h
      subst he h; simp
    · exact List.mem_cons_of_mem _ (mem_of_lookup h)
theorem lookup_append_left {α : Type} {l r : List (Nat × α)} {k : Nat} {v : α} (h : l.lookup k = some v) : (l ++ r).lookup k = some v := by
  induction l with
  | nil => simp at h
  | cons p l ih =>
    obtain ⟨k0, v0⟩ := p
    simp only [List.cons_append, List.lookup] at h ⊢
    split
    · rename_i he; rw [he] at h; exact h
    · rename_i he; rw [he] at h; exact ih h

/-- Class c is within class d. -/
def cin (c d : Bool × Bool) : Prop := (c.1 = true → d.1 = true) ∧ (c.2 = true → d.2 = true)
theorem cin_refl (c : Bool × Bool) : cin c c := ⟨id, id⟩
theorem cin_left {c c' d : Bool × Bool} (h : cin (bor2 c c') d) : cin c d := ⟨fun e => h.1 (by simp [bor2, e]), fun e => h.2 (by simp [bor2, e])⟩
theorem cin_right {c c' d : Bool × Bool} (h : cin (bor2 c c') d) : cin c' d := ⟨fun e => h.1 (by simp [bor2, e]), fun e => h.2 (by simp [bor2, e])⟩

/-- The classes of what lies behind pointers. -/
def Cio (I : Bool × Bool) (a i a' i' : Bool) : Prop := a' = false ∧ i' = true ∧ cin (a, i) I

section
variable {o : Nat → O} {ins : List P} {m : Nat → Option Nat} {nil : Nat → Prop} {I : Bool × Bool}

theorem flags_p {a i : Bool} {a' i' : Bool} (h : (WS.p a' i').flags a i = true) : a' = a ∧ i' = i := by
  simp only [WS.flags, Bool.and_eq_true, beq_iff_eq] at h
  exact ⟨h.1.symm, h.2.symm⟩

theorem ioW_ww {k : WS} {x : W} {us : List P} {c : Bool × Bool} {r : List (Nat × Nat)} {n : Nat} (h : ioW k x = some (us, c, r)) (hk : k.flags false true = true) (hc : cin c I) (hm : ∀ p ∈ r, m p.1 = some p.2) (ha : At ins n us) :
    Ww (Cio I) m nil x (mkW ins n k).1 ∧ (mkW ins n k).2 = n + us.length := by
  cases k with
  | p a' i' =>
    obtain ⟨rfl, rfl⟩ := flags_p hk
    cases x with
    | p a i y =>
      simp only [ioW, Option.some.injEq, Prod.mk.injEq] at h
      obtain ⟨rfl, rfl, rfl⟩ := h
      exact ⟨by simp only [mkW, ha.head]; exact .p y ⟨rfl, rfl, hc⟩, rfl⟩
    | nils =>
      simp only [ioW, Option.some.injEq, Prod.mk.injEq] at h
      obtain ⟨rfl, rfl, rfl⟩ := h
      exact ⟨by simp only [mkW, ha.head]; exact .nilP _ _ _, rfl⟩
    | _ => simp [ioW] at h
  | own g' =>
    cases x with
    | own g =>
      simp only [ioW, Option.some.injEq, Prod.mk.injEq] at h
      obtain ⟨rfl, rfl, rfl⟩ := h
      exact ⟨.own (hm (g', g) (by simp)), rfl⟩
    | _ => simp [ioW] at h
  | _ => simp [ioW] at h

theorem ioWs_ww : ∀ {ks : List WS} {xs : List W} {us : List P} {c : Bool × Bool} {r : List (Nat × Nat)} {n : Nat}, ioWs ks xs = some (us, c, r) → (∀ k ∈ ks, k.flags false true = true) → cin c I → (∀ p ∈ r, m p.1 = some p.2) → At ins n us →
    xs.length = (mkWs ins n ks).1.length ∧ (∀ (j : Nat) x y, xs[j]? = some x → (mkWs ins n ks).1[j]? = some y → Ww (Cio I) m nil x y) ∧ (mkWs ins n ks).2 = n + us.length
  | [], xs, us, c, r, n, h, hk, hc, hm, ha => by
    cases xs with
    | nil => simp [ioWs] at h; obtain ⟨rfl, _⟩ := h; exact ⟨rfl, fun j x y hx => by simp at hx, rfl⟩
    | cons x xs => simp [ioWs] at h
  | k :: ks, xs, us, c, r, n, h, hk, hc, hm, ha => by
    cases xs with
    | nil => simp [ioWs] at h
    | cons x xs =>
      simp only [ioWs] at h
      split at h
      · rename_i u c1 r1 u' c2 r2 h1 h2
        simp only [Option.some.injEq, Prod.mk.injEq] at h
        obtain ⟨rfl, rfl, rfl⟩ := h
        obtain ⟨a1, a2⟩ := ioW_ww (nil := nil) h1 (hk k (by simp)) (cin_left hc) (fun p hp => hm p (by simp [hp])) ha.left
        have ih := ioWs_ww (n := n + u.length) h2 (fun k hk' => hk k (by simp [hk'])) (cin_right hc) (fun p hp => hm p (by simp [hp])) ha.right
        simp only [mkWs, a2]
        refine ⟨by simp [ih.1], fun j x' y' hx hy => ?_, by rw [ih.2.2]; simp; omega⟩
        cases j with
        | zero => simp at hx hy; subst hx hy; exact a1
        | succ j => simp at hx hy; exact ih.2.1 j x' y' hx hy
      · cases h

/-- The objects that are lent or handed over. -/
theorem ioObjs_ow : ∀ {L : List (Nat × OS)} {ren ren' : List (Nat × Nat)} {us : List P} {c : Bool × Bool} {n : Nat}, ioObjs o ren L = some (us, c, ren') →
    (∀ p ∈ L, match p.2 with | .box ws => ∀ k ∈ ws, k.flags false true = true | .arr fz a i _ => fz = false ∧ a = false ∧ i = true | .it => False) → cin c I → (∀ p ∈ ren', m p.1 = some p.2) → At ins n us →
    (∃ r, ren' = ren ++ r) ∧ ∀ g' x, (mkObjs ins n L).1.lookup g' = some x → ∃ g, m g' = some g ∧ Ow (Cio I) m nil (o g) x ∧ (g', g) ∈ ren' ∧ (o g).owned = true ∧ ((∃ ws, x = .box ws) ∨ ∃ l sz, x = .arr false false true sz l)
  | [], ren, ren', us, c, n, h, hk, hc, hm, ha => by
    simp only [ioObjs, Option.some.injEq, Prod.mk.injEq] at h
    obtain ⟨rfl, rfl, rfl⟩ := h
    exact ⟨⟨[], by simp⟩, fun g' x hx => by simp [mkObjs] at hx⟩
  | (g0, k) :: L, ren, ren', us, c, n, h, hk, hc, hm, ha => by
    simp only [ioObjs] at h
    split at h
    · rename_i g hg
      split at h
      · rename_i ks ws hog
        split at h
        · rename_i u c1 r1 h1
          split at h
          · rename_i u' c2 r2 h2
            simp only [Option.some.injEq, Prod.mk.injEq] at h
            obtain ⟨rfl, rfl, rfl⟩ := h
            have hk0 := hk (g0, .box ks) (by simp)
            have ih := fun hm' => ioObjs_ow (n := n + u.length) h2 (fun p hp => hk p (by simp [hp])) (cin_right hc) hm' ha.right
            obtain ⟨⟨r, hr⟩, ih⟩ := ih hm
            obtain ⟨b0, b1, b2⟩ := ioWs_ww (nil := nil) h1 hk0 (cin_left hc) (fun p hp => hm p (by rw [hr]; simp [hp])) ha.left
            simp only [mkObjs, mkO, b2]
            refine ⟨⟨r1 ++ r, by rw [hr, List.append_assoc]⟩, fun g' x hx => ?_⟩
            simp only [List.lookup] at hx
            split at hx
            · rename_i he
              have he : g' = g0 := by simpa using he
              subst he
              simp only [Option.some.injEq] at hx; subst hx
              have hmem : (g', g) ∈ r2 := by rw [hr, List.append_assoc]; exact List.mem_append_left _ (mem_of_lookup hg)
              exact ⟨g, hm _ hmem, by rw [hog]; exact .box _ _ b0 b1, hmem, by rw [hog]; rfl, .inl ⟨_, rfl⟩⟩
            · exact ih g' x hx
          · cases h
        · cases h
      · rename_i fz0 a0 i0 sz a i sz' l hog
        split at h
        · rename_i hsz
          split at h
          · rename_i u' c2 r2 h2
            simp only [Option.some.injEq, Prod.mk.injEq] at h
            obtain ⟨rfl, rfl, rfl⟩ := h
            subst hsz
            have hk0 := hk (g0, .arr fz0 a0 i0 sz) (by simp)
            obtain ⟨rfl, rfl, rfl⟩ := hk0
            have hhead : At ins n [P.mkSl sz l] := fun k y hk => ha k y (by cases k with | zero => simpa using hk | succ k => simp at hk)
            have htail : At ins (n + 1) u' := fun k y hk => by
              have := ha (k + 1) y (by simpa using hk)
              rw [← this]; congr 1; omega
            obtain ⟨⟨r, hr⟩, ih⟩ := ioObjs_ow (n := n + 1) h2 (fun p hp => hk p (by simp [hp])) (cin_right hc) hm htail
            simp only [mkObjs, mkO, hhead.head, P.list_mkSl]
            refine ⟨⟨r, hr⟩, fun g' x hx => ?_⟩
            simp only [List.lookup] at hx
            split at hx
            · rename_i he
              have he : g' = g0 := by simpa using he
              subst he
              simp only [Option.some.injEq] at hx; subst hx
              have hmem : (g', g) ∈ r2 := by rw [hr]; exact List.mem_append_left _ (mem_of_lookup hg)
              exact ⟨g, hm _ hmem, by rw [hog]; exact .arr false sz l ⟨rfl, rfl, cin_left hc⟩, hmem, by rw [hog]; rfl, .inr ⟨_, _, rfl⟩⟩
            · exact ih g' x hx
          · cases h
        · cases h
      · cases h
    · cases h
end

section
variable {E E' : Env} {st est : St} {gh gh1 : Nat → Gh} {w : World} {ins : List P} {A : Bool × Bool} {bor : List Nat} {m : Nat → Option Nat} {nil : Nat → Prop} {C : Bool → Bool → Bool → Bool → Prop}

theorem argW_rep (hP : ∀ x v y a i gs, RepW E st gh w x v → x.toP st.o = some (y, a, i, gs) → cin (a, i) A → (∀ g ∈ gs, g ∈ bor) → RepP w (E'.ok est gh1 w true false) y v) (hC : Cast C m nil E E' st est gh gh1 w)
    {k : WS} {x : W} {v : Value} {us : List P} {c : Bool × Bool} {gs : List Nat} {r : List (Nat × Nat)} {n : Nat} (h : argW st.o k x = some (us, c, gs, r)) (hk : k.flags true false = true) (hc : cin c A) (hgs : ∀ g ∈ gs, g ∈ bor)
    (hm : ∀ p ∈ r, m p.1 = some p.2) (ha : At ins n us) (hr : RepW E st gh w x v) : RepW E' est gh1 w (mkW ins n k).1 v ∧ (mkW ins n k).2 = n + us.length := by
  cases k with
  | p a' i' =>
    obtain ⟨rfl, rfl⟩ := flags_p hk
    simp only [argW] at h
    split at h
    · rename_i y a i gs' ht
      simp only [Option.some.injEq, Prod.mk.injEq] at h
      obtain ⟨rfl, rfl, rfl, rfl⟩ := h
      exact ⟨by simp only [mkW, ha.head]; exact .p _ _ _ _ (hP _ _ _ _ _ _ hr ht hc hgs), rfl⟩
    · cases h
  | own g' =>
    cases x with
    | own g =>
      simp only [argW, Option.some.injEq, Prod.mk.injEq] at h
      obtain ⟨rfl, rfl, rfl, rfl⟩ := h
      exact ⟨hC.repW (.own (hm (g', g) (by simp))) hr, rfl⟩
    | _ => simp [argW] at h
  | box g' off =>
    cases x with
    | box g off' =>
      cases off with
      | succ off => simp [argW] at h
      | zero =>
        cases off' with
        | succ off' => simp [argW] at h
        | zero =>
          simp only [argW, Option.some.injEq, Prod.mk.injEq] at h
          obtain ⟨rfl, rfl, rfl, rfl⟩ := h
          exact ⟨hC.repW (.box (hm (g', g) (by simp))) hr, rfl⟩
    | _ => cases off <;> simp [argW] at h
  | fn f =>
    cases x with
    | clo f' caps =>
      cases caps with
      | nil =>
        simp only [argW] at h
        split at h
        · rename_i hf
          simp only [Option.some.injEq, Prod.mk.injEq] at h
          obtain ⟨rfl, rfl, rfl, rfl⟩ := h
          subst hf
          exact ⟨hC.repW (.clo f [] [] rfl fun j x y hx => (by simp at hx)) hr, rfl⟩
        · cases h
      | cons c caps => simp [argW] at h
    | _ => simp [argW] at h
  | _ => simp [argW] at h

theorem argWs_rep (hP : ∀ x v y a i gs, RepW E st gh w x v → x.toP st.o = some (y, a, i, gs) → cin (a, i) A → (∀ g ∈ gs, g ∈ bor) → RepP w (E'.ok est gh1 w true false) y v) (hC : Cast C m nil E E' st est gh gh1 w) :
    ∀ {ks : List WS} {xs : List W} {cs : List Value} {us : List P} {c : Bool × Bool} {gs : List Nat} {r : List (Nat × Nat)} {n : Nat}, argWs st.o ks xs = some (us, c, gs, r) → (∀ k ∈ ks, k.flags true false = true) → cin c A → (∀ g ∈ gs, g ∈ bor) →
      (∀ p ∈ r, m p.1 = some p.2) → At ins n us → xs.length = cs.length → (∀ (j : Nat) x v, xs[j]? = some x → cs[j]? = some v → RepW E st gh w x v) →
      (mkWs ins n ks).1.length = cs.length ∧ (∀ (j : Nat) x v, (mkWs ins n ks).1[j]? = some x → cs[j]? = some v → RepW E' est gh1 w x v) ∧ (mkWs ins n ks).2 = n + us.length
  | [], xs, cs, us, c, gs, r, n, h, hk, hc, hgs, hm, ha, hl, hr => by
    cases xs with
    | nil => simp [argWs] at h; obtain ⟨rfl, _⟩ := h; exact ⟨hl, fun j x v hx => by simp [mkWs] at hx, rfl⟩
    | cons x xs => simp [argWs] at h
  | k :: ks, xs, cs, us, c, gs, r, n, h, hk, hc, hgs, hm, ha, hl, hr => by
    cases xs with
    | nil => simp [argWs] at h
    | cons x xs =>
      cases cs with
      | nil => simp at hl
      | cons v cs =>
        simp only [argWs] at h
        split at h
        · rename_i u c1 g1 r1 u' c2 g2 r2 h1 h2
          simp only [Option.some.injEq, Prod.mk.injEq] at h
          obtain ⟨rfl, rfl, rfl, rfl⟩ := h
          obtain ⟨a1, a2⟩ := argW_rep hP hC h1 (hk k (by simp)) (cin_left hc) (fun g hg => hgs g (by simp [hg])) (fun p hp => hm p (by simp [hp])) ha.left (hr 0 x v rfl rfl)
          have ih := argWs_rep hP hC (n := n + u.length) h2 (fun k hk' => hk k (by simp [hk'])) (cin_right hc) (fun g hg => hgs g (by simp [hg])) (fun p hp => hm p (by simp [hp])) ha.right (by simpa using hl)
            (fun j a b ha hb => hr (j + 1) a b (by simpa using ha) (by simpa using hb))
          simp only [mkWs, a2]
          refine ⟨by simp [ih.1], fun j x' v' hx hv => ?_, by rw [ih.2.2]; simp; omega⟩
          cases j with
          | zero => simp at hx hv; subst hx hv; exact a1
          | succ j => simp at hx hv; exact ih.2.1 j x' v' hx hv
        · cases h

theorem argS_rep (hP : ∀ x v y a i gs, RepW E st gh w x v → x.toP st.o = some (y, a, i, gs) → cin (a, i) A → (∀ g ∈ gs, g ∈ bor) → RepP w (E'.ok est gh1 w true false) y v) (hC : Cast C m nil E E' st est gh gh1 w)
    {k : SS} {x : S} {v : Value} {us : List P} {c : Bool × Bool} {gs : List Nat} {r : List (Nat × Nat)} {n : Nat} (h : argS st.o k x = some (us, c, gs, r)) (hk : k.flags true false = true) (hc : cin c A) (hgs : ∀ g ∈ gs, g ∈ bor)
    (hm : ∀ p ∈ r, m p.1 = some p.2) (ha : At ins n us) (hr : RepS E st gh w x v) : RepS E' est gh1 w (mkS ins n k).1 v ∧ (mkS ins n k).2 = n + us.length := by
  cases k with
  | one k =>
    cases x with
    | v x =>
      cases x with
      | one x =>
        obtain ⟨a1, a2⟩ := argW_rep hP hC h hk hc hgs hm ha hr.one_inv
        exact ⟨RepS.ofW a1, a2⟩
      | agg xs => simp [argS] at h
    | _ => simp [argS] at h
  | agg ks =>
    cases x with
    | v x =>
      cases x with
      | one x => simp [argS] at h
      | agg xs =>
        obtain ⟨cs, hv, hl, hone, hrr⟩ := hr.agg_inv
        simp only [SS.flags, List.all_eq_true] at hk
        obtain ⟨a0, a1, a2⟩ := argWs_rep hP hC h hk hc hgs hm ha hl hrr
        subst hv
        exact ⟨.v _ _ (.agg _ cs a0 hone a1), a2⟩
    | _ => simp [argS] at h

theorem argSlots_rep (hP : ∀ x v y a i gs, RepW E st gh w x v → x.toP st.o = some (y, a, i, gs) → cin (a, i) A → (∀ g ∈ gs, g ∈ bor) → RepP w (E'.ok est gh1 w true false) y v) (hC : Cast C m nil E E' st est gh gh1 w) {args : List S} {vals : Nat → Value}
    (hr : ∀ t, RepS E st gh w (args.getD t .no) (vals t)) :
    ∀ {L : List (Nat × SS)} {us : List P} {c : Bool × Bool} {gs : List Nat} {r : List (Nat × Nat)} {n : Nat}, argSlots st.o args L = some (us, c, gs, r) → (∀ p ∈ L, p.2.flags true false = true) → cin c A → (∀ g ∈ gs, g ∈ bor) →
      (∀ p ∈ r, m p.1 = some p.2) → At ins n us → (∀ t x, (mkSlots ins n L).1.lookup t = some x → RepS E' est gh1 w x (vals t)) ∧ (mkSlots ins n L).2 = n + us.length
  | [], us, c, gs, r, n, h, hk, hc, hgs, hm, ha => by
    simp [argSlots] at h; obtain ⟨rfl, _⟩ := h; exact ⟨fun t x hx => by simp [mkSlots] at hx, rfl⟩
  | (t0, k) :: L, us, c, gs, r, n, h, hk, hc, hgs, hm, ha => by
    simp only [argSlots] at h
    split at h
    · rename_i u c1 g1 r1 u' c2 g2 r2 h1 h2
      simp only [Option.some.injEq, Prod.mk.injEq] at h
      obtain ⟨rfl, rfl, rfl, rfl⟩ := h
      obtain ⟨a1, a2⟩ := argS_rep hP hC h1 (hk (t0, k) (by simp)) (cin_left hc) (fun g hg => hgs g (by simp [hg])) (fun p hp => hm p (by simp [hp])) ha.left (hr t0)
      have ih := argSlots_rep hP hC hr (n := n + u.length) h2 (fun p hp => hk p (by simp [hp])) (cin_right hc) (fun g hg => hgs g (by simp [hg])) (fun p hp => hm p (by simp [hp])) ha.right
      simp only [mkSlots, a2]
      refine ⟨fun t x hx => ?_, by rw [ih.2]; simp; omega⟩
      simp only [List.lookup] at hx
      split at hx
      · rename_i he
        have he : t = t0 := by simpa using he
        subst he
        simp only [Option.some.injEq] at hx; subst hx
        exact a1
      · exact ih.1 t x hx
    · cases h
end
end Go.Fw

/-
  THE FRAMEWORK, PART M: a call by contract.
-/
namespace Go.Fw
set_option linter.unusedSectionVars false
variable [Globs]
set_option linter.unusedVariables false

def Enters (Pg : Program) (f : FuncId) : Prop := ∀ (args : Array Value) (w : World), (callFunc f args).run Pg w = .ok (.enter f args) w
def retV (rs : List Value) : Value := match rs with
  | [v] => v
  | vs => .tuple vs.toArray
/-- THE CONTRACT HOLDS. -/
def Sound (Pg : Program) (f : FuncId) (sp : Spec) : Prop := sp.sig.ok = true ∧ Enters Pg f ∧
  ∀ (E : Env) (w : World) (vals : List Value) (gh : Nat → Gh) (ins outs : List P), sp.R ins outs → E.B0 = w.heap.size → E.w0 = w → Rel E (mk sp.sig.pin ins) gh (fun k => vals.getD k undef) w → vals.length = sp.sig.nargs →
    Calls Pg f vals.toArray w fun e w' => ∃ (rs : List Value) (gh' : Nat → Gh), rs.length = sp.sig.nres ∧ e = .returned (retV rs) ∧ Rel E (mk sp.sig.pout outs) gh' (fun k => rs.getD k undef) w' ∧ ∀ g ∈ sp.sig.ios, gh' g = gh g ∧ ((mk sp.sig.pin ins).o g).like ((mk sp.sig.pout outs).o g)

/-! ### What is read through handles are arrays -/
theorem toP_bor {o : Nat → O} {x : W} {y : P} {a i : Bool} {gs : List Nat} (h : x.toP o = some (y, a, i, gs)) : ∀ g ∈ gs, ∃ fz a i sz l, o g = .arr fz a i sz l := by
  cases x <;> simp only [W.toP] at h
  case p => simp only [Option.some.injEq, Prod.mk.injEq] at h; obtain ⟨_, _, _, rfl⟩ := h; simp
  case nils => simp only [Option.some.injEq, Prod.mk.injEq] at h; obtain ⟨_, _, _, rfl⟩ := h; simp
  case own g =>
    split at h
    · rename_i ho
      simp only [Option.some.injEq, Prod.mk.injEq] at h; obtain ⟨_, _, _, rfl⟩ := h
      intro g' hg'; rw [List.mem_singleton] at hg'; subst hg'; exact ⟨_, _, _, _, _, ho⟩
    · cases h
  case vw g lo hi =>
    split at h
    · rename_i ho
      simp only [Option.some.injEq, Prod.mk.injEq] at h; obtain ⟨_, _, _, rfl⟩ := h
      intro g' hg'; rw [List.mem_singleton] at hg'; subst hg'; exact ⟨_, _, _, _, _, ho⟩
    · cases h
  all_goals cases h
theorem argW_bor {o : Nat → O} {k : WS} {x : W} {us : List P} {c : Bool × Bool} {gs : List Nat} {r : List (Nat × Nat)} (h : argW o k x = some (us, c, gs, r)) : ∀ g ∈ gs, ∃ fz a i sz l, o g = .arr fz a i sz l := by
  cases k with
  | p a i =>
    simp only [argW] at h
    split at h
    · rename_i ht
      simp only [Option.some.injEq, Prod.mk.injEq] at h
      obtain ⟨_, _, rfl, _⟩ := h
      exact toP_bor ht
    · cases h
  | own g' => cases x <;> simp [argW] at h; obtain ⟨_, _, rfl, _⟩ := h; simp
  | box g' off =>
    cases off with
    | succ off => cases x <;> simp [argW] at h
    | zero =>
      cases x with
      | box g off => cases off <;> simp [argW] at h; obtain ⟨_, _, rfl, _⟩ := h; simp
      | _ => simp [argW] at h
  | nils => simp [argW] at h
  | fn f =>
    cases x with
    | clo f' caps =>
      cases caps with
      | nil =>
        simp only [argW] at h
        split at h
        · simp only [Option.some.injEq, Prod.mk.injEq] at h; obtain ⟨_, _, rfl, _⟩ := h; simp
        · cases h
      | cons c caps => simp [argW] at h
    | _ => simp [argW] at h
  | itp g' => simp [argW] at h
  | no => simp [argW] at h
theorem argWs_bor {o : Nat → O} : ∀ {ks : List WS} {xs : List W} {us : List P} {c : Bool × Bool} {gs : List Nat} {r : List (Nat × Nat)}, argWs o ks xs = some (us, c, gs, r) → ∀ g ∈ gs, ∃ fz a i sz l, o g = .arr fz a i sz l
  | [], xs, us, c, gs, r, h => by
    cases xs <;> simp [argWs] at h
    obtain ⟨_, _, rfl, _⟩ := h; simp
  | k :: ks, xs, us, c, gs, r, h => by
    cases xs with
    | nil => simp [argWs] at h
    | cons x xs =>
      simp only [argWs] at h
      split at h
      · rename_i h1 h2
        simp only [Option.some.injEq, Prod.mk.injEq] at h
        obtain ⟨_, _, rfl, _⟩ := h
        intro g hg
        rcases List.mem_append.1 hg with hg | hg
        · exact argW_bor h1 g hg
        · exact argWs_bor h2 g hg
      · cases h
theorem argSlots_bor {o : Nat → O} {args : List S} : ∀ {L : List (Nat × SS)} {us : List P} {c : Bool × Bool} {gs : List Nat} {r : List (Nat × Nat)}, argSlots o args L = some (us, c, gs, r) → ∀ g ∈ gs, ∃ fz a i sz l, o g = .arr fz a i sz l
  | [], us, c, gs, r, h => by simp [argSlots] at h; obtain ⟨_, _, rfl, _⟩ := h; simp
  | (t, k) :: L, us, c, gs, r, h => by
    simp only [argSlots] at h
    split at h
    · rename_i h1 h2
      simp only [Option.some.injEq, Prod.mk.injEq] at h
      obtain ⟨_, _, rfl, _⟩ := h
      intro g hg
      rcases List.mem_append.1 hg with hg | hg
      · cases k with
        | one k =>
          generalize args.getD t S.no = z at h1
          cases z with
          | v z =>
            cases z with
            | one z => exact argW_bor h1 g hg
            | agg z => simp [argS] at h1
          | _ => simp [argS] at h1
        | agg ks =>
          generalize args.getD t S.no = z at h1
          cases z with
          | v z =>
            cases z with
            | one z => simp [argS] at h1
            | agg z => exact argWs_bor h1 g hg
          | _ => simp [argS] at h1
      · exact argSlots_bor h2 g hg
    · cases h

theorem mkObjs_has {vs : List P} : ∀ {L : List (Nat × OS)} {n g : Nat}, g ∈ L.map (·.1) → ∃ x, (mkObjs vs n L).1.lookup g = some x
  | [], n, g, h => by simp at h
  | (g0, k) :: L, n, g, h => by
    simp only [mkObjs, List.lookup]
    by_cases e : g = g0
    · subst e; simp
    · have : (g == g0) = false := by simpa using e
      rw [this]
      exact mkObjs_has (by simpa [e] using h)
theorem mkObjs_mem {vs : List P} : ∀ {L : List (Nat × OS)} {n g : Nat} {x : O}, (mkObjs vs n L).1.lookup g = some x → ∃ k n', (g, k) ∈ L ∧ x = (mkO vs n' k).1
  | [], n, g, x, h => by simp [mkObjs] at h
  | (g0, k) :: L, n, g, x, h => by
    simp only [mkObjs, List.lookup] at h
    split at h
    · rename_i e
      have e : g = g0 := by simpa using e
      subst e
      simp only [Option.some.injEq] at h
      exact ⟨k, n, by simp, h.symm⟩
    · obtain ⟨k', n', h1, h2⟩ := mkObjs_mem h
      exact ⟨k', n', by simp [h1], h2⟩
theorem mkSlots_mem {vs : List P} : ∀ {L : List (Nat × SS)} {n t : Nat} {x : S}, (mkSlots vs n L).1.lookup t = some x → ∃ k n', (t, k) ∈ L ∧ x = (mkS vs n' k).1
  | [], n, t, x, h => by simp [mkSlots] at h
  | (t0, k) :: L, n, t, x, h => by
    simp only [mkSlots, List.lookup] at h
    split at h
    · rename_i e
      have e : t = t0 := by simpa using e
      subst e
      simp only [Option.some.injEq] at h
      exact ⟨k, n, by simp, h.symm⟩
    · obtain ⟨k', n', h1, h2⟩ := mkSlots_mem h
      exact ⟨k', n', by simp [h1], h2⟩
theorem mkW_names (vs : List P) (n : Nat) (k : WS) : (mkW vs n k).1.names = k.names := by cases k <;> simp [mkW, W.names, WS.names]
theorem mkWs_names (vs : List P) : ∀ (n : Nat) (ks : List WS), (mkWs vs n ks).1.flatMap W.names = ks.flatMap WS.names
  | n, [] => rfl
  | n, k :: ks => by simp [mkWs, mkW_names, mkWs_names vs _ ks]
theorem mkS_names (vs : List P) (n : Nat) (k : SS) : (mkS vs n k).1.names = k.names := by
  cases k with
  | one k => simpa [mkS, S.names, V.names, SS.names] using mkW_names vs n k
  | agg ks => simpa [mkS, S.names, V.names, SS.names] using mkWs_names vs n ks
theorem mkO_names (vs : List P) (n : Nat) (k : OS) : (mkO vs n k).1.names = k.names := by
  cases k with
  | box ks => simpa [mkO, O.names, OS.names] using mkWs_names vs n ks
  | arr => simp [mkO, O.names, OS.names]
  | it => simp [mkO, O.names, OS.names]

theorem mk_o {j : Shape} {vs : List P} {g : Nat} (h : (mk j vs).o g ≠ .none) : (mkObjs vs (mkSlots vs 0 j.slots).2 j.objs).1.lookup g = some ((mk j vs).o g) := by
  unfold mk at h ⊢
  simp only at h ⊢
  split at h
  · rename_i x hx; rw [hx]
  · exact absurd rfl h
theorem mk_o_none {j : Shape} {vs : List P} {g : Nat} (h : g ∉ j.nms) : (mk j vs).o g = .none := by
  by_cases hn : (mk j vs).o g = .none
  · exact hn
  · obtain ⟨k, n', h1, h2⟩ := mkObjs_mem (mk_o hn)
    exact absurd (List.mem_map.2 ⟨_, h1, rfl⟩) h
/-- The names of a shape's state. -/
theorem mk_us {j : Shape} (hj : j.ok = true) (vs : List P) : (∀ t, ∀ g ∈ ((mk j vs).s t).names, (mk j vs).used g = true) ∧ (∀ g, ∀ g' ∈ ((mk j vs).o g).names, (mk j vs).used g' = true) ∧ ∀ g, (mk j vs).o g ≠ .none → (mk j vs).used g = true := by
  simp only [Bool.and_eq_true, Shape.ok, List.all_eq_true, List.contains_eq_mem, decide_eq_true_eq] at hj
  refine ⟨fun t g hg => ?_, fun g g' hg' => ?_, fun g hg => ?_⟩
  · have hg : g ∈ (match (mkSlots vs 0 j.slots).1.lookup t with | some x => x | none => S.no).names := hg
    cases hx : (mkSlots vs 0 j.slots).1.lookup t with
    | none => rw [hx] at hg; simp [S.names] at hg
    | some x =>
      rw [hx] at hg
      obtain ⟨k, n', h1, h2⟩ := mkSlots_mem hx
      subst h2
      simp only at hg
      rw [mkS_names] at hg
      simpa [mk] using hj.1.2 _ h1 g hg
  · by_cases hn : (mk j vs).o g = .none
    · rw [hn] at hg'; simp [O.names] at hg'
    · obtain ⟨k, n', h1, h2⟩ := mkObjs_mem (mk_o hn)
      rw [h2, mkO_names] at hg'
      simpa [mk] using hj.2 _ h1 g' hg'
  · obtain ⟨k, n', h1, h2⟩ := mkObjs_mem (mk_o hg)
    simp only [mk, List.contains_eq_mem, decide_eq_true_eq, Shape.nms]
    exact List.mem_map.2 ⟨_, h1, rfl⟩

section
variable {E : Env} {st : St} {gh : Nat → Gh} {w : World} {val : Nat → Value}

/-- The callee's surroundings. -/
def callEnv (h : Rel E st gh val w) (st1 : St) (c : CIn) : Env where
  FA := fun b => E.ok st1 gh w c.A.1 c.A.2 b
  FI := fun b => E.ok st gh w c.I.1 c.I.2 b
  B0 := w.heap.size
  w0 := w
  Wr := fun b => ∃ p ∈ c.ren, (st.o p.2).owned = true ∧ ∃ ad, (gh p.2).ad = some ad ∧ ad.block = b
  hg := fun g sz rows hg => by
    obtain ⟨g1, g2, g3⟩ := E.hg g sz rows hg
    refine ⟨Nat.lt_of_lt_of_le g1 h.size, ?_, fun n x hx => ⟨(g3 n x hx).1, fun j y hy => ?_⟩⟩
    · rintro ⟨p, hp, ho, ad, h1, h2⟩
      rcases (h.wr p.2 ad ho h1).1 with q | q
      · rw [h2] at q; omega
      · rw [h2] at q; exact g2 q
    · obtain ⟨u, hu1, hu2⟩ := (g3 n x hx).2 j y hy
      exact ⟨u, (World.cell?_of_block (w := E.w0) (h.frame g g1 g2)).trans hu1, hu2.mono fun _ f => f.elim⟩
/-- An object of a shape's state. -/
theorem mkObjs_kind {vs : List P} : ∀ {L : List (Nat × OS)} {n : Nat} {g : Nat} {k : OS}, L.lookup g = some k → ∃ n', (mkObjs vs n L).1.lookup g = some (mkO vs n' k).1
  | [], n, g, k, h => by cases h
  | (g0, k0) :: L, n, g, k, h => by
    simp only [mkObjs, List.lookup] at h ⊢
    split at h
    · cases h; exact ⟨_, rfl⟩
    · exact mkObjs_kind h
theorem mk_kind {j : Shape} {vs : List P} {g : Nat} {k : OS} (h : j.objs.lookup g = some k) : ∃ n', (mk j vs).o g = (mkO vs n' k).1 := by
  obtain ⟨n', h1⟩ := mkObjs_kind (vs := vs) (n := (mkSlots vs 0 j.slots).2) h
  refine ⟨n', ?_⟩
  show (match (mkObjs vs (mkSlots vs 0 j.slots).2 j.objs).1.lookup g with | some x => x | none => O.none) = _
  rw [h1]
theorem mk_isBox {j : Shape} {vs : List P} {g : Nat} (h : OS.isBox (j.objs.lookup g) = true) : ∃ ws, (mk j vs).o g = .box ws := by
  cases hl : j.objs.lookup g with
  | none => rw [hl] at h; cases h
  | some k =>
    rw [hl] at h
    cases k with
    | box ks => obtain ⟨n', h1⟩ := mk_kind (vs := vs) hl; exact ⟨_, h1⟩
    | arr => cases h
    | it => cases h
theorem Sig.boxy_like {s : Sig} (h : s.boxy = true) {ins outs : List P} : ∀ g ∈ s.ios, ((Fw.mk s.pin ins).o g).like ((Fw.mk s.pout outs).o g) := fun g hg => by
  have := (List.all_eq_true.1 h) g hg
  simp only [Bool.and_eq_true] at this
  obtain ⟨ws, e1⟩ := mk_isBox (vs := ins) this.1
  obtain ⟨ws', e2⟩ := mk_isBox (vs := outs) this.2
  rw [e1, e2]; trivial
/-- THE STATE IN WHICH A CALL BEGINS. -/
theorem call_entry (h : Rel E st gh val w) {s : Sig} (hok : s.ok = true) {args : List S} {vals : Nat → Value} (hr : ∀ t, RepS E st gh w (args.getD t .no) (vals t)) {c : CIn} (hc : argsIn s st.o args = some c) (hf : c.fine s = true)
    (st1 : St) (hst1 : st1 = st.upd (c.bor.map (Fw.freeze st.o)) []) (E' : Env) (hE' : E' = callEnv h st1 c) :
    Rel E st1 gh val w ∧ Lets E st st1 gh gh w w ∧ Rel E' (mk s.pin c.ins) (reGh gh fun g' => c.ren.lookup g') vals w ∧
    (∀ p ∈ c.ren, (st.o p.2).owned = true ∧ p.2 ∉ c.bor ∧ c.ren.lookup p.1 = some p.2 ∧ ((s.ios.contains p.1 = true ∧ ∃ ws ws', st.o p.2 = .box ws ∧ (mk s.pin c.ins).o p.1 = .box ws') ∨ (∃ a i sz l, st.o p.2 = .arr false a i sz l ∧ cin (a, i) c.I ∧ (mk s.pin c.ins).o p.1 = .arr false false true sz l))) := by
  unfold argsIn at hc
  split at hc
  · rename_i u A gs r hsl
    split at hc
    · rename_i u' I r' hob
      simp only [Option.some.injEq] at hc; subst hc
      simp only [CIn.fine, Bool.and_eq_true, List.all_eq_true, disj, List.contains_eq_mem, decide_eq_true_eq, Bool.not_eq_true', decide_eq_false_iff_not, List.mem_map, forall_exists_index, and_imp, forall_apply_eq_imp_iff₂] at hf
      obtain ⟨⟨⟨hn2, hn1⟩, hdisj⟩, hkeys⟩ := hf
      have hn1 := nodupB_spec hn1
      have hok' := hok
      simp only [Sig.ok, Bool.and_eq_true] at hok'
      obtain ⟨⟨⟨⟨⟨⟨⟨⟨hpin, hpout⟩, hps⟩, hpo⟩, _⟩, _⟩, _⟩, _⟩, _⟩ := hok'
      have hbor := argSlots_bor hsl
      obtain ⟨f1, f2⟩ := Rel.freezes gs h hbor
      subst hst1
      have hm : ∀ p ∈ r', (fun g' => r'.lookup g') p.1 = some p.2 := fun p hp => lookup_of_mem hn1 hp
      have hAt : At (u ++ u') 0 (u ++ u') := fun k y hk => by rw [Nat.zero_add]; exact hk
      have hpoL : ∀ p ∈ s.pin.objs, match p.2 with | .box ws => ∀ k ∈ ws, k.flags false true = true | .arr fz a i _ => fz = false ∧ a = false ∧ i = true | .it => False := by
        intro p hp
        have := (List.all_eq_true.1 hpo) p hp
        obtain ⟨g, k⟩ := p
        cases k with
        | box ws =>
          simp only [Bool.and_eq_true, List.all_eq_true] at this
          exact fun k hk => (this.1 k hk).1
        | arr fz a i sz =>
          simp only [Bool.and_eq_true, Bool.not_eq_true'] at this
          exact ⟨this.1.1, this.1.2, this.2⟩
        | it => simp at this
      -- the slots' length
      have hslen : (mkSlots (u ++ u') 0 s.pin.slots).2 = u.length := by
        have : ∀ {L : List (Nat × SS)} {us : List P} {c : Bool × Bool} {gs : List Nat} {r : List (Nat × Nat)} {n : Nat} (vs : List P), argSlots st.o args L = some (us, c, gs, r) → (∀ p ∈ L, p.2.flags true false = true) → (mkSlots vs n L).2 = n + us.length := by
          intro L
          induction L with
          | nil => intro us c gs r n vs h _; simp [argSlots] at h; obtain ⟨rfl, _⟩ := h; rfl
          | cons p L ih =>
            intro us c gs r n vs h hk
            obtain ⟨t0, k⟩ := p
            simp only [argSlots] at h
            split at h
            · rename_i u c1 g1 r1 u' c2 g2 r2 h1 h2
              simp only [Option.some.injEq, Prod.mk.injEq] at h
              obtain ⟨rfl, rfl, rfl, rfl⟩ := h
              have e1 : (mkS vs n k).2 = n + u.length := by
                have hkk := hk (t0, k) (by simp)
                have one : ∀ (k : WS) (x : W) (us : List P) (c : Bool × Bool) (gs : List Nat) (r : List (Nat × Nat)) (n : Nat), argW st.o k x = some (us, c, gs, r) → (mkW vs n k).2 = n + us.length := by
                  intro k x us c gs r n h
                  cases k with
                  | p a i =>
                    simp only [argW] at h
                    split at h
                    · simp only [Option.some.injEq, Prod.mk.injEq] at h; obtain ⟨rfl, _⟩ := h; rfl
                    · cases h
                  | own g' => cases x <;> simp [argW] at h; obtain ⟨rfl, _⟩ := h; rfl
                  | box g' off =>
                    cases off with
                    | succ off => cases x <;> simp [argW] at h
                    | zero =>
                      cases x with
                      | box g off => cases off <;> simp [argW] at h; obtain ⟨rfl, _⟩ := h; rfl
                      | _ => simp [argW] at h
                  | nils => simp [argW] at h
                  | fn f =>
                    cases x with
                    | clo f' caps =>
                      cases caps with
                      | nil =>
                        simp only [argW] at h
                        split at h
                        · simp only [Option.some.injEq, Prod.mk.injEq] at h; obtain ⟨rfl, _⟩ := h; rfl
                        · cases h
                      | cons c caps => simp [argW] at h
                    | _ => simp [argW] at h
                  | itp g' => simp [argW] at h
                  | no => simp [argW] at h
                cases k with
                | one k =>
                  generalize args.getD t0 S.no = z at h1
                  cases z with
                  | v z =>
                    cases z with
                    | one z => exact one k z _ _ _ _ n h1
                    | agg z => simp [argS] at h1
                  | _ => simp [argS] at h1
                | agg ks =>
                  generalize args.getD t0 S.no = z at h1
                  cases z with
                  | v z =>
                    cases z with
                    | one z => simp [argS] at h1
                    | agg z =>
                      have : ∀ (ks : List WS) (z : List W) (us : List P) (c : Bool × Bool) (gs : List Nat) (r : List (Nat × Nat)) (n : Nat), argWs st.o ks z = some (us, c, gs, r) → (mkWs vs n ks).2 = n + us.length := by
                        intro ks
                        induction ks with
                        | nil => intro z us c gs r n h; cases z <;> simp [argWs] at h; obtain ⟨rfl, _⟩ := h; rfl
                        | cons k ks ih =>
                          intro z us c gs r n h
                          cases z with
                          | nil => simp [argWs] at h
                          | cons x xs =>
                            simp only [argWs] at h
                            split at h
                            · rename_i u c1 g1 r1 u' c2 g2 r2 h1 h2
                              simp only [Option.some.injEq, Prod.mk.injEq] at h
                              obtain ⟨rfl, rfl, rfl, rfl⟩ := h
                              simp only [mkWs]
                              rw [one k x _ _ _ _ n h1, ih _ _ _ _ _ _ h2]; simp; omega
                            · cases h
                      exact this ks z _ _ _ _ n h1
                  | _ => simp [argS] at h1
              simp only [mkSlots]
              rw [e1, ih vs h2 (fun p hp => hk p (by simp [hp]))]; simp; omega
            · cases h
        have := this (n := 0) (u ++ u') hsl (fun p hp => by have := (List.all_eq_true.1 hps) p hp; simp only [Bool.and_eq_true] at this; exact this.1)
        omega
      obtain ⟨⟨r0, hr0⟩, hobjs⟩ := ioObjs_ow (m := fun g' => r'.lookup g') (nil := fun _ => False) (I := I) (ins := u ++ u') (n := u.length) hob hpoL (cin_refl I) hm (by have := hAt.right; rwa [Nat.zero_add] at this)
      have hobj : ∀ g' x, (mk s.pin (u ++ u')).o g' = x → x ≠ .none → ∃ g, r'.lookup g' = some g ∧ Ow (Cio I) (fun g' => r'.lookup g') (fun _ => False) (st.o g) x ∧ (g', g) ∈ r' ∧ (st.o g).owned = true ∧ ((∃ ws, x = .box ws) ∨ ∃ l sz, x = .arr false false true sz l) := by
        intro g' x hx hne
        have := mk_o (j := s.pin) (vs := u ++ u') (g := g') (by rw [hx]; exact hne)
        rw [hslen, hx] at this
        exact hobjs g' x this
      have hren : ∀ p ∈ r', (st.o p.2).owned = true ∧ p.2 ∉ gs ∧ r'.lookup p.1 = some p.2 ∧ ((s.ios.contains p.1 = true ∧ ∃ ws ws', st.o p.2 = .box ws ∧ (mk s.pin (u ++ u')).o p.1 = .box ws') ∨ (∃ a i sz l, st.o p.2 = .arr false a i sz l ∧ cin (a, i) I ∧ (mk s.pin (u ++ u')).o p.1 = .arr false false true sz l)) := by
        intro p hp
        have hkey : p.1 ∈ s.pin.objs.map (·.1) := hkeys p hp
        obtain ⟨x, hx⟩ := mkObjs_has (vs := u ++ u') (n := u.length) hkey
        obtain ⟨g, hg, how, hmem, hown, _⟩ := hobjs p.1 x hx
        have hl := lookup_of_mem hn1 hp
        have : g = p.2 := by have hg' : r'.lookup p.1 = some g := hg; rw [hl] at hg'; exact (Option.some.inj hg').symm
        subst this
        refine ⟨hown, hdisj p hp, hl, ?_⟩
        have hmk : (mk s.pin (u ++ u')).o p.1 = x := by
          show (match (mkObjs (u ++ u') (mkSlots (u ++ u') 0 s.pin.slots).2 s.pin.objs).1.lookup p.1 with | some x => x | none => O.none) = x
          rw [hslen, hx]
        obtain ⟨k, n', h1, h2⟩ := mkObjs_mem hx
        have hk := (List.all_eq_true.1 hpo) _ h1
        rw [hmk]
        subst h2
        cases k with
        | box ws =>
          simp only [Bool.and_eq_true] at hk
          generalize hz : st.o p.2 = z at how
          cases how
          exact .inl ⟨hk.2, _, _, rfl, rfl⟩
        | arr fz a i sz =>
          simp only [Bool.and_eq_true, Bool.not_eq_true'] at hk
          obtain ⟨⟨rfl, rfl⟩, rfl⟩ := hk
          generalize hz : st.o p.2 = z at how
          refine .inr ?_
          cases how with | arr _ _ _ hc => exact ⟨_, _, _, _, rfl, hc.2.2, rfl⟩
        | it => simp at hk
      have howned : ∀ g' ad, ((mk s.pin (u ++ u')).o g').owned = true → (reGh gh (fun g' => r'.lookup g') g').ad = some ad → ∃ g, (g', g) ∈ r' ∧ (st.o g).owned = true ∧ (gh g).ad = some ad ∧ g ∉ gs := by
        intro g' ad ho had
        obtain ⟨g, hg, _, hmem, hown, _⟩ := hobj g' _ rfl (by intro e; rw [e] at ho; cases ho)
        refine ⟨g, hmem, hown, ?_, (hren _ hmem).2.1⟩
        simpa [reGh, hg] using had
      have hst1o : ∀ g, g ∉ gs → (st.upd (gs.map (Fw.freeze st.o)) []).o g = st.o g := by
        intro g hg
        show (match (gs.map (Fw.freeze st.o)).lookup g with | some x => x | none => st.o g) = _
        rw [lookup_freeze, if_neg hg]
      -- a class of things behind pointers
      have hcast : Cast (Cio I) (fun g' => r'.lookup g') (fun _ => False) E E' st (mk s.pin (u ++ u')) gh (reGh gh fun g' => r'.lookup g') w := by
        refine ⟨fun a i a' i' b hC hb => ?_, fun g g' hg fz a i sz l ho => ⟨by simp only [reGh, hg], ?_⟩, fun g g' hg ws ho => ⟨by simp only [reGh, hg], ?_⟩, fun g g' hg s n ho => ⟨by simp only [reGh, hg], ?_⟩, fun g' hf => hf.elim⟩
        · obtain ⟨rfl, rfl, hci⟩ := hC
          subst hE'
          refine ⟨.inr (.inl ⟨rfl, .inl (Env.ok_or hci.1 hci.2 hb)⟩), hb.2.1, fun g' ad ho had => ?_⟩
          obtain ⟨g, _, h1, h2, _⟩ := howned g' ad ho had
          exact hb.2.2 g ad h1 h2
        · obtain ⟨g2, hg2, how, _⟩ := hobj g' _ ho (by simp)
          rw [hg] at hg2; cases hg2
          generalize st.o g = z at how
          cases how with | arr _ _ _ hc => exact ⟨_, _, _, rfl⟩
        · obtain ⟨g2, hg2, how, _⟩ := hobj g' _ ho (by simp)
          rw [hg] at hg2; cases hg2
          generalize st.o g = z at how
          cases how; exact ⟨_, rfl⟩
        · obtain ⟨g2, hg2, how, _⟩ := hobj g' _ ho (by simp)
          rw [hg] at hg2; cases hg2
          generalize st.o g = z at how
          cases how; exact ⟨_, _, rfl⟩
      have hP : ∀ x v y a i gs', RepW E st gh w x v → x.toP st.o = some (y, a, i, gs') → cin (a, i) A → (∀ g ∈ gs', g ∈ gs) → RepP w (E'.ok (mk s.pin (u ++ u')) (reGh gh fun g' => r'.lookup g') w true false) y v := by
        intro x v y a i gs' hrx ht hci hsub
        have := (toP_rep h hrx ht).2 _ (fun g hg fz a i sz l hog => by
          show (match (gs.map (Fw.freeze st.o)).lookup g with | some x => x | none => st.o g) = _
          rw [lookup_freeze, if_pos (hsub g hg)]; simp [Fw.freeze, hog]) f1 f2
        refine this.mono fun b hb => ⟨?_, rfl⟩
        subst hE'
        refine ⟨.inl ⟨rfl, Env.ok_or hci.1 hci.2 hb⟩, hb.2.1, fun g' ad ho had => ?_⟩
        obtain ⟨g, _, h1, h2, h3⟩ := howned g' ad ho had
        exact hb.2.2 g ad (by rw [hst1o g h3]; exact h1) h2
      have hpsL : ∀ p ∈ s.pin.slots, p.2.flags true false = true := fun p hp => by have := (List.all_eq_true.1 hps) p hp; simp only [Bool.and_eq_true] at this; exact this.1
      have hslots := (argSlots_rep hP hcast hr (n := 0) hsl hpsL (cin_refl A) (fun g hg => hg) (fun p hp => hm p (by rw [hr0]; exact List.mem_append_left _ hp)) hAt.left).1
      have hus := mk_us hpin (u ++ u')
      refine ⟨f1, f2, ⟨fun t => ?_, fun g' => ?_, fun g1 g2 a1 a2 h1 h2 k1 k2 hb => ?_, fun g' ad ho had => ?_, fun g' a i sz l ad ho had hw => ?_, fun b hb => ?_, fun b _ _ => ?_, ?_, ?_, ?_, ?_, hus.1, hus.2.1, hus.2.2⟩, hren⟩
      · show RepS _ _ _ _ (match (mkSlots (u ++ u') 0 s.pin.slots).1.lookup t with | some x => x | none => .no) _
        cases hx : (mkSlots (u ++ u') 0 s.pin.slots).1.lookup t with
        | none => exact .no _
        | some x => exact hslots t x hx
      · by_cases hne : (mk s.pin (u ++ u')).o g' = .none
        · rw [hne]; trivial
        · obtain ⟨g, hg, how, _⟩ := hobj g' _ rfl hne
          have : reGh gh (fun g' => r'.lookup g') g' = gh g := by simp only [reGh, hg]
          rw [this]
          exact hcast.repO how (h.objs g)
      · obtain ⟨q1, m1, o1, d1, _⟩ := howned g1 a1 h1 k1
        obtain ⟨q2, m2, o2, d2, _⟩ := howned g2 a2 h2 k2
        have := h.inj q1 q2 a1 a2 o1 o2 d1 d2 hb
        subst this
        have hn2 := nodupB_spec hn2
        have key : ∀ {l : List (Nat × Nat)}, (l.map (·.2)).Nodup → (g1, q1) ∈ l → (g2, q1) ∈ l → g1 = g2 := by
          intro l
          induction l with
          | nil => intro _ h; cases h
          | cons p l ih =>
            intro hn e1 e2
            simp only [List.map_cons, List.nodup_cons] at hn
            rcases List.mem_cons.1 e1 with f1 | f1 <;> rcases List.mem_cons.1 e2 with f2 | f2
            · rw [← f1] at f2; cases f2; rfl
            · have : q1 ∈ l.map (·.2) := List.mem_map.2 ⟨(g2, q1), f2, rfl⟩
              rw [← f1] at hn; exact absurd this hn.1
            · have : q1 ∈ l.map (·.2) := List.mem_map.2 ⟨(g1, q1), f1, rfl⟩
              rw [← f2] at hn; exact absurd this hn.1
            · exact ih hn.2 f1 f2
        exact key hn2 m1 m2
      · obtain ⟨g, hmem, h1, h2, _⟩ := howned g' ad ho had
        subst hE'
        exact ⟨.inr ⟨(g', g), hmem, h1, ad, h2, rfl⟩, (h.wr g ad h1 h2).2⟩
      · obtain ⟨g, hg, how, hmem, hown, hsh⟩ := hobj g' _ ho (by simp)
        rcases hsh with ⟨ws, e⟩ | ⟨l', sz', e⟩
        · cases e
        · cases e; rfl
      · subst hE'
        obtain ⟨p, hp, _, ad, h1, h2⟩ := hb
        subst h2
        exact (h.wr p.2 ad (hren p hp).1 h1).2
      · subst hE'; rfl
      · subst hE'; exact Nat.le_refl _
      · subst hE'; rfl
      · subst hE'; rfl
      · subst hE'; rfl
    · cases hc
  · cases hc
end
end Go.Fw

/-
  THE FRAMEWORK, PART N: a call by contract: how it ends.
-/
namespace Go.Fw
set_option linter.unusedSectionVars false
variable [Globs]
set_option linter.unusedVariables false

def Cback (A I : Bool × Bool) (lk : Bool) (a i a' i' : Bool) : Prop := (a', i') = clsOf A I a i ∧ (a = true → lk = true)

section
variable {A I : Bool × Bool} {lk : Bool} {m : Nat → Option Nat} {f : Nat → Nat} {news : List Nat} {vs : List P}

theorem out_w (hm : ∀ g ∈ news, m (f g) = some g) {k : WS} (hk : k.outs news = true) (hl : k.isA = true → lk = true) (n : Nat) :
    Ww (Cback A I lk) m (fun _ => False) (mkW vs n k).1 (reW A I f (mkW vs n k).1) ∧ ∀ g ∈ (reW A I f (mkW vs n k).1).names, ∃ g0 ∈ news, g = f g0 := by
  cases k with
  | p a i => exact ⟨.p _ ⟨rfl, hl⟩, by simp [mkW, reW, W.names]⟩
  | own g =>
    simp only [WS.outs, List.contains_eq_mem, decide_eq_true_eq] at hk
    exact ⟨.own (hm g hk), fun g' hg' => ⟨g, hk, by simpa [mkW, reW, W.names] using hg'⟩⟩
  | nils => exact ⟨.nils, by simp [mkW, reW, W.names]⟩
  | box g off =>
    simp only [WS.outs, List.contains_eq_mem, decide_eq_true_eq] at hk
    exact ⟨.box (hm g hk), fun g' hg' => ⟨g, hk, by simpa [mkW, reW, W.names] using hg'⟩⟩
  | fn f => cases hk
  | itp g => cases hk
  | no => cases hk
theorem mkWs_mem : ∀ {ks : List WS} {n : Nat} {x : W}, x ∈ (mkWs vs n ks).1 → ∃ k ∈ ks, ∃ n', x = (mkW vs n' k).1
  | [], n, x, h => by simp [mkWs] at h
  | k :: ks, n, x, h => by
    simp only [mkWs, List.mem_cons] at h
    rcases h with h | h
    · exact ⟨k, by simp, n, h⟩
    · obtain ⟨k', h1, h2⟩ := mkWs_mem h
      exact ⟨k', by simp [h1], h2⟩
theorem out_ws (hm : ∀ g ∈ news, m (f g) = some g) {ks : List WS} (hk : ks.all (WS.outs news) = true) (hl : ks.any WS.isA = true → lk = true) (n : Nat) :
    (∀ (j : Nat) x y, (mkWs vs n ks).1[j]? = some x → ((mkWs vs n ks).1.map (reW A I f))[j]? = some y → Ww (Cback A I lk) m (fun _ => False) x y) ∧
    ∀ g ∈ ((mkWs vs n ks).1.map (reW A I f)).flatMap W.names, ∃ g0 ∈ news, g = f g0 := by
  have key : ∀ x ∈ (mkWs vs n ks).1, Ww (Cback A I lk) m (fun _ => False) x (reW A I f x) ∧ ∀ g ∈ (reW A I f x).names, ∃ g0 ∈ news, g = f g0 := by
    intro x hx
    obtain ⟨k, h1, n', rfl⟩ := mkWs_mem hx
    exact out_w hm ((List.all_eq_true.1 hk) k h1) (fun h => hl (List.any_eq_true.2 ⟨k, h1, h⟩)) n'
  refine ⟨fun j x y hx hy => ?_, fun g hg => ?_⟩
  · rw [List.getElem?_map, hx] at hy
    simp only [Option.map_some, Option.some.injEq] at hy
    subst hy
    exact (key x (List.mem_of_getElem? hx)).1
  · simp only [List.mem_flatMap, List.mem_map] at hg
    obtain ⟨_, ⟨x, hx, rfl⟩, hg⟩ := hg
    exact (key x hx).2 g hg
theorem out_s (hm : ∀ g ∈ news, m (f g) = some g) {k : SS} (hk : k.outs news = true) (hl : k.isA = true → lk = true) (n : Nat) :
    ∃ x, (mkS vs n k).1 = .v x ∧ Vw (Cback A I lk) m (fun _ => False) x (reV A I f x) ∧ ∀ g ∈ (reV A I f x).names, ∃ g0 ∈ news, g = f g0 := by
  cases k with
  | one k =>
    obtain ⟨h1, h2⟩ := out_w (vs := vs) (A := A) (I := I) hm hk hl n
    exact ⟨_, rfl, .one h1, h2⟩
  | agg ks =>
    obtain ⟨h1, h2⟩ := out_ws (vs := vs) (A := A) (I := I) hm hk hl n
    exact ⟨_, rfl, .agg _ _ (by simp) h1, h2⟩
theorem out_o (hm : ∀ g ∈ news, m (f g) = some g) {k : OS} (hk : ∀ ws, k = .box ws → ws.all (WS.outs news) = true) (hl : k.isA = true → lk = true) (n : Nat) :
    Ow (Cback A I lk) m (fun _ => False) (mkO vs n k).1 (reO A I f (mkO vs n k).1) ∧ ∀ g ∈ (reO A I f (mkO vs n k).1).names, ∃ g0 ∈ news, g = f g0 := by
  cases k with
  | box ks =>
    obtain ⟨h1, h2⟩ := out_ws (vs := vs) (A := A) (I := I) hm (hk ks rfl) hl n
    exact ⟨.box _ _ (by simp) h1, h2⟩
  | arr fz a i sz => exact ⟨.arr _ _ _ ⟨rfl, hl⟩, by simp [mkO, reO, O.names]⟩
  | it => exact ⟨.it _ _, by simp [mkO, reO, O.names]⟩
end

theorem newName_inj {d : Nat} {news : List Nat} {g g' : Nat} (hg : g ∈ news) (h : newName d news g = newName d news g') : g = g' := by
  unfold newName at h
  have e : news.idxOf g = news.idxOf g' := by omega
  have h1 : news.idxOf g < news.length := List.idxOf_lt_length_of_mem hg
  have h2 : news.idxOf g' < news.length := by omega
  have a1 := List.getElem_idxOf h1
  have a2 := List.getElem_idxOf h2
  rw [← a1, ← a2]; congr 1

/-- The callee's name of a new array. -/
def backName (d : Nat) (news : List Nat) (g : Nat) : Option Nat := news.find? fun g0 => newName d news g0 == g
theorem backName_new {d : Nat} {news : List Nat} {g : Nat} (hg : g ∈ news) : backName d news (newName d news g) = some g := by
  unfold backName
  cases h : news.find? fun g0 => newName d news g0 == newName d news g with
  | none => have := List.find?_eq_none.1 h g hg; simp at this
  | some g' =>
    have h1 := List.find?_some h
    simp only [beq_iff_eq] at h1
    rw [newName_inj (List.mem_of_find?_eq_some h) h1]
theorem backName_some {d : Nat} {news : List Nat} {g g0 : Nat} (h : backName d news g = some g0) : g0 ∈ news ∧ newName d news g0 = g := by
  unfold backName at h
  exact ⟨List.mem_of_find?_eq_some h, by simpa using List.find?_some h⟩
theorem backName_none {d : Nat} {news : List Nat} {g : Nat} (h : backName d news g = none) : g ∉ news.map (newName d news) := by
  intro hm
  obtain ⟨g0, h1, rfl⟩ := List.mem_map.1 hm
  rw [backName_new h1] at h; cases h

theorem lookup_or {α : Type} {g : Nat} : ∀ {l r : List (Nat × α)}, (l ++ r).lookup g = (l.lookup g).or (r.lookup g)
  | [], r => by simp
  | (k, v) :: l, r => by
    simp only [List.cons_append, List.lookup]
    split
    · rfl
    · exact lookup_or
theorem lookup_map_key {α : Type} {k : Nat → Nat} {v : Nat → α} {g : Nat} : ∀ {l : List Nat}, (∀ g' ∈ l, k g' ≠ g) → (l.map fun x => (k x, v x)).lookup g = none
  | [], _ => rfl
  | x :: l, h => by
    have : (g == k x) = false := by have := h x (by simp); simp; exact fun e => this e.symm
    simp only [List.map_cons, List.lookup, this]
    exact lookup_map_key fun g' hg' => h g' (by simp [hg'])
theorem lookup_map_news {α : Type} {k : Nat → Nat} {v : Nat → α} {g0 : Nat} : ∀ {l : List Nat}, g0 ∈ l → (∀ g' ∈ l, k g' = k g0 → g' = g0) → (l.map fun x => (k x, v x)).lookup (k g0) = some (v g0)
  | [], h, _ => by cases h
  | x :: l, h, hi => by
    simp only [List.map_cons, List.lookup]
    by_cases e : k x = k g0
    · have := hi x (by simp) e
      subst this; simp
    · have : (k g0 == k x) = false := by simp; exact fun h => e h.symm
      rw [this]
      rcases List.mem_cons.1 h with h | h
      · subst h; exact absurd rfl e
      · exact lookup_map_news h fun g' hg' => hi g' (by simp [hg'])
theorem lookup_map_ren {α : Type} {v : Nat × Nat → α} {p : Nat × Nat} : ∀ {l : List (Nat × Nat)}, (l.map (·.2)).Nodup → p ∈ l → (l.map fun p => (p.2, v p)).lookup p.2 = some (v p)
  | [], _, h => by cases h
  | x :: l, hn, h => by
    simp only [List.map_cons, List.nodup_cons] at hn
    simp only [List.map_cons, List.lookup]
    rcases List.mem_cons.1 h with h | h
    · subst h; simp
    · have : (p.2 == x.2) = false := by
        simp only [beq_eq_false_iff_ne]
        intro e
        exact hn.1 (e ▸ List.mem_map.2 ⟨p, h, rfl⟩)
      rw [this]
      exact lookup_map_ren hn.2 h
theorem lookup_map_ren_none {α : Type} {v : Nat × Nat → α} {g : Nat} : ∀ {l : List (Nat × Nat)}, g ∉ l.map (·.2) → (l.map fun p => (p.2, v p)).lookup g = none
  | [], _ => rfl
  | x :: l, h => by
    simp only [List.map_cons, List.mem_cons, not_or] at h
    have : (g == x.2) = false := by simpa using h.1
    simp only [List.map_cons, List.lookup, this]
    exact lookup_map_ren_none h.2

theorem O.none_like {z : O} (h : O.none.like z) : z = .none := by cases z <;> first | rfl | exact h.elim
theorem O.like_trans {x y z : O} (h1 : x.like y) (h2 : y.like z) : z = .none ∨ x.like z := by
  cases z with
  | none => exact .inl rfl
  | box ws =>
    cases y with
    | none => exact h2.elim
    | arr => exact h2.elim
    | it => exact h2.elim
    | box => cases x with | none => exact h1.elim | arr => exact h1.elim | it => exact h1.elim | box => exact .inr trivial
  | it s n =>
    cases y with
    | none => exact h2.elim
    | arr => exact h2.elim
    | box => exact h2.elim
    | it => cases x with | none => exact h1.elim | arr => exact h1.elim | box => exact h1.elim | it => exact .inr trivial
  | arr fz a i sz l =>
    cases y with
    | none => exact h2.elim
    | box => exact h2.elim
    | it => exact h2.elim
    | arr fz' a' i' sz' l' =>
      cases x with
      | none => exact h1.elim
      | box => exact h1.elim
      | it => exact h1.elim
      | arr => exact .inr ⟨h1.1.trans h2.1, h1.2.trans h2.2⟩
theorem argsIn_bor {s : Sig} {o : Nat → O} {args : List S} {c : CIn} (hc : argsIn s o args = some c) : ∀ g ∈ c.bor, ∃ fz a i sz l, o g = .arr fz a i sz l := by
  unfold argsIn at hc
  split at hc
  · rename_i hsl
    split at hc
    · simp only [Option.some.injEq] at hc; subst hc
      exact argSlots_bor hsl
    · cases hc
  · cases hc

section
variable {E : Env} {st : St} {gh : Nat → Gh} {w : World} {val : Nat → Value}

/-- A CALLEE's WORLD, AND THE WAY BACK. -/
theorem call_back {sp : Spec} (hok : sp.sig.ok = true) (h : Rel E st gh val w) {args : List S} {vals : List Value} (hr : ∀ t, RepS E st gh w (args.getD t .no) (vals.getD t undef))
    {c : CIn} (hc : argsIn sp.sig st.o args = some c) (hf : c.fine sp.sig = true) :
    ∃ (E' : Env) (gh1 : Nat → Gh), E'.B0 = w.heap.size ∧ E'.w0 = w ∧ Rel E' (mk sp.sig.pin c.ins) gh1 (fun k => vals.getD k undef) w ∧ (∀ b, E'.Wr b → ∃ c e, w.heap[b]? = some (.cells c e (0, 0))) ∧
    ∀ (d : Nat) (outs : List P) (ef : Eff), ef = callEff sp.sig d st.o c outs → (∀ g ∈ ef.new, st.used g = false) → ∀ (w' : World) (rs : List Value) (gh2 : Nat → Gh), rs.length = sp.sig.nres → Rel E' (mk sp.sig.pout outs) gh2 (fun k => rs.getD k undef) w' → (∀ g ∈ sp.sig.ios, gh2 g = gh1 g ∧ ((mk sp.sig.pin c.ins).o g).like ((mk sp.sig.pout outs).o g)) →
      ∃ gh', Rel E (st.upd ef.upd ef.new) gh' val w' ∧ Lets E st (st.upd ef.upd ef.new) gh gh' w w' ∧ RepS E (st.upd ef.upd ef.new) gh' w' ef.x (retV rs) ∧ ∀ g ∈ ef.x.names, (st.upd ef.upd ef.new).used g = true := by
  have hrr : ∀ t, RepS E st gh w (args.getD t .no) ((fun k => vals.getD k undef) t) := hr
  obtain ⟨h1, hL1, hE, hren⟩ := call_entry h hok hrr hc hf _ rfl _ rfl
  refine ⟨_, _, rfl, rfl, hE, fun b hb => ?_, fun d outs ef hef hnew w' rs gh2 hrl hx hios => ?_⟩
  · obtain ⟨p, hp, _, ad, e1, e2⟩ := hb
    have hO := h.objs p.2
    rcases (hren p hp).2.2.2 with ⟨_, ws, _, e, _⟩ | ⟨a, i, sz, l, e, _⟩
    · rw [e] at hO
      obtain ⟨ad', c, e', q1, _, q3, _⟩ := hO
      rw [e1] at q1; cases q1
      rw [← e2]; exact ⟨_, _, q3⟩
    · rw [e] at hO
      rcases hO with ⟨q1, _⟩ | ⟨ad', c, e', q1, _, q3, _⟩
      · rw [e1] at q1; cases q1
      · rw [e1] at q1; cases q1
        rw [← e2]; exact ⟨_, _, q3⟩
  generalize hst1 : st.upd (c.bor.map (Fw.freeze st.o)) [] = st1 at h1 hL1 hE hx
  generalize hE' : callEnv h st1 c = E' at hE hx
  generalize hxst : mk sp.sig.pout outs = xst at hx
  have hok' := hok
  simp only [Sig.ok, Bool.and_eq_true] at hok'
  obtain ⟨⟨⟨⟨⟨⟨⟨⟨hpin, hpout⟩, hps⟩, hpo⟩, hos⟩, hoo⟩, hdisj⟩, hnn⟩, hiosn⟩ := hok'
  have hnn := nodupB_spec hnn
  simp only [CIn.fine, Bool.and_eq_true] at hf
  have hn2 := nodupB_spec hf.1.1.1
  generalize hfn : newName d sp.sig.news = f
  generalize hbk : backName d sp.sig.news = bk
  have hbn : ∀ g ∈ sp.sig.news, bk (f g) = some g := fun g hg => by subst hbk; subst hfn; exact backName_new hg
  have hbs : ∀ g g0, bk g = some g0 → g0 ∈ sp.sig.news ∧ f g0 = g := fun g g0 hb => by subst hbk; subst hfn; exact backName_some hb
  have hfi : ∀ g ∈ sp.sig.news, ∀ g', f g = f g' → g = g' := fun g hg g' e => by subst hfn; exact newName_inj hg e
  have hefn : ef.new = sp.sig.news.map f := by subst hef; subst hfn; rfl
  have hefu : ef.upd = (if sp.sig.leaks then c.bor.map (Fw.freeze st.o) else []) ++ c.ren.map (fun p => (p.2, if sp.sig.ios.contains p.1 then reO c.A c.I f (xst.o p.1) else .none)) ++ sp.sig.news.map (fun g => (f g, reO c.A c.I f (xst.o g))) := by
    subst hef; subst hfn; subst hxst; rfl
  have hefx : ef.x = retS ((List.range sp.sig.nres).map fun k => reS c.A c.I f (xst.s k)) := by subst hef; subst hfn; subst hxst; rfl
  have hbn0 : ∀ g, bk g = none → g ∉ ef.new := fun g hb hm => by
    rw [hefn] at hm; obtain ⟨g0, h1, rfl⟩ := List.mem_map.1 hm
    rw [hbn g0 h1] at hb; cases hb
  have hbu : ∀ g, st.used g = true → bk g = none := fun g hu => by
    cases hb : bk g with
    | none => rfl
    | some g0 =>
      obtain ⟨h1, h2⟩ := hbs g g0 hb
      have := hnew g (by rw [hefn]; exact List.mem_map.2 ⟨g0, h1, h2⟩)
      rw [hu] at this; cases this
  -- the state before, frozen where it must be
  let stB : St := if sp.sig.leaks then st1 else st
  have hB : Rel E stB gh val w ∧ Lets E st stB gh gh w w := by
    by_cases hlk : sp.sig.leaks = true
    · have : stB = st1 := by simp [stB, hlk]
      rw [this]; exact ⟨h1, hL1⟩
    · have : stB = st := by simp [stB, hlk]
      rw [this]; exact ⟨h, ⟨fun a i b hb => ⟨hb, rfl⟩, fun g _ => .inr ⟨rfl, O.like_refl _⟩⟩⟩
  obtain ⟨hRB, hLB⟩ := hB
  have hBs : stB.s = st.s := by
    by_cases hlk : sp.sig.leaks = true
    · have : stB = st1 := by simp [stB, hlk]
      rw [this, ← hst1]; rfl
    · have : stB = st := by simp [stB, hlk]
      rw [this]
  have hBu : stB.used = st.used := by
    by_cases hlk : sp.sig.leaks = true
    · have : stB = st1 := by simp [stB, hlk]
      rw [this, ← hst1]; rfl
    · have : stB = st := by simp [stB, hlk]
      rw [this]
  have hBo : ∀ g, stB.o g = (if g ∈ c.bor ∧ sp.sig.leaks = true then (Fw.freeze st.o g).2 else st.o g) := by
    intro g
    by_cases hlk : sp.sig.leaks = true
    · have : stB = st1 := by simp [stB, hlk]
      rw [this, ← hst1]
      show (match (c.bor.map (Fw.freeze st.o)).lookup g with | some x => x | none => st.o g) = _
      rw [lookup_freeze]
      by_cases hg : g ∈ c.bor <;> simp [hg, hlk]
    · have : stB = st := by simp [stB, hlk]
      rw [this]; simp [hlk]
  have hBown : ∀ g, (stB.o g).owned = true → (st.o g).owned = true := by
    intro g hg
    rw [hBo] at hg
    split at hg
    · unfold Fw.freeze at hg
      cases ho : st.o g with
      | none => rw [ho] at hg; cases hg
      | box => rfl
      | it => rfl
      | arr => rw [ho] at hg; cases hg
    · exact hg
  have hBr : ∀ p ∈ c.ren, stB.o p.2 = st.o p.2 := by
    intro p hp
    rw [hBo, if_neg fun h => (hren p hp).2.1 h.1]
  -- the state behind
  generalize hstF : st.upd ef.upd ef.new = stF
  have hFs : stF.s = st.s := by subst hstF; rfl
  have hFu : ∀ g, st.used g = true → stF.used g = true := fun g hg => by subst hstF; simp [St.upd, hg]
  have hFn : ∀ g ∈ sp.sig.news, stF.used (f g) = true := fun g hg => by
    subst hstF
    have : f g ∈ ef.new := by rw [hefn]; exact List.mem_map.2 ⟨g, hg, rfl⟩
    simp [St.upd, this]
  have hrenu : ∀ p ∈ c.ren, st.used p.2 = true := fun p hp => h.ul p.2 (by intro e; have := (hren p hp).1; rw [e] at this; cases this)
  have hboru : ∀ g ∈ c.bor, st.used g = true ∨ st.o g = .none := fun g hg => by
    by_cases hn : st.o g = .none
    · exact .inr hn
    · exact .inl (h.ul g hn)
  have hFo : ∀ g, stF.o g = match ef.upd.lookup g with | some x => x | none => st.o g := fun g => by subst hstF; rfl
  have hFnew : ∀ g ∈ sp.sig.news, stF.o (f g) = reO c.A c.I f (xst.o g) := by
    intro g hg
    have hfu : st.used (f g) = false := hnew _ (by rw [hefn]; exact List.mem_map.2 ⟨g, hg, rfl⟩)
    have e2 : (c.ren.map (fun p => (p.2, if sp.sig.ios.contains p.1 then reO c.A c.I f (xst.o p.1) else .none))).lookup (f g) = none := lookup_map_ren_none fun hm => by
      obtain ⟨p, hp, e⟩ := List.mem_map.1 hm
      rw [← e, hrenu p hp] at hfu; cases hfu
    have e3 := lookup_map_news (k := f) (v := fun g => reO c.A c.I f (xst.o g)) hg fun g' hg' e => hfi g' hg' g e
    have e1 : (if sp.sig.leaks then c.bor.map (Fw.freeze st.o) else []).lookup (f g) = none := by
      split
      · rw [lookup_freeze, if_neg]
        intro hm
        obtain ⟨fz, a, i, sz, l, e⟩ := argsIn_bor hc (f g) hm
        have := h.ul (f g) (by rw [e]; simp)
        rw [this] at hfu; cases hfu
      · rfl
    rw [hFo, hefu, lookup_or, lookup_or, e1, e2, e3]; rfl
  have hFren : ∀ p ∈ c.ren, stF.o p.2 = if sp.sig.ios.contains p.1 then reO c.A c.I f (xst.o p.1) else .none := by
    intro p hp
    have e1 : (if sp.sig.leaks then c.bor.map (Fw.freeze st.o) else []).lookup p.2 = none := by
      split
      · rw [lookup_freeze, if_neg (hren p hp).2.1]
      · rfl
    have e2 := lookup_map_ren (v := fun p => if sp.sig.ios.contains p.1 then reO c.A c.I f (xst.o p.1) else O.none) hn2 hp
    rw [hFo, hefu, lookup_or, lookup_or, e1, e2]; rfl
  have hFold : ∀ g, bk g = none → g ∉ c.ren.map (·.2) → stF.o g = stB.o g := by
    intro g hb hg
    have e2 := lookup_map_ren_none (v := fun p => if sp.sig.ios.contains p.1 then reO c.A c.I f (xst.o p.1) else O.none) hg
    have e3 : (sp.sig.news.map (fun g => (f g, reO c.A c.I f (xst.o g)))).lookup g = none := lookup_map_key fun g' hg' e => by
      have := hbn g' hg'
      rw [e, hb] at this; cases this
    rw [hFo, hefu, lookup_or, lookup_or, e2, e3, hBo]
    by_cases hlk : sp.sig.leaks = true
    · rw [if_pos hlk, lookup_freeze]
      by_cases hg : g ∈ c.bor <;> simp [hg, hlk]
    · simp [hlk]
  -- where the objects lie
  let gh' : Nat → Gh := fun g => match bk g with | some g0 => gh2 g0 | none => gh g
  have hgn : ∀ g ∈ sp.sig.news, gh' (f g) = gh2 g := fun g hg => by simp only [gh', hbn g hg]
  have hgo : ∀ g, bk g = none → gh' g = gh g := fun g hb => by simp only [gh', hb]
  have hios2 : ∀ p ∈ c.ren, sp.sig.ios.contains p.1 = true → gh2 p.1 = gh p.2 := by
    intro p hp hi
    rw [(hios p.1 (by simpa using hi)).1]
    have := (hren p hp).2.2.1
    simp only [reGh, this]
  have hnio : ∀ g ∈ sp.sig.news, sp.sig.ios.contains g = false := by
    intro g hg
    cases hi : sp.sig.ios.contains g with
    | false => rfl
    | true =>
      have := (List.all_eq_true.1 hdisj) g (by simpa using hi)
      simp [hg] at this
  -- objects at the exit
  have hxo : ∀ g0, xst.o g0 ≠ .none → ∃ k n', (g0, k) ∈ sp.sig.pout.objs ∧ xst.o g0 = (mkO outs n' k).1 := fun g0 hn => by
    subst hxst
    exact mkObjs_mem (mk_o hn)
  have hxio : ∀ g0, sp.sig.ios.contains g0 = true → (∃ ws, (mk sp.sig.pin c.ins).o g0 = .box ws) → ∃ ws, xst.o g0 = .box ws := by
    rintro g0 hi ⟨ws, hb⟩
    have hk := (List.all_eq_true.1 hiosn) g0 (by simpa using hi)
    cases h1 : sp.sig.pin.objs.lookup g0 with
    | none => rw [h1] at hk; cases hk
    | some k1 =>
      cases h2 : sp.sig.pout.objs.lookup g0 with
      | none => rw [h1, h2] at hk; cases k1 <;> cases hk
      | some k2 =>
        rw [h1, h2] at hk
        obtain ⟨n1, e1⟩ := mk_kind (vs := c.ins) h1
        obtain ⟨n2, e2⟩ := mk_kind (vs := outs) h2
        rw [hb] at e1
        cases k1 with
        | box ks =>
          cases k2 with
          | box ks' => subst hxst; exact ⟨_, e2⟩
          | arr => cases hk
          | it => cases hk
        | arr => cases e1
        | it => cases e1
  have hlkO : ∀ g0 k, (g0, k) ∈ sp.sig.pout.objs → k.isA = true → sp.sig.leaks = true := fun g0 k hm ha => by
    simp only [Sig.leaks, Bool.or_eq_true, List.any_eq_true]
    exact .inr ⟨_, hm, ha⟩
  have hlkS : ∀ t k, (t, k) ∈ sp.sig.pout.slots → k.isA = true → sp.sig.leaks = true := fun t k hm ha => by
    simp only [Sig.leaks, Bool.or_eq_true, List.any_eq_true]
    exact .inl ⟨_, hm, ha⟩
  have hOut : ∀ g0, Ow (Cback c.A c.I sp.sig.leaks) bk (fun _ => False) (xst.o g0) (reO c.A c.I f (xst.o g0)) ∧ ∀ g ∈ (reO c.A c.I f (xst.o g0)).names, ∃ g1 ∈ sp.sig.news, g = f g1 := by
    intro g0
    by_cases hn : xst.o g0 = .none
    · rw [hn]; exact ⟨.none _, by simp [reO, O.names]⟩
    · obtain ⟨k, n', h1, h2⟩ := hxo g0 hn
      rw [h2]
      refine out_o hbn (fun ws e => ?_) (hlkO g0 k h1) n'
      subst e
      have hk := (List.all_eq_true.1 hoo) _ h1
      simp only [Bool.and_eq_true] at hk
      exact hk.1
  have howned : ∀ x, (reO c.A c.I f x).owned = x.owned := by intro x; cases x <;> rfl
  -- what is owned behind the call
  have hsplit : ∀ g ad, (stF.o g).owned = true → (gh' g).ad = some ad →
      (∃ g0, (xst.o g0).owned = true ∧ (gh2 g0).ad = some ad ∧ stF.o g = reO c.A c.I f (xst.o g0) ∧ ((g0 ∈ sp.sig.news ∧ g = f g0) ∨ (sp.sig.ios.contains g0 = true ∧ (g0, g) ∈ c.ren))) ∨
      ((stB.o g).owned = true ∧ (gh g).ad = some ad ∧ g ∉ c.ren.map (·.2) ∧ bk g = none ∧ stF.o g = stB.o g) := by
    intro g ad ho had
    cases hb : bk g with
    | some g0 =>
      obtain ⟨b1, b2⟩ := hbs g g0 hb
      subst b2
      have e := hFnew g0 b1
      exact .inl ⟨g0, by rw [e, howned] at ho; exact ho, by rw [hgn g0 b1] at had; exact had, e, .inl ⟨b1, rfl⟩⟩
    | none =>
      rw [hgo g hb] at had
      by_cases hm : g ∈ c.ren.map (·.2)
      · obtain ⟨p, hp, e⟩ := List.mem_map.1 hm
        subst e
        have e := hFren p hp
        cases hi : sp.sig.ios.contains p.1 with
        | false => rw [e, hi] at ho; cases ho
        | true =>
          rw [hi, if_pos rfl] at e
          exact .inl ⟨p.1, by rw [e, howned] at ho; exact ho, by rw [hios2 p hp hi]; exact had, e, .inr ⟨hi, hp⟩⟩
      · have e := hFold g hb hm
        exact .inr ⟨by rw [e] at ho; exact ho, had, hm, by first | exact hb | rfl, e⟩
  have hEWr : ∀ b, E'.Wr b → ∃ p ∈ c.ren, ∃ ad, (gh p.2).ad = some ad ∧ ad.block = b := fun b hb => by subst hE'; obtain ⟨p, hp, _, ad, h1, h2⟩ := hb; exact ⟨p, hp, ad, h1, h2⟩
  have hEB : E'.B0 = w.heap.size := by subst hE'; rfl
  have hEw : E'.w0 = w := by subst hE'; rfl
  have hframe : ∀ b, b < w.heap.size → ¬ E'.Wr b → w'.heap[b]? = w.heap[b]? := fun b hb hw => by
    rw [hx.frame b (by rw [hEB]; exact hb) hw, hEw]
  have hnWr : ∀ b, (∀ p ∈ c.ren, ∀ ad, (gh p.2).ad = some ad → ad.block ≠ b) → ¬ E'.Wr b := fun b hb hw => by
    obtain ⟨p, hp, ad, e1, e2⟩ := hEWr b hw
    exact hb p hp ad e1 e2
  have hsize : w.heap.size ≤ w'.heap.size := by rw [← hEB]; exact hx.size
  have hlike : ∀ g, st.used g = true → stF.o g = .none ∨ (gh' g = gh g ∧ (stB.o g).like (stF.o g)) := by
    intro g hu
    have hb := hbu g hu
    refine .inr ⟨hgo g hb, ?_⟩
    by_cases hm : g ∈ c.ren.map (·.2)
    · obtain ⟨p, hp, e⟩ := List.mem_map.1 hm
      subst e
      rw [hBr p hp, hFren p hp]
      cases hi : sp.sig.ios.contains p.1 with
      | false => generalize st.o p.2 = z; cases z <;> simp [O.like]
      | true =>
        rw [if_pos rfl]
        rcases (hren p hp).2.2.2 with ⟨_, ws, ws1, e, eb⟩ | ⟨a, i, sz, l, e, _, ea⟩
        · obtain ⟨ws', e'⟩ := hxio p.1 hi ⟨_, eb⟩
          rw [e, e']; trivial
        · have hlk := (hios p.1 (by simpa using hi)).2
          rw [hxst, ea] at hlk
          rw [e]
          generalize xst.o p.1 = z at hlk
          cases z with
          | none => trivial
          | arr => exact hlk
          | box => exact hlk.elim
          | it => exact hlk.elim
    · rw [hFold g hb hm]; exact O.like_refl _
  have hLets : Lets E stB stF gh gh' w w' := by
    refine ⟨fun a i b hb => ⟨⟨hb.1, by have := hb.2.1; omega, fun g ad ho had e => ?_⟩, ?_⟩, fun g hu => hlike g (by rw [← hBu]; exact hu)⟩
    · rcases hsplit g ad ho had with ⟨g0, o0, d0, _, _⟩ | ⟨o0, d0, _⟩
      · have hw0 := (hx.wr g0 ad o0 d0).1
        rw [hEB, e] at hw0
        rcases hw0 with hw0 | hw0
        · have := hb.2.1; omega
        · obtain ⟨p, hp, ad', e1, e2⟩ := hEWr b hw0
          exact hb.2.2 p.2 ad' (by rw [hBr p hp]; exact (hren p hp).1) e1 e2
      · exact hb.2.2 g ad o0 d0 e
    · exact hframe b hb.2.1 (hnWr b fun p hp ad e1 => hb.2.2 p.2 ad (by rw [hBr p hp]; exact (hren p hp).1) e1)
  -- how the callee's words read here
  have hWrI : ∀ b, E'.Wr b → E.Wr b → (∀ g ad ws, xst.o g = .box ws → (gh2 g).ad = some ad → ad.block = b → sp.sig.ios.contains g = false) → c.I.2 = true := by
    intro b hb hEb hno
    obtain ⟨p, hp, ad, e1, e2⟩ := hEWr b hb
    rcases (hren p hp).2.2.2 with ⟨hi, ws, ws1, e, eb⟩ | ⟨a, i, sz, l, e, hci, _⟩
    · obtain ⟨ws', e'⟩ := hxio p.1 hi ⟨_, eb⟩
      have := hno p.1 ad ws' e' (by rw [hios2 p hp hi]; exact e1) e2
      rw [hi] at this; cases this
    · exact hci.2 (h.wi p.2 a i sz l ad e e1 (by rw [e2]; exact hEb))
  have hcls : ∀ {a i a' i' : Bool} {A : Bool × Bool}, (A.1 = true → a' = true) → (A.2 = true → i' = true) → ∀ {b : Nat}, ((A.1 = true ∧ E.FA b) ∨ (A.2 = true ∧ (E.FI b ∨ E.Wr b)) ∨ E.B0 ≤ b ∨ Globs.has b) → ((a' = true ∧ E.FA b) ∨ (i' = true ∧ (E.FI b ∨ E.Wr b)) ∨ E.B0 ≤ b ∨ Globs.has b) := by
    intro a i a' i' A h1 h2 b hb
    rcases hb with ⟨q1, q2⟩ | ⟨q1, q2⟩ | q
    · exact .inl ⟨h1 q1, q2⟩
    · exact .inr (.inl ⟨h2 q1, q2⟩)
    · exact .inr (.inr q)
  have hcast : Cast (Cback c.A c.I sp.sig.leaks) bk (fun _ => False) E' E xst stF gh2 gh' w' := by
    refine ⟨fun a i a' i' b hC hb => ?_, fun g g' hm fz a i sz l ho => ?_, fun g g' hm ws ho => ?_, fun g g' hm s n ho => ?_, fun g' hf => hf.elim⟩
    · obtain ⟨hC, hA⟩ := hC
      have ha' : a' = ((a && c.A.1) || (i && c.I.1)) := congrArg Prod.fst hC
      have hi' : i' = ((a && c.A.2) || (i && c.I.2)) := congrArg Prod.snd hC
      have hnotY : ∀ g ad, (xst.o g).owned = true → (gh2 g).ad = some ad → ad.block ≠ b := hb.2.2
      have hcase : ((a' = true ∧ E.FA b) ∨ (i' = true ∧ (E.FI b ∨ E.Wr b)) ∨ E.B0 ≤ b ∨ Globs.has b) ∧ (∀ g ad, (stB.o g).owned = true → (gh g).ad = some ad → g ∉ c.ren.map (·.2) → ad.block ≠ b) := by
        have hb1 := hb.1
        subst hE'
        rcases hb1 with ⟨ha, hFA⟩ | ⟨hi, hFI | hWr⟩ | hge | hgl
        · have hlk := hA ha
          have hst : stB = st1 := by simp [stB, hlk]
          refine ⟨hcls (a := a) (i := i) (A := c.A) (by intro h; simp [ha', ha, h]) (by intro h; simp [hi', ha, h]) hFA.1, fun g ad ho had _ => ?_⟩
          rw [hst] at ho
          exact hFA.2.2 g ad ho had
        · refine ⟨hcls (a := a) (i := i) (A := c.I) (by intro h; simp [ha', hi, h]) (by intro h; simp [hi', hi, h]) hFI.1, fun g ad ho had _ => ?_⟩
          exact hFI.2.2 g ad (hBown g ho) had
        · obtain ⟨p, hp, ow, ad, e1, e2⟩ := hWr
          refine ⟨?_, fun g ad' ho had hng e => ?_⟩
          · rcases (h.wr p.2 ad (hren p hp).1 e1).1 with q | q
            · rw [e2] at q; exact .inr (.inr (.inl q))
            · rw [e2] at q
              have := hWrI b ⟨p, hp, ow, ad, e1, e2⟩ q fun g ad' ws1 o1 d1 e3 => absurd e3 (hnotY g ad' (by rw [o1]; rfl) d1)
              exact .inr (.inl ⟨by simp [hi', hi, this], .inr q⟩)
          · have := h.inj g p.2 ad' ad (hBown g ho) (hren p hp).1 had e1 (by rw [e, e2])
            exact hng (this ▸ List.mem_map.2 ⟨p, hp, rfl⟩)
        · refine ⟨.inr (.inr (.inl (Nat.le_trans h.size hge))), fun g ad ho had _ e => ?_⟩
          have := (hRB.wr g ad ho had).2
          have hge : w.heap.size ≤ b := hge
          omega
        · refine ⟨.inr (.inr (.inr hgl)), fun g ad ho had _ e => ?_⟩
          obtain ⟨g1, g2⟩ := E.glob_not hgl
          rcases (hRB.wr g ad ho had).1 with q | q
          · rw [e] at q; omega
          · rw [e] at q; exact g2 q
      refine ⟨hcase.1, hb.2.1, fun g ad ho had => ?_⟩
      rcases hsplit g ad ho had with ⟨g0, o0, d0, _, _⟩ | ⟨o0, d0, n0, _⟩
      · exact hnotY g0 ad o0 d0
      · exact hcase.2 g ad o0 d0 n0
    · obtain ⟨b1, b2⟩ := hbs g' g hm
      subst b2
      refine ⟨hgn g b1, ?_⟩
      rw [hFnew g b1] at ho
      cases hxg : xst.o g with
      | none => rw [hxg] at ho; cases ho
      | box => rw [hxg] at ho; cases ho
      | it => rw [hxg] at ho; cases ho
      | arr => rw [hxg] at ho; simp only [reO, O.arr.injEq] at ho; obtain ⟨_, _, _, rfl, rfl⟩ := ho; exact ⟨_, _, _, rfl⟩
    · obtain ⟨b1, b2⟩ := hbs g' g hm
      subst b2
      refine ⟨hgn g b1, ?_⟩
      rw [hFnew g b1] at ho
      cases hxg : xst.o g with
      | none => rw [hxg] at ho; cases ho
      | box => exact ⟨_, rfl⟩
      | it => rw [hxg] at ho; cases ho
      | arr => rw [hxg] at ho; cases ho
    · obtain ⟨b1, b2⟩ := hbs g' g hm
      subst b2
      refine ⟨hgn g b1, ?_⟩
      rw [hFnew g b1] at ho
      cases hxg : xst.o g with
      | none => rw [hxg] at ho; cases ho
      | box => rw [hxg] at ho; cases ho
      | it => exact ⟨_, _, rfl⟩
      | arr => rw [hxg] at ho; cases ho
  have hrepO : ∀ g0, RepO E stF gh' w' (reO c.A c.I f (xst.o g0)) (gh2 g0) := fun g0 => hcast.repO (hOut g0).1 (hx.objs g0)
  -- all together
  have hRel : Rel E stF gh' val w' := by
    refine hRB.step hLets (hFs.trans hBs.symm) (fun g hg => hFu g (by rw [← hBu]; exact hg)) (fun g => ?_) (fun g1 g2 a1 a2 h1 h2 k1 k2 hb => ?_) (fun g ad ho had => ?_) (fun g a i sz l ad ho had hw => ?_) (fun b hb hw => ?_) hsize (by rw [hx.os, hEw]) (by rw [hx.tape, hEw]) (by rw [hx.output, hEw]) (fun g g' hg' => ?_) (fun g hg => ?_)
    · cases hb : bk g with
      | some g0 =>
        obtain ⟨b1, b2⟩ := hbs g g0 hb
        subst b2
        rw [hFnew g0 b1, hgn g0 b1]; exact hrepO g0
      | none =>
        rw [hgo g hb]
        by_cases hm : g ∈ c.ren.map (·.2)
        · obtain ⟨p, hp, e⟩ := List.mem_map.1 hm
          subst e
          rw [hFren p hp]
          cases hi : sp.sig.ios.contains p.1 with
          | false => trivial
          | true => rw [if_pos rfl, ← hios2 p hp hi]; exact hrepO p.1
        · rw [hFold g hb hm]
          refine hLets.repO (fun ho ad had => hframe _ (hRB.wr g ad ho had).2 (hnWr _ fun p hp ad' e1 e2 => ?_)) (fun g' hg' => hRB.uo g g' hg') (hRB.objs g)
          have := h.inj p.2 g ad' ad (hren p hp).1 (hBown g ho) e1 had e2
          exact hm (this ▸ List.mem_map.2 ⟨p, hp, rfl⟩)
    · have mixed : ∀ g1 g2 a1 a2 g0, (xst.o g0).owned = true → (gh2 g0).ad = some a1 → (stB.o g2).owned = true → (gh g2).ad = some a2 → g2 ∉ c.ren.map (·.2) → a1.block = a2.block → g1 = g2 := by
        intro g1 g2 a1 a2 g0 o1 d1 o2 d2 n2 e
        exfalso
        rcases (hx.wr g0 a1 o1 d1).1 with q | q
        · rw [hEB, e] at q
          have := (hRB.wr g2 a2 o2 d2).2
          omega
        · obtain ⟨p, hp, ad', e1, e2⟩ := hEWr _ q
          have := h.inj p.2 g2 ad' a2 (hren p hp).1 (hBown g2 o2) e1 d2 (e2.trans e)
          exact n2 (this ▸ List.mem_map.2 ⟨p, hp, rfl⟩)
      rcases hsplit g1 a1 h1 k1 with ⟨q1, o1, d1, _, l1⟩ | ⟨o1, d1, n1, _⟩ <;> rcases hsplit g2 a2 h2 k2 with ⟨q2, o2, d2, _, l2⟩ | ⟨o2, d2, n2, _⟩
      · have := hx.inj q1 q2 a1 a2 o1 o2 d1 d2 hb
        subst this
        rcases l1 with ⟨m1, e1⟩ | ⟨i1, m1⟩ <;> rcases l2 with ⟨m2, e2⟩ | ⟨i2, m2⟩
        · rw [e1, e2]
        · rw [hnio q1 m1] at i2; cases i2
        · rw [hnio q1 m2] at i1; cases i1
        · have l1 := (hren _ m1).2.2.1
          have l2 := (hren _ m2).2.2.1
          rw [l1] at l2; exact Option.some.inj l2
      · exact mixed g1 g2 a1 a2 q1 o1 d1 o2 d2 n2 hb
      · exact (mixed g2 g1 a2 a1 q2 o2 d2 o1 d1 n1 hb.symm).symm
      · exact hRB.inj g1 g2 a1 a2 o1 o2 d1 d2 hb
    · rcases hsplit g ad ho had with ⟨g0, o0, d0, _, _⟩ | ⟨o0, d0, _⟩
      · have := hx.wr g0 ad o0 d0
        refine ⟨?_, this.2⟩
        rcases this.1 with q | q
        · rw [hEB] at q; exact .inl (Nat.le_trans h.size q)
        · obtain ⟨p, hp, ad', e1, e2⟩ := hEWr _ q
          rw [← e2]; exact (h.wr p.2 ad' (hren p hp).1 e1).1
      · have := hRB.wr g ad o0 d0
        exact ⟨this.1, by omega⟩
    · rcases hsplit g ad (by rw [ho]; rfl) had with ⟨g0, o0, d0, e0, l0⟩ | ⟨o0, d0, _, _, e0⟩
      · rw [ho] at e0
        have hlt : ad.block < w.heap.size := by have := h.wb _ hw; have := h.size; omega
        rcases (hx.wr g0 ad o0 d0).1 with q | q
        · rw [hEB] at q; omega
        · cases hxg : xst.o g0 with
          | none => rw [hxg] at e0; cases e0
          | box => rw [hxg] at e0; cases e0
          | it => rw [hxg] at e0; cases e0
          | arr fz1 a1 i1 sz1 l1 =>
            rw [hxg] at e0
            simp only [reO, O.arr.injEq] at e0
            obtain ⟨rfl, _, e2, _, _⟩ := e0
            have hi1 := hx.wi g0 a1 i1 sz1 l1 ad hxg d0 q
            have := hWrI ad.block q hw fun g3 ad3 ws3 o3 d3 e3 => by
              have := hx.inj g3 g0 ad3 ad (by rw [o3]; rfl) o0 d3 d0 e3
              subst this
              rw [hxg] at o3; cases o3
            rw [e2]; simp [clsOf, hi1, this]
      · rw [e0] at ho
        exact hRB.wi g a i sz l ad ho d0 hw
    · refine hframe b (Nat.lt_of_lt_of_le hb h.size) (hnWr b fun p hp ad e1 e2 => ?_)
      rcases (h.wr p.2 ad (hren p hp).1 e1).1 with q | q
      · omega
      · rw [e2] at q; exact hw q
    · cases hb : bk g with
      | some g0 =>
        obtain ⟨b1, b2⟩ := hbs g g0 hb
        subst b2
        rw [hFnew g0 b1] at hg'
        obtain ⟨g1, m1, rfl⟩ := (hOut g0).2 g' hg'
        exact hFn g1 m1
      | none =>
        by_cases hm : g ∈ c.ren.map (·.2)
        · obtain ⟨p, hp, e⟩ := List.mem_map.1 hm
          subst e
          rw [hFren p hp] at hg'
          cases hi : sp.sig.ios.contains p.1 with
          | false => rw [hi] at hg'; simp [O.names] at hg'
          | true =>
            rw [hi, if_pos rfl] at hg'
            obtain ⟨g1, m1, rfl⟩ := (hOut p.1).2 g' hg'
            exact hFn g1 m1
        · rw [hFold g hb hm] at hg'
          exact hFu g' (by rw [← hBu]; exact hRB.uo g g' hg')
    · cases hb : bk g with
      | some g0 =>
        obtain ⟨b1, b2⟩ := hbs g g0 hb
        subst b2; exact hFn g0 b1
      | none =>
        by_cases hm : g ∈ c.ren.map (·.2)
        · obtain ⟨p, hp, e⟩ := List.mem_map.1 hm
          subst e
          exact hFu _ (hrenu p hp)
        · rw [hFold g hb hm] at hg
          exact hFu g (by rw [← hBu]; exact hRB.ul g hg)
  -- the results
  have hRes : ∀ k, RepV E stF gh' w' (reS c.A c.I f (xst.s k)) (rs.getD k undef) ∧ ∀ g ∈ (reS c.A c.I f (xst.s k)).names, ∃ g1 ∈ sp.sig.news, g = f g1 := by
    intro k
    have hk := hx.slots k
    subst hxst
    have e0 : (mk sp.sig.pout outs).s k = match (mkSlots outs 0 sp.sig.pout.slots).1.lookup k with | some x => x | none => .no := rfl
    cases hxk : (mkSlots outs 0 sp.sig.pout.slots).1.lookup k with
    | none =>
      rw [e0, hxk]
      exact ⟨.one _ _ (.no _), by simp [reS, V.names, W.names]⟩
    | some x =>
      rw [hxk] at e0
      rw [e0] at hk ⊢
      obtain ⟨kk, n', h1, h2⟩ := mkSlots_mem hxk
      obtain ⟨y, e, h3, h4⟩ := out_s (vs := outs) (A := c.A) (I := c.I) hbn ((List.all_eq_true.1 hos) _ h1) (hlkS k kk h1) n'
      simp only [h2, e] at hk ⊢
      cases hk with | v _ _ hk => exact ⟨hcast.repV h3 hk, h4⟩
  refine ⟨gh', hRel, ⟨fun a i b hb => ?_, fun g hu => ?_⟩, ?_, ?_⟩
  · obtain ⟨q1, q2⟩ := hLB.ok a i b hb
    exact hLets.ok a i b q1
  · rcases hlike g hu with q | ⟨q1, q2⟩
    · exact .inl q
    · rcases hLB.names g hu with q | ⟨_, q⟩
      · rw [q] at q2
        rcases O.like_trans (x := .none) (O.like_refl _) q2 with q | q
        · exact .inl q
        · exact .inl (O.none_like q)
      · rcases O.like_trans q q2 with q | q
        · exact .inl q
        · exact .inr ⟨q1, q⟩
  · rw [hefx]
    have hl : ((List.range sp.sig.nres).map fun k => reS c.A c.I f (xst.s k)).length = rs.length := by simp [hrl]
    have hj : ∀ (j : Nat) x v, ((List.range sp.sig.nres).map fun k => reS c.A c.I f (xst.s k))[j]? = some x → rs[j]? = some v → RepV E stF gh' w' x v := by
      intro j x v hx' hv
      rw [List.getElem?_map] at hx'
      obtain ⟨k, hk, rfl⟩ := Option.map_eq_some_iff.1 hx'
      obtain ⟨hlt, hk⟩ := List.getElem?_eq_some_iff.1 hk
      simp at hk; subst hk
      have := (hRes j).1
      rwa [List.getD_eq_getElem?_getD, hv] at this
    generalize (List.range sp.sig.nres).map (fun k => reS c.A c.I f (xst.s k)) = xs at hl hj
    unfold retS retV
    match xs, rs, hl, hj with
    | [], [], _, hj => exact .tup _ _ rfl hj
    | [x], [v], _, hj => exact .v _ _ (hj 0 x v rfl rfl)
    | x :: y :: xs, v :: u :: vs, hl, hj => exact .tup _ _ hl hj
  · intro g hg
    have : ∃ k, g ∈ (reS c.A c.I f (xst.s k)).names := by
      rw [hefx] at hg
      generalize hxs : (List.range sp.sig.nres).map (fun k => reS c.A c.I f (xst.s k)) = xs at hg
      have hin : ∃ x ∈ xs, g ∈ x.names := by
        unfold retS at hg
        split at hg
        · exact ⟨_, by simp, hg⟩
        · simpa [S.names, List.mem_flatMap] using hg
      obtain ⟨x, hx1, hx2⟩ := hin
      rw [← hxs] at hx1
      obtain ⟨k, _, rfl⟩ := List.mem_map.1 hx1
      exact ⟨k, hx2⟩
    obtain ⟨k, hk⟩ := this
    obtain ⟨g1, m1, rfl⟩ := (hRes k).2 g hk
    exact hFn g1 m1
theorem call_sound {Pg : Program} {fn : FuncId} {sp : Spec} (hs : Sound Pg fn sp) (h : Rel E st gh val w) {args : List S} {vals : List Value} (hr : ∀ t, RepS E st gh w (args.getD t .no) (vals.getD t undef)) (hlen : vals.length = sp.sig.nargs)
    {c : CIn} (hc : argsIn sp.sig st.o args = some c) (hf : c.fine sp.sig = true) {outs : List P} (hR : sp.R c.ins outs) (d : Nat)
    {ef : Eff} (hef : ef = callEff sp.sig d st.o c outs) (hnew : ∀ g ∈ ef.new, st.used g = false) :
    Calls Pg fn vals.toArray w fun e w' => ∃ v gh', e = .returned v ∧ Rel E (st.upd ef.upd ef.new) gh' val w' ∧ Lets E st (st.upd ef.upd ef.new) gh gh' w w' ∧ RepS E (st.upd ef.upd ef.new) gh' w' ef.x v ∧ ∀ g ∈ ef.x.names, (st.upd ef.upd ef.new).used g = true := by
  obtain ⟨E', gh1, q1, q2, q3, _, q4⟩ := call_back hs.1 h hr hc hf
  refine Calls.mono (hs.2.2 E' w vals gh1 c.ins outs hR q1 q2 q3 hlen) fun e w' he => ?_
  obtain ⟨rs, gh2, hrl, rfl, hx, hios⟩ := he
  obtain ⟨gh', r1, r2, r3, r4⟩ := q4 d outs ef hef hnew w' rs gh2 hrl hx hios
  exact ⟨_, gh', rfl, r1, r2, r3, r4⟩
end
end Go.Fw

/-
  THE FRAMEWORK, PART O: an operation looks at its operands and at the objects that they name, and at nothing else.
-/
namespace Go.Fw
set_option linter.unusedSectionVars false
variable [Globs]
set_option linter.unusedVariables false

section
variable {o o' : Nat → O}

theorem toP_local {x : W} (h : ∀ g ∈ x.names, o g = o' g) : x.toP o = x.toP o' := by
  cases x <;> simp only [W.toP] <;> (try rw [h _ (by simp [W.names])])
theorem toP_sub {x : W} {y : P} {a i : Bool} {gs : List Nat} (h : x.toP o = some (y, a, i, gs)) : ∀ g ∈ gs, g ∈ x.names := by
  cases x <;> simp only [W.toP] at h <;> (try split at h) <;> (try cases h) <;> simp [W.names]
theorem toPs_local : ∀ {xs : List W}, (∀ x ∈ xs, ∀ g ∈ x.names, o g = o' g) → toPs o xs = toPs o' xs
  | [], _ => rfl
  | x :: xs, h => by simp only [toPs]; rw [toP_local (h x (by simp)), toPs_local fun y hy => h y (by simp [hy])]
theorem toPs_sub : ∀ {xs : List W} {ys : List P} {a i : Bool} {gs : List Nat}, toPs o xs = some (ys, a, i, gs) → ∀ g ∈ gs, ∃ x ∈ xs, g ∈ x.names
  | [], ys, a, i, gs, h => by simp [toPs] at h; obtain ⟨_, _, _, rfl⟩ := h; simp
  | x :: xs, ys, a, i, gs, h => by
    simp only [toPs] at h
    split at h
    · rename_i h1 h2
      simp only [Option.some.injEq, Prod.mk.injEq] at h
      obtain ⟨_, _, _, rfl⟩ := h
      intro g hg
      rcases List.mem_append.1 hg with hg | hg
      · exact ⟨x, by simp, toP_sub h1 g hg⟩
      · obtain ⟨y, h3, h4⟩ := toPs_sub h2 g hg
        exact ⟨y, by simp [h3], h4⟩
    · cases h
theorem freeze_local {gs : List Nat} (h : ∀ g ∈ gs, o g = o' g) : gs.map (freeze o) = gs.map (freeze o') :=
  List.map_congr_left fun g hg => by simp only [freeze, h g hg]
theorem rows_local {sz : Nat} {x : W} (h : ∀ g ∈ x.names, o g = o' g) : x.rows o sz = x.rows o' sz := by
  cases x <;> simp only [W.rows] <;> (try rw [h _ (by simp [W.names])])
theorem lenOf_local {x : W} (h : ∀ g ∈ x.names, o g = o' g) : lenOf o x = lenOf o' x := by
  cases x <;> simp only [lenOf] <;> (try rw [h _ (by simp [W.names])])
theorem live_local {x : W} (h : ∀ g ∈ x.names, o g = o' g) : x.live o = x.live o' := by
  cases x <;> simp only [W.live] <;> (try rw [h _ (by simp [W.names])])
theorem append_local {tt : TT} {d : Nat} {sT : TypeId} {s x : W} (hs : ∀ g ∈ s.names, o g = o' g) (h : ∀ g ∈ x.names, o g = o' g) : appendK tt d o sT s x = appendK tt d o' sT s x := by
  unfold appendK
  split
  · split
    · split
      · rfl
      · rw [rows_local h]
        split
        · rfl
        · cases s <;> simp only <;> (try rw [hs _ (by simp [W.names])])
    · rfl
  · rfl

theorem fillW_from {place : Nat → Option (Nat × Nat)} : ∀ {ps : List (Nat × S)} {ws0 ws : List W}, fillW place ws0 ps = some ws → ∀ x ∈ ws, x ∈ ws0 ∨ ∃ p ∈ ps, ∀ g ∈ x.names, g ∈ p.2.names
  | [], ws0, ws, h => by simp only [fillW, Option.some.injEq] at h; subst h; intro x hx; exact .inl hx
  | (n, s) :: ps, ws0, ws, h => by
    cases s with
    | v y =>
      simp only [fillW] at h
      split at h
      · split at h
        · intro x hx
          rcases fillW_from h x hx with hx | ⟨p, hp, hg⟩
          · unfold setRange at hx
            rcases List.mem_append.1 hx with hx | hx
            · rcases List.mem_append.1 hx with hx | hx
              · exact .inl (List.mem_of_mem_take hx)
              · refine .inr ⟨(n, .v y), by simp, fun g hg => ?_⟩
                cases y with
                | one y => simp only [V.words, List.mem_singleton] at hx; subst hx; simpa [S.names, V.names] using hg
                | agg ys => simp only [V.words] at hx; simp only [S.names, V.names, List.mem_flatMap]; exact ⟨x, hx, hg⟩
            · exact .inl (List.mem_of_mem_drop hx)
          · exact .inr ⟨p, by simp [hp], hg⟩
        · cases h
      · cases h
    | tup => simp [fillW] at h
    | no => simp [fillW] at h
theorem repeatW_mem {α : Type} {x : α} {ws : List α} : ∀ {n : Nat}, x ∈ repeatW ws n → x ∈ ws
  | 0, h => by simp [repeatW] at h
  | n + 1, h => by
    simp only [repeatW, List.mem_append] at h
    rcases h with h | h
    · exact h
    · exact repeatW_mem h
theorem words_names {y : V} {x : W} (h : x ∈ y.words) {g : Nat} (hg : g ∈ x.names) : g ∈ (S.v y).names := by
  cases y with
  | one y => simp only [V.words, List.mem_singleton] at h; subst h; simpa [S.names, V.names] using hg
  | agg ys => simp only [V.words] at h; simp only [S.names, V.names, List.mem_flatMap]; exact ⟨x, h, hg⟩

/-- What an operation looks at. -/
theorem kernel_local {tt : TT} {d : Nat} {F F' : Operand → S} {op : Op} {ty : TypeId} (hF : ∀ x ∈ op.operands.toList, F x = F' x) (ho : ∀ x ∈ op.operands.toList, ∀ g ∈ (F x).names, o g = o' g) :
    kernel tt d o F op ty = kernel tt d o' F' op ty := by
  cases op with
  | move x => simp only [kernel, ← hF x (by simp [Op.operands])]
  | assign x => simp only [kernel, ← hF x (by simp [Op.operands])]
  | pick c x y => simp only [kernel, ← hF c (by simp [Op.operands]), ← hF x (by simp [Op.operands]), ← hF y (by simp [Op.operands])]
  | alloc t => rfl
  | box t x => simp only [kernel, ← hF x (by simp [Op.operands])]
  | build t ps =>
    have e : ps.toList.map (fun p => (p.1, F p.2)) = ps.toList.map (fun p => (p.1, F' p.2)) := List.map_congr_left fun p hp => by
      rw [hF p.2 (by simp only [Op.operands]; exact List.mem_map.2 ⟨p, hp, rfl⟩)]
    simp only [kernel, ← e]
  | buildSlice t n ps =>
    have e : ps.toList.map (fun p => (p.1, F p.2)) = ps.toList.map (fun p => (p.1, F' p.2)) := List.map_congr_left fun p hp => by
      rw [hF p.2 (by simp only [Op.operands]; exact List.mem_map.2 ⟨p, hp, rfl⟩)]
    simp only [kernel, ← e]
    split
    · split
      · rename_i ie _
        split
        · rename_i ws hws
          have hn : ∀ x ∈ ws, ∀ g ∈ x.names, o g = o' g := by
            intro x hx g hg
            rcases fillW_from hws x hx with h | ⟨p, hp, h⟩
            · have := repeatW_mem h
              obtain ⟨v, _, rfl⟩ := List.mem_map.1 this
              rw [cv_names] at hg; cases hg
            · obtain ⟨q, hq, rfl⟩ := List.mem_map.1 hp
              exact ho q.2 (by simp only [Op.operands]; exact List.mem_map.2 ⟨q, hq, rfl⟩) g (h g hg)
          rw [← toPs_local hn]
          split
          · rename_i h
            have hgs := toPs_sub h
            rw [freeze_local fun g hg => by obtain ⟨x, h1, h2⟩ := hgs g hg; exact hn x h1 g h2]
          · rfl
        · rfl
      · rfl
    · rfl
  | load t x =>
    have hx := hF x (by simp [Op.operands])
    have hn := ho x (by simp [Op.operands])
    simp only [kernel, ← hx]
    generalize F x = sx at hn
    split <;> simp_all [S.names, V.names, W.names]
  | store t x y =>
    have hx := hF x (by simp [Op.operands])
    have hy := hF y (by simp [Op.operands])
    have hn := ho x (by simp [Op.operands])
    have hm := ho y (by simp [Op.operands])
    simp only [kernel, ← hx, ← hy]
    generalize F x = sx at hn
    generalize F y = sy at hm
    split
    · rename_i g off y _
      rw [hn g (by simp [S.names, V.names, W.names])]
    · rename_i g n off y _
      rw [hn g (by simp [S.names, V.names, W.names])]
      have hw : ∀ x ∈ y.words, ∀ g ∈ x.names, o g = o' g := fun x hx g hg => hm g (words_names hx hg)
      rw [← toPs_local hw]
      cases hz : toPs o y.words with
      | none => cases o' g with | arr fz _ _ _ _ => cases fz <;> rfl | _ => rfl
      | some z =>
        obtain ⟨ps, a', i'', gs⟩ := z
        have hgs := toPs_sub hz
        have e := freeze_local (o := o) (o' := o') fun g hg => by obtain ⟨x, h1, h2⟩ := hgs g hg; exact hw x h1 g h2
        cases o' g with
        | arr fz _ _ _ _ => cases fz <;> simp only [e]
        | _ => rfl
    · rfl
  | nilCheck x =>
    have hx := hF x (by simp [Op.operands])
    have hn := ho x (by simp [Op.operands])
    simp only [kernel, ← hx]
    generalize F x = sx at hn
    split
    · rw [live_local fun g hg => hn g (by simpa [S.names, V.names] using hg)]
    · rfl
  | binOp op t x y u => simp only [kernel, ← hF x (by simp [Op.operands]), ← hF y (by simp [Op.operands])]
  | unOp op t x => simp only [kernel, ← hF x (by simp [Op.operands])]
  | convert s t x => simp only [kernel, ← hF x (by simp [Op.operands])]
  | makeSlice t n c =>
    simp only [kernel, ← hF n (by simp [Op.operands]), ← hF c (by simp [Op.operands])]
    split
    · split
      · rename_i ie _
        have : toPs o (ie.zero.map cv) = toPs o' (ie.zero.map cv) := toPs_local fun x hx g hg => by
          obtain ⟨v, _, rfl⟩ := List.mem_map.1 hx
          rw [cv_names] at hg; cases hg
        rw [this]
      · rfl
    · rfl
  | slice t x lo hi mx =>
    cases mx with
    | some m => simp only [kernel]
    | none =>
      have hx := hF x (by simp [Op.operands])
      have hn := ho x (by simp [Op.operands])
      have hlo : lo.map F = lo.map F' := by
        cases lo with
        | none => rfl
        | some l => simp [hF l (by simp [Op.operands])]
      have hhi : hi.map F = hi.map F' := by
        cases hi with
        | none => rfl
        | some l => simp [hF l (by simp [Op.operands])]
      simp only [kernel, ← hx, ← hlo, ← hhi]
      generalize F x = sx at hn
      split
      · rename_i x _
        have hn : ∀ g ∈ x.names, o g = o' g := fun g hg => hn g (by simpa [S.names, V.names] using hg)
        rw [← lenOf_local hn]
        split
        · split
          · split
            · rw [hn _ (by simp [W.names])]
            all_goals rfl
          · rfl
        · rfl
      · rfl
  | fieldAddr t x n =>
    have hx := hF x (by simp [Op.operands])
    have hn := ho x (by simp [Op.operands])
    simp only [kernel, ← hx]
    generalize F x = sx at hn
    split
    · rw [live_local fun g hg => hn g (by simpa [S.names, V.names] using hg)]
    · rfl
  | field t x n => simp only [kernel, ← hF x (by simp [Op.operands])]
  | indexAddr t x ix =>
    have hx := hF x (by simp [Op.operands])
    have hn := ho x (by simp [Op.operands])
    simp only [kernel, ← hx, ← hF ix (by simp [Op.operands])]
    generalize F x = sx at hn
    split
    · rename_i x a i n _ _
      have hn : ∀ g ∈ x.names, o g = o' g := fun g hg => hn g (by simpa [S.names, V.names] using hg)
      split
      · rw [hn _ (by simp [W.names])]
      · rw [hn _ (by simp [W.names])]
      all_goals rfl
    · rfl
    · rw [live_local fun g hg => hn g (by simpa [S.names, V.names] using hg)]
    · rfl
  | index t x ix => simp only [kernel, ← hF x (by simp [Op.operands]), ← hF ix (by simp [Op.operands])]
  | extract t n => simp only [kernel, ← hF t (by simp [Op.operands])]
  | range t x => simp only [kernel, ← hF x (by simp [Op.operands])]
  | makeFunc fn first caps =>
    cases fn with
    | func g =>
      simp only [kernel]
      have hc : ∀ x ∈ caps.toList, F x = F' x := fun x hx => hF x (by simp [Op.operands]; exact .inr (by simpa using hx))
      have : ∀ l : List Operand, (∀ x ∈ l, F x = F' x) → ∀ (G : Option (List W) → Option Res), G (l.mapM (fun x => match F x with | .v (.one w) => some w | _ => none)) = G (l.mapM (fun x => match F' x with | .v (.one w) => some w | _ => none)) := by
        intro l hl G
        congr 1
        induction l with
        | nil => rfl
        | cons x l ih =>
          simp only [List.mapM_cons]
          rw [hl x (by simp), ih fun y hy => hl y (by simp [hy])]
      split
      · exact this _ hc fun z => match z with | some ws => some (.pure (.v (.one (.clo g ws)))) | none => none
      · rfl
    | _ => rfl
  | call c =>
    obtain ⟨callee, args, ts⟩ := c
    have ha : ∀ x ∈ args.toList, F x = F' x := fun x hx => hF x (by simp [Op.operands, Call.operands]; exact .inr (by simpa using hx))
    have hb : ∀ x ∈ args.toList, ∀ g ∈ (F x).names, o g = o' g := fun x hx => ho x (by simp [Op.operands, Call.operands]; exact .inr (by simpa using hx))
    cases callee with
    | builtin b =>
      cases b with
      | append =>
        simp only [kernel]
        split
        · rename_i s x sT xT _ hl _
          have hs := ha s (by rw [hl]; simp)
          have hx := ha x (by rw [hl]; simp)
          have ns := hb s (by rw [hl]; simp)
          have nx := hb x (by rw [hl]; simp)
          rw [← hs, ← hx]
          generalize F s = ss at ns
          generalize F x = sx at nx
          split
          · exact append_local (fun g hg => ns g (by simpa [S.names, V.names] using hg)) (fun g hg => nx g (by simpa [S.names, V.names] using hg))
          · rfl
        · rfl
      | len =>
        simp only [kernel]
        split
        · rename_i x t hl _
          have hx := ha x (by rw [hl]; simp)
          have nx := hb x (by rw [hl]; simp)
          rw [← hx]
          generalize F x = sx at nx
          split
          · rw [lenOf_local fun g hg => nx g (by simpa [S.names, V.names] using hg)]
          · rfl
          · rfl
        · rfl
      | min =>
        simp only [kernel]
        split
        · rename_i x y hl
          rw [ha x (by rw [hl]; simp), ha y (by rw [hl]; simp)]
        · rfl
      | max =>
        simp only [kernel]
        split
        · rename_i x y hl
          rw [ha x (by rw [hl]; simp), ha y (by rw [hl]; simp)]
        · rfl
      | _ => rfl
    | _ => rfl
  | _ => rfl
end
end Go.Fw

/-
  THE FRAMEWORK, PART V: what a turn of a loop's record, and new memory, leave of what is said of a state.
-/
namespace Go.Fw
open Go.RowKit
set_option linter.unusedSectionVars false
set_option linter.unusedVariables false
set_option linter.unusedSimpArgs false
variable [Globs]

/-! ### A block that is a record turns -/
def quiet : Obj → Bool
  | .loop _ => true
  | .deferred _ => true
  | _ => false
theorem quiet_cells {o : Obj} (h : quiet o = true) : ∀ c e f, o ≠ .cells c e f := by intro c e f e'; subst e'; cases h
theorem quiet_iter {o : Obj} (h : quiet o = true) : ∀ s k, o ≠ .stringIter s k := by intro s k e'; subst e'; cases h
theorem quiet_not {o : Obj} (h : quiet o = true) : o.isCells = false := by cases o <;> first | rfl | cases h
section
variable {w w' : World} {b : Nat} {o : Obj}
theorem cell_block {a : Addr} {v : Value} (h : w.cell? a = some v) : ∃ c e f, w.heap[a.block]? = some (.cells c e f) := by
  obtain ⟨o, ho, hc⟩ := cells_of_cell h
  cases o <;> first | exact ⟨_, _, _, ho⟩ | cases hc
theorem RepP.turn (hb : w.heap[b]? = some o) (hq : quiet o = true) (hs : ∀ k, k ≠ b → w'.heap[k]? = w.heap[k]?) {ok : Nat → Prop} {x : P} {v : Value} (r : RepP w ok x v) : RepP w' ok x v := by
  have ne : ∀ {k c e f}, w.heap[k]? = some (.cells c e f) → k ≠ b := fun hk e' => by subst e'; rw [hb] at hk; exact quiet_cells hq _ _ _ (Option.some.inj hk)
  induction r with
  | int k n => exact .int k n
  | bool b => exact .bool b
  | str s => exact .str s
  | opq v h => exact .opq v h
  | nil sz ao cap => exact .nil sz ao cap
  | sl sz l a cap f hs' hok hcap hlen hc hr ih =>
    refine .sl sz l a cap f hs' hok hcap hlen (fun i x hx j y hy => ?_) (fun i x hx j y hy => ih i x hx j y hy)
    have h0 := hc i x hx j y hy
    obtain ⟨c, e, f, hk⟩ := cell_block h0
    rw [← h0]
    exact World.cell?_of_block (w := w) (hs _ (ne hk))
  | seq l v S hv hS hq' =>
    exact .seq l v S hv (fun b' hb' => ⟨(hS b' hb').1, by obtain ⟨c, e, f, hk⟩ := (hS b' hb').2; exact ⟨c, e, f, (hs _ (ne hk)).trans hk⟩⟩)
      (Globs.sq_mono (fun b' hb' => by obtain ⟨c, e, f, hk⟩ := (hS b' hb').2; exact hs _ (ne hk)) hq')
variable {E : Env} {st : St} {gh : Nat → Gh}
theorem ok_turn (hz : w'.heap.size = w.heap.size) {a i : Bool} : E.ok st gh w a i = E.ok st gh w' a i := by
  funext b; unfold Env.ok; rw [hz]
theorem RepW.turn (hb : w.heap[b]? = some o) (hq : quiet o = true) (hs : ∀ k, k ≠ b → w'.heap[k]? = w.heap[k]?) (hz : w'.heap.size = w.heap.size) {x : W} {v : Value} (r : RepW E st gh w x v) : RepW E st gh w' x v := by
  induction r with
  | p a i x v h => exact .p a i x v (by rw [← ok_turn hz]; exact h.turn hb hq hs)
  | nils => exact .nils
  | own g v hv h => exact .own g v hv h
  | vw g lo hi v hv h => exact .vw g lo hi v hv h
  | box g off v hv h => exact .box g off v hv h
  | ep g n off v hv h => exact .ep g n off v hv h
  | sp a i row off b' o' hb' h =>
    refine .sp a i row off b' o' (by rw [← ok_turn hz]; exact hb') fun j y hj => ?_
    obtain ⟨u, hu, hr⟩ := h j y hj
    obtain ⟨c, e, f, hk⟩ := cell_block hu
    refine ⟨u, ?_, by rw [← ok_turn hz]; exact hr.turn hb hq hs⟩
    rw [← hu]
    refine World.cell?_of_block (w := w) (hs _ fun e' => ?_)
    have hk : w.heap[b']? = some (.cells c e f) := hk
    have e' : b' = b := e'
    rw [e', hb] at hk; exact quiet_cells hq _ _ _ (Option.some.inj hk)
  | gl g => exact .gl g
  | itp g v hv h => exact .itp g v hv h
  | gd b x v h ih => exact .gd b x v ih
  | clo f caps vs hl h ih => exact .clo f caps vs hl ih
  | no v => exact .no v
theorem RepV.turn (hb : w.heap[b]? = some o) (hq : quiet o = true) (hs : ∀ k, k ≠ b → w'.heap[k]? = w.heap[k]?) (hz : w'.heap.size = w.heap.size) {x : V} {v : Value} (r : RepV E st gh w x v) : RepV E st gh w' x v := by
  cases r with
  | one x v h => exact .one x v (h.turn hb hq hs hz)
  | agg xs cs hl hv h => exact .agg xs cs hl hv fun j x v hx hv' => (h j x v hx hv').turn hb hq hs hz
theorem RepS.turn (hb : w.heap[b]? = some o) (hq : quiet o = true) (hs : ∀ k, k ≠ b → w'.heap[k]? = w.heap[k]?) (hz : w'.heap.size = w.heap.size) {x : S} {v : Value} (r : RepS E st gh w x v) : RepS E st gh w' x v := by
  cases r with
  | v x v h => exact .v x v (h.turn hb hq hs hz)
  | tup xs vs hl h => exact .tup xs vs hl fun j x v hx hv => (h j x v hx hv).turn hb hq hs hz
  | no v => exact .no v
theorem RepO.turn (hb : w.heap[b]? = some o) (hq : quiet o = true) (hs : ∀ k, k ≠ b → w'.heap[k]? = w.heap[k]?) (hz : w'.heap.size = w.heap.size) {x : O} {G : Gh} (r : RepO E st gh w x G) : RepO E st gh w' x G := by
  have ne : ∀ {k c e f}, w.heap[k]? = some (.cells c e f) → k ≠ b := fun hk e' => by subst e'; rw [hb] at hk; exact quiet_cells hq _ _ _ (Option.some.inj hk)
  cases x with
  | none => trivial
  | box ws =>
    obtain ⟨ad, c, e, h1, h2, h3, h4, h5⟩ := r
    exact ⟨ad, c, e, h1, h2, (hs _ (ne h3)).trans h3, h4, fun j x hx => let ⟨v, q1, q2, q3⟩ := h5 j x hx; ⟨v, q1, q2, q3.turn hb hq hs hz⟩⟩
  | arr fz a i sz l =>
    cases fz with
    | true => exact (by rw [← ok_turn hz]; exact RepP.turn hb hq hs r : RepP w' (E.ok st gh w' a i) (.sl sz l) (.slice G.ad l.length G.cap))
    | false =>
      rcases r with r | ⟨ad, c, e, h1, h2, h3, h4, h5, h6, h7⟩
      · exact .inl r
      · exact .inr ⟨ad, c, e, h1, h2, (hs _ (ne h3)).trans h3, h4, h5, h6, fun n x hx j y hy => let ⟨v, q1, q2⟩ := h7 n x hx j y hy; ⟨v, q1, by rw [← ok_turn hz]; exact q2.turn hb hq hs⟩⟩
  | it s n =>
    obtain ⟨ad, bs, k, h1, h2, h3, h4⟩ := r
    refine ⟨ad, bs, k, h1, h2, h3, (hs _ fun e' => ?_).trans h4⟩
    rw [e', hb] at h4; exact quiet_iter hq _ _ (Option.some.inj h4)
/-- A record turns: what is said of a state stays. -/
theorem Rel.turn {val : Nat → Value} (h : Rel E st gh val w) (hb : w.heap[b]? = some o) (hq : quiet o = true) (hB : E.B0 ≤ b) (o' : Obj) : Rel E st gh val (w.putObj b o') := by
  have hs : ∀ k, k ≠ b → (w.putObj b o').heap[k]? = w.heap[k]? := fun k hk => World.putObj_heap_other hk
  have hz : (w.putObj b o').heap.size = w.heap.size := World.putObj_size
  exact ⟨fun t => (h.slots t).turn hb hq hs hz, fun g => (h.objs g).turn hb hq hs hz, h.inj, fun g a h1 h2 => by rw [hz]; exact h.wr g a h1 h2, h.wi, h.wb, fun k hk hw => (hs k (by omega)).trans (h.frame k hk hw), by rw [hz]; exact h.size, h.os, h.tape, h.output, h.us, h.uo, h.ul⟩
omit [Globs] in
/-- Memory grows: what is said of a state stays. -/
structure Grows (w w' : World) : Prop where
  size : w.heap.size ≤ w'.heap.size
  same : ∀ b, b < w.heap.size → w'.heap[b]? = w.heap[b]?
  os : w'.os = w.os
  tape : w'.tape = w.tape
  output : w'.output = w.output
theorem Grows.refl (w : World) : Grows w w := ⟨Nat.le_refl _, fun _ _ => rfl, rfl, rfl, rfl⟩
theorem Grows.trans {w w1 w2 : World} (h : Grows w w1) (k : Grows w1 w2) : Grows w w2 :=
  ⟨Nat.le_trans h.size k.size, fun b hb => (k.same b (Nat.lt_of_lt_of_le hb h.size)).trans (h.same b hb), k.os.trans h.os, k.tape.trans h.tape, k.output.trans h.output⟩
theorem Grows.alloc (w : World) (o : Obj) : Grows w (w.alloc o) :=
  ⟨by simp, fun b hb => Below.heap_alloc w o b hb, rfl, rfl, rfl⟩
theorem Grows.lets (h : Grows w w') : Lets E st st gh gh w w' :=
  ⟨fun a i b hb => ⟨⟨hb.1, Nat.lt_of_lt_of_le hb.2.1 h.size, hb.2.2⟩, h.same b hb.2.1⟩, fun g _ => .inr ⟨rfl, O.like_refl _⟩⟩
theorem Rel.grows {val : Nat → Value} (h : Rel E st gh val w) (hg : Grows w w') : Rel E st gh val w' := by
  have hl : Lets E st st gh gh w w' := hg.lets
  refine ⟨fun t => hl.repS (h.us t) (h.slots t), fun g => hl.repO (fun ho ad had => hg.same _ (h.wr g ad ho had).2) (h.uo g) (h.objs g), h.inj, fun g a h1 h2 => ⟨(h.wr g a h1 h2).1, Nat.lt_of_lt_of_le (h.wr g a h1 h2).2 hg.size⟩, h.wi, h.wb, fun k hk hw => (hg.same k (Nat.lt_of_lt_of_le hk h.size)).trans (h.frame k hk hw), Nat.le_trans h.size hg.size, hg.os.trans h.os, hg.tape.trans h.tape, hg.output.trans h.output, h.us, h.uo, h.ul⟩
/-- A block that is a record is nobody's. -/
theorem Rel.quiet_ok {val : Nat → Value} (h : Rel E st gh val w) (hb : w.heap[b]? = some o) (hq : quiet o = true) (hB : E.B0 ≤ b) (a i : Bool) : E.ok st gh w a i b := by
  refine ⟨.inr (.inr (.inl hB)), (Array.getElem?_eq_some_iff.1 hb).1, fun g ad ho had e => ?_⟩
  have hO := h.objs g
  cases hog : st.o g with
  | none => rw [hog] at ho; cases ho
  | box ws =>
    rw [hog] at hO
    obtain ⟨ad', c, e', q1, _, q3, _⟩ := hO
    rw [had] at q1; cases q1
    rw [e, hb] at q3; exact quiet_cells hq _ _ _ (Option.some.inj q3)
  | arr fz a i sz l =>
    cases fz with
    | true => rw [hog] at ho; cases ho
    | false =>
      rw [hog] at hO
      rcases hO with ⟨q1, _⟩ | ⟨ad', c, e', q1, _, q3, _⟩
      · rw [had] at q1; cases q1
      · rw [had] at q1; cases q1
        rw [e, hb] at q3; exact quiet_cells hq _ _ _ (Option.some.inj q3)
  | it s n =>
    rw [hog] at hO
    obtain ⟨ad', bs, k, q1, _, _, q4⟩ := hO
    rw [had] at q1; cases q1
    rw [e, hb] at q4; exact quiet_iter hq _ _ (Option.some.inj q4)
end
end Go.Fw

/-
  THE FRAMEWORK, PART Q: one step is sound; what a step looks at.
-/
namespace Go.Fw
set_option linter.unusedSectionVars false
variable [Globs]
set_option linter.unusedVariables false

section
variable {E : Env} {st st' : St} {gh gh' : Nat → Gh} {w w' : World} {a : Act}

theorem constS_rep (v : Value) : RepS E st gh w (constS v) v := by
  unfold constS
  split
  · rename_i cs
    split
    · rename_i h
      have h := List.all_eq_true.1 h
      refine .v _ _ (.agg _ cs.toList (by simp) h fun j x u hx hu => ?_)
      rw [List.getElem?_map, hu] at hx
      simp only [Option.map_some, Option.some.injEq] at hx
      subst hx
      exact cv_rep (h u (List.mem_of_getElem? hu))
    · exact .no _
  · exact .no _
  · exact .v _ _ (.one _ _ (.clo _ [] [] rfl fun j x v hx => by simp at hx))
  · split
    · rename_i h; exact .v _ _ (.one _ _ (cv_rep h))
    · exact .no _
theorem constS_names (v : Value) : (constS v).names = [] := by
  unfold constS
  split
  · split
    · simp [S.names, V.names, cv_names]
    · rfl
  · rfl
  · simp [S.names, V.names, W.names]
  · split
    · simp [S.names, V.names, cv_names]
    · rfl
theorem opnd_rep (h : Rel E st gh (fun t => a.tmps.getD t undef) w) (x : Operand) : RepS E st gh w (st.opnd x) (a.eval x) := by
  cases x with
  | tmp t => exact h.slots t
  | const v => exact constS_rep v
  | global g =>
    simp only [St.opnd]
    split
    · exact .v _ _ (.one _ _ (.gl g))
    · exact .no _
  | func f => exact .v _ _ (.one _ _ (.clo _ [] [] rfl fun j x v hx => by simp at hx))
theorem opnd_names (h : Rel E st gh (fun t => a.tmps.getD t undef) w) (x : Operand) : ∀ g ∈ (st.opnd x).names, st.used g = true := by
  cases x with
  | tmp t => exact h.us t
  | const v => intro g hg; simp [St.opnd, constS_names] at hg
  | global g =>
    intro g' hg
    simp only [St.opnd] at hg
    split at hg
    · simp [S.names, V.names, W.names] at hg
    · simp [S.names] at hg
  | func f => intro g hg; simp [St.opnd, S.names, V.names, W.names] at hg

theorem vals_put (dst : Option Tmp) (v : Value) (h : ∀ d, dst = some d → d < a.tmps.size) : (fun t => (a.put dst v).tmps.getD t undef) = putVal (fun t => a.tmps.getD t undef) dst v := by
  cases dst with
  | none => rfl
  | some d =>
    funext t
    have hd := h d rfl
    simp only [Act.put, putVal, Array.getD_eq_getD_getElem?]
    by_cases e : t = d
    · subst e; simp [hd]
    · rw [Array.getElem?_setIfInBounds_ne (Ne.symm e), if_neg e]

variable {Pg : Program} {T : Tab} {tt : TT}

/-- An operation's effect is what it does. -/
theorem eff_sound (hT : ∀ f sp, T f = some sp → Sound Pg f sp) (htt : TTok Pg tt) (h : Rel E st gh (fun t => a.tmps.getD t undef) w) {o : Oper} {d : Nat} {e : Eff} (hc : effOf T tt d st o fun e' => e' = e) (hnew : ∀ g ∈ e.new, st.used g = false)
    {K : Act → World → Prop} {Q : Exit → Act → World → Prop}
    (hK : ∀ v w' gh', Rel E (st.upd e.upd e.new) gh' (fun t => a.tmps.getD t undef) w' → Lets E st (st.upd e.upd e.new) gh gh' w w' → RepS E (st.upd e.upd e.new) gh' w' e.x v → (∀ g ∈ e.x.names, (st.upd e.upd e.new).used g = true) → K (a.put o.dst v) w') :
    o.wp Pg a w K Q := by
  unfold effOf at hc
  split at hc
  · rename_i f args ts ho
    split at hc
    · rename_i fn caps hf
      split at hc
      · rename_i sp hsp
        split at hc
        · rename_i c hci
          obtain ⟨hfine, outs, hR, he⟩ := hc
          simp only [Bool.and_eq_true, decide_eq_true_eq] at hfine
          have hrf := opnd_rep h f
          rw [hf] at hrf
          generalize hvf : a.eval f = vf at hrf
          cases hrf.one_inv with
          | clo _ _ vs hl hvs =>
          have hS := hT fn sp hsp
          have hrun : (execOp a.eval o).run Pg w = .ok (.enter fn (args.toList.map a.eval ++ vs).toArray) w := by
            have : (#[] ++ args.map a.eval) ++ vs.toArray = (args.toList.map a.eval ++ vs).toArray := by
              apply Array.ext'; simp
            rw [← hS.2.1 (args.toList.map a.eval ++ vs).toArray w, ← this]
            simp only [execOp, ho, resolve, hvf, Deferred.ofValue]
            rfl
          show o.upon Pg a K Q ((execOp a.eval o).run Pg w)
          rw [hrun, Oper.upon_enter]
          have hr : ∀ t, RepS E st gh w (((args.toList.map st.opnd) ++ caps.map fun x => S.v (.one x)).getD t .no) ((args.toList.map a.eval ++ vs).getD t undef) := by
            intro t
            simp only [List.getD_eq_getElem?_getD]
            by_cases ht : t < args.toList.length
            · rw [List.getElem?_append_left (by simpa using ht), List.getElem?_append_left (by simpa using ht), List.getElem?_map, List.getElem?_map, List.getElem?_eq_getElem ht]
              exact opnd_rep h _
            · rw [List.getElem?_append_right (by simpa using ht), List.getElem?_append_right (by simpa using ht)]
              simp only [List.length_map]
              rw [List.getElem?_map]
              cases hx : caps[t - args.toList.length]? with
              | none => exact .no _
              | some x =>
                have hlt : t - args.toList.length < vs.length := by rw [← hl]; exact (List.getElem?_eq_some_iff.1 hx).1
                rw [List.getElem?_eq_getElem hlt]
                exact .v _ _ (.one _ _ (hvs _ x _ hx (List.getElem?_eq_getElem hlt)))
          refine Calls.mono (call_sound hS h hr (by simp; omega) hci hfine.1 hR d he.symm hnew) fun e' w' he' => ?_
          obtain ⟨v, gh', rfl, q1, q2, q3, q4⟩ := he'
          exact hK v w' gh' q1 q2 q3 q4
        · cases hc
      · cases hc
    · cases hc
  · split at hc
    · rename_i r hk
      obtain ⟨hp, hc⟩ := hc
      have he : ({ x := r.dst r.val, upd := r.upd r.val, new := r.new } : Eff) = e := by
        cases hb : calcs o.op with
        | true => rw [hb] at hc; exact Bnd.iff.1 hc
        | false => rw [hb] at hc; exact hc
      subst he
      obtain ⟨v, w', gh', hd, q1, q2, q3, q4⟩ := kernel_sound htt o.op E st gh _ w a.eval st.opnd o d r rfl h (opnd_rep h) (opnd_names h) hk hp hnew
      show o.upon Pg a K Q ((execOp a.eval o).run Pg w)
      rcases hd with hd | ⟨hd, rfl⟩
      · rw [hd]; exact hK v w' gh' q1 q2 q3 q4
      · rw [hd]; exact hK _ w' gh' q1 q2 q3 q4
    · cases hc

/-- An activation's deferred calls: nothing but the marks of loops over functions that are over. -/
def mark (D : Nat) : Deferred := { target := .collected D, args := #[] }
def Marks (E : Env) (a : Act) (w : World) : Prop := ∃ Ds : List Nat, a.defers = Ds.map mark ∧ Ds.Nodup ∧ ∀ D ∈ Ds, E.B0 ≤ D ∧ w.heap[D]? = some (.deferred (some []))
theorem Marks.nil {E : Env} {a : Act} {w : World} (h : a.defers = []) : Marks E a w := ⟨[], h, List.nodup_nil, fun D hD => by cases hD⟩
/-- What holds of a frame and a world along the way. -/
structure Good (E : Env) (N : Nat) (ios : List Nat) (gh0 : Nat → Gh) (st : St) (a : Act) (w : World) : Prop where
  ex : ∃ gh, Rel E st gh (fun t => a.tmps.getD t undef) w ∧ ∀ g ∈ ios, st.used g = true ∧ (st.o g = .none ∨ gh g = gh0 g)
  size : a.tmps.size = N
  defers : Marks E a w

theorem put_size (dst : Option Tmp) (v : Value) : (a.put dst v).tmps.size = a.tmps.size := by cases dst <;> simp [Act.put]
theorem put_defers (dst : Option Tmp) (v : Value) : (a.put dst v).defers = a.defers := by cases dst <;> rfl

theorem Marks.same {E : Env} {a : Act} {w w' : World} (hm : Marks E a w) (h : ∀ D, E.B0 ≤ D → w.heap[D]? = some (.deferred (some [])) → w'.heap[D]? = w.heap[D]?) (dst : Option Tmp) (v : Value) : Marks E (a.put dst v) w' := by
  obtain ⟨Ds, h1, h2, h3⟩ := hm
  exact ⟨Ds, (put_defers dst v).trans h1, h2, fun D hD => ⟨(h3 D hD).1, (h D (h3 D hD).1 (h3 D hD).2).trans (h3 D hD).2⟩⟩
theorem Marks.step {val : Nat → Value} (hm : Marks E a w) (hR : Rel E st gh val w) (hL : Lets E st st' gh gh' w w') (dst : Option Tmp) (v : Value) : Marks E (a.put dst v) w' :=
  hm.same (fun D h2 h3 => (hL.ok false false D (hR.quiet_ok h3 rfl h2 _ _)).2) dst v
theorem Marks.put (hm : Marks E a w) (dst : Option Tmp) (v : Value) : Marks E (a.put dst v) w := hm.same (fun _ _ _ => rfl) dst v
def Can (T : Tab) (tt : TT) (N : Nat) (ops : Array Oper) (st : St) (o : Oper) (e : Eff) : Prop := stepW T tt N ops o st fun e' => e' = e

theorem effOf_mono {d : Nat} {o : Oper} {K K' : Eff → Prop} (hK : ∀ e, K e → K' e) (h : effOf T tt d st o K) : effOf T tt d st o K' := by
  unfold effOf at *
  split at h
  · split at h
    · split at h
      · split at h
        · obtain ⟨h1, outs, h2, h3⟩ := h; exact ⟨h1, outs, h2, hK _ h3⟩
        · exact h
      · exact h
    · exact h
  · split at h
    · refine ⟨h.1, ?_⟩
      obtain ⟨_, h⟩ := h
      cases hb : calcs o.op with
      | true => rw [hb] at h; exact Bnd.iff.2 (hK _ (Bnd.iff.1 h))
      | false => rw [hb] at h; exact hK _ h
    · exact h
theorem effOf_can {d : Nat} {o : Oper} {K : Eff → Prop} (h : effOf T tt d st o K) : ∃ e, effOf T tt d st o (fun e' => e' = e) ∧ K e := by
  unfold effOf at *
  split at h
  · split at h
    · split at h
      · split at h
        · obtain ⟨h1, outs, h2, h3⟩ := h; exact ⟨_, ⟨h1, outs, h2, rfl⟩, h3⟩
        · cases h
      · cases h
    · cases h
  · split at h
    · obtain ⟨hp, h⟩ := h
      cases hb : calcs o.op with
      | true => rw [hb] at h; exact ⟨_, ⟨hp, Bnd.iff.2 rfl⟩, Bnd.iff.1 h⟩
      | false => rw [hb] at h; exact ⟨_, ⟨hp, rfl⟩, h⟩
    · cases h
theorem step_can {N : Nat} {ops : Array Oper} {o : Oper} {K : Eff → Prop} (h : stepW T tt N ops o st K) : ∃ e, Can T tt N ops st o e ∧ K e := by
  unfold Can
  unfold stepW at *
  obtain ⟨hd, h⟩ := h
  split at h
  · obtain ⟨e, h1, h2, h3⟩ := effOf_can h
    exact ⟨e, ⟨hd, effOf_mono (fun e' he => ⟨by rw [he]; exact h2, he⟩) h1⟩, h3⟩
  · split at h
    · rename_i b hb
      cases b with
      | true =>
        simp only [cond_true] at h
        obtain ⟨e, h1, h2, h3⟩ := effOf_can h
        refine ⟨e, ⟨hd, ?_⟩, h3⟩
        simp only [cond_true]
        exact effOf_mono (fun e' he => ⟨by rw [he]; exact h2, he⟩) h1
      | false => exact ⟨Eff.skip, ⟨hd, rfl⟩, h⟩
    · cases h

/-- A step does what it may do. -/
theorem step_sound {N : Nat} {ios : List Nat} {gh0 : Nat → Gh} (hT : ∀ f sp, T f = some sp → Sound Pg f sp) (htt : TTok Pg tt) {ops : Array Oper} {i : Nat} {o : Oper} (hi : ops[i]? = some o) (h : Good E N ios gh0 st a w) {e : Eff} (hc : Can T tt N ops st o e)
    {K : Act → World → Prop} {Q : Exit → Act → World → Prop} (hK : ∀ a' w', Good E N ios gh0 (st.eff o.dst e) a' w' → K a' w') : wpOp Pg ops Q i K a w := by
  obtain ⟨⟨gh, hR, hio⟩, hsz, hdf⟩ := h
  unfold Can stepW at hc
  obtain ⟨hd, hc⟩ := hc
  have hd : ∀ d, o.dst = some d → d < a.tmps.size := by
    intro d e
    rw [e] at hd
    rw [hsz]; simpa using hd
  have run : (effOf T tt (o.dst.getD 0) st o fun e' => e'.new.all (fun g => !st.used g) = true ∧ e' = e) → o.wp Pg a w K Q := by
    intro hc
    obtain ⟨e', h1, h2, rfl⟩ := effOf_can hc
    have hnew : ∀ g ∈ e'.new, st.used g = false := fun g hg => by have := (List.all_eq_true.1 h2) g hg; simpa using this
    refine eff_sound hT htt hR h1 hnew fun v w' gh' q1 q2 q3 q4 => hK _ _ ⟨⟨gh', ?_, fun g hg => ?_⟩, by rw [put_size]; exact hsz, hdf.step hR q2 _ _⟩
    · rw [vals_put _ _ hd]
      exact q1.put o.dst q3 q4
    · obtain ⟨p1, p2⟩ := hio g hg
      have ho : (st.eff o.dst e').o g = (st.upd e'.upd e'.new).o g := by unfold St.eff St.put; cases o.dst <;> rfl
      have hu : (st.eff o.dst e').used g = (st.upd e'.upd e'.new).used g := by unfold St.eff St.put; cases o.dst <;> rfl
      refine ⟨by rw [hu]; simp [St.upd, p1], ?_⟩
      rw [ho]
      rcases q2.names g p1 with q | ⟨q, qk⟩
      · exact .inl q
      · rcases p2 with p2 | p2
        · rw [p2] at qk; exact .inl (O.none_like qk)
        · exact .inr (q.trans p2)
  unfold wpOp
  rw [hi]
  simp only
  cases hg : o.guard with
  | none =>
    rw [hg] at hc
    have : Region.wanted o (yielded ops a.tmps) = true := by simp [Region.wanted, hg]
    rw [if_pos this]
    exact .inl (run hc)
  | some p =>
    obtain ⟨j, want⟩ := p
    rw [hg] at hc
    simp only at hc
    split at hc
    · rename_i b hb
      have hw : Region.wanted o (yielded ops a.tmps) = b := by
        simp only [Region.wanted, hg, yielded]
        unfold guardOf at hb
        split at hb
        · rename_i t ht
          have hslot := hR.slots t
          rw [ht]
          simp only [Option.bind_some]
          split at hb
          · rename_i a' i' b' hs
            rw [hs] at hslot
            have hv := hslot.p_inv.bool_inv
            have : a.tmps[t]? = some (.bool b') := by
              simp only [Array.getD_eq_getD_getElem?] at hv
              cases hx : a.tmps[t]? with
              | none => rw [hx] at hv; cases hv
              | some x => rw [hx] at hv; simp at hv; rw [hv]
            rw [this]
            simp only [Option.some.injEq] at hb
            subst hb
            cases want <;> cases b' <;> rfl
          · rename_i hs
            rw [hs] at hslot
            simp only [Option.some.injEq] at hb
            subst hb
            have hv : a.tmps.getD t undef = .tuple #[] := by
              generalize a.tmps.getD t undef = v at hslot
              cases hslot with | tup _ vs hl _ =>
              have : vs = [] := by cases vs <;> simp_all
              subst this; rfl
            have : a.tmps[t]? = none ∨ a.tmps[t]? = some (.tuple #[]) := by
              simp only [Array.getD_eq_getD_getElem?] at hv
              cases hx : a.tmps[t]? with
              | none => exact .inl rfl
              | some x => rw [hx] at hv; simp at hv; rw [hv]; exact .inr rfl
            rcases this with h | h <;> rw [h] <;> cases want <;> rfl
          · cases hb
        · cases hb
      rw [hw]
      cases b with
      | true => exact .inl (run hc)
      | false =>
        simp only [cond_false] at hc
        subst hc
        refine hK _ _ ⟨⟨gh, ?_, fun g hg => ?_⟩, by rw [put_size]; exact hsz, hdf.put _ _⟩
        · rw [vals_put _ _ hd]
          unfold St.eff Eff.skip
          simp only [upd_nil]
          exact hR.put o.dst (.tup [] [] rfl fun j x v hx => by simp at hx) (by simp [S.names])
        · have ho : (st.eff o.dst Eff.skip).o g = st.o g := by unfold St.eff St.put Eff.skip; cases o.dst <;> simp [St.upd]
          have hu : (st.eff o.dst Eff.skip).used g = st.used g := by unfold St.eff St.put Eff.skip; cases o.dst <;> simp [St.upd]
          rw [ho, hu]; exact hio g hg
    · cases hc
end
end Go.Fw

/-
  THE FRAMEWORK, PART R: regions: in their order, and in any order.
-/
namespace Go.Fw
set_option linter.unusedSectionVars false
variable [Globs]
set_option linter.unusedVariables false

section
variable {o o' : Nat → O}
theorem argW_local {k : WS} {x : W} (h : ∀ g ∈ x.names, o g = o' g) : argW o k x = argW o' k x := by
  cases k with
  | p a i => simp only [argW]; rw [toP_local h]
  | own g' => cases x <;> rfl
  | box g' off =>
    cases off with
    | zero => cases x <;> first | rfl | (rename_i off; cases off <;> rfl)
    | succ off => cases x <;> rfl
  | nils => cases x <;> rfl
  | fn f => cases x <;> first | rfl | (rename_i caps; cases caps <;> rfl)
  | itp g => cases x <;> rfl
  | no => cases x <;> rfl
theorem argWs_local : ∀ {ks : List WS} {xs : List W}, (∀ x ∈ xs, ∀ g ∈ x.names, o g = o' g) → argWs o ks xs = argWs o' ks xs
  | [], [], _ => rfl
  | [], _ :: _, _ => rfl
  | _ :: _, [], _ => rfl
  | k :: ks, x :: xs, h => by simp only [argWs]; rw [argW_local (h x (by simp)), argWs_local fun y hy => h y (by simp [hy])]
theorem argS_local {k : SS} {x : S} (h : ∀ g ∈ x.names, o g = o' g) : argS o k x = argS o' k x := by
  cases k with
  | one k =>
    cases x with
    | v x => cases x with
      | one x => exact argW_local fun g hg => h g (by simpa [S.names, V.names] using hg)
      | agg xs => rfl
    | tup => rfl
    | no => rfl
  | agg ks =>
    cases x with
    | v x => cases x with
      | one x => rfl
      | agg xs => exact argWs_local fun x hx g hg => h g (by simp only [S.names, V.names, List.mem_flatMap]; exact ⟨x, hx, hg⟩)
    | tup => rfl
    | no => rfl
theorem getD_no {args : List S} {t : Nat} : args.getD t .no = .no ∨ args.getD t .no ∈ args := by
  rw [List.getD_eq_getElem?_getD]
  cases h : args[t]? with
  | none => exact .inl rfl
  | some x => exact .inr (List.mem_of_getElem? h)
theorem argSlots_local {args : List S} (h : ∀ x ∈ args, ∀ g ∈ x.names, o g = o' g) : ∀ {L : List (Nat × SS)}, argSlots o args L = argSlots o' args L
  | [] => rfl
  | (t, k) :: L => by
    simp only [argSlots]
    rw [argS_local (o := o) (o' := o') (k := k) (x := args.getD t .no) (fun g hg => by
      rcases getD_no (args := args) (t := t) with e | e
      · rw [e] at hg; simp [S.names] at hg
      · exact h _ e g hg), argSlots_local h]

theorem argW_bor_sub {k : WS} {x : W} {us : List P} {c : Bool × Bool} {gs : List Nat} {r : List (Nat × Nat)} (h : argW o k x = some (us, c, gs, r)) : ∀ g ∈ gs, g ∈ x.names := by
  cases k with
  | p a i =>
    simp only [argW] at h
    split at h
    · rename_i ht
      simp only [Option.some.injEq, Prod.mk.injEq] at h
      obtain ⟨_, _, rfl, _⟩ := h
      exact toP_sub ht
    · cases h
  | own g' => cases x <;> simp [argW] at h; obtain ⟨_, _, rfl, _⟩ := h; simp
  | box g' off =>
    cases off with
    | succ off => cases x <;> simp [argW] at h
    | zero =>
      cases x with
      | box g off => cases off <;> simp [argW] at h; obtain ⟨_, _, rfl, _⟩ := h; simp
      | _ => simp [argW] at h
  | nils => simp [argW] at h
  | fn f =>
    cases x with
    | clo f' caps =>
      cases caps with
      | nil =>
        simp only [argW] at h
        split at h
        · simp only [Option.some.injEq, Prod.mk.injEq] at h; obtain ⟨_, _, rfl, _⟩ := h; simp
        · cases h
      | cons c caps => simp [argW] at h
    | _ => simp [argW] at h
  | itp g => simp [argW] at h
  | no => simp [argW] at h
theorem argWs_bor_sub : ∀ {ks : List WS} {xs : List W} {us : List P} {c : Bool × Bool} {gs : List Nat} {r : List (Nat × Nat)}, argWs o ks xs = some (us, c, gs, r) → ∀ g ∈ gs, g ∈ xs.flatMap W.names
  | [], xs, us, c, gs, r, h => by
    cases xs <;> simp [argWs] at h
    obtain ⟨_, _, rfl, _⟩ := h; simp
  | k :: ks, xs, us, c, gs, r, h => by
    cases xs with
    | nil => simp [argWs] at h
    | cons x xs =>
      simp only [argWs] at h
      split at h
      · rename_i h1 h2
        simp only [Option.some.injEq, Prod.mk.injEq] at h
        obtain ⟨_, _, rfl, _⟩ := h
        intro g hg
        simp only [List.flatMap_cons, List.mem_append]
        rcases List.mem_append.1 hg with hg | hg
        · exact .inl (argW_bor_sub h1 g hg)
        · exact .inr (argWs_bor_sub h2 g hg)
      · cases h
theorem argSlots_bor_sub {args : List S} : ∀ {L : List (Nat × SS)} {us : List P} {c : Bool × Bool} {gs : List Nat} {r : List (Nat × Nat)}, argSlots o args L = some (us, c, gs, r) → ∀ g ∈ gs, ∃ x ∈ args, g ∈ x.names
  | [], us, c, gs, r, h => by simp [argSlots] at h; obtain ⟨_, _, rfl, _⟩ := h; simp
  | (t, k) :: L, us, c, gs, r, h => by
    simp only [argSlots] at h
    split at h
    · rename_i h1 h2
      simp only [Option.some.injEq, Prod.mk.injEq] at h
      obtain ⟨_, _, rfl, _⟩ := h
      intro g hg
      rcases List.mem_append.1 hg with hg | hg
      · have hin : g ∈ (args.getD t .no).names := by
          generalize args.getD t S.no = z at h1
          cases k with
          | one k =>
            cases z with
            | v z =>
              cases z with
              | one z => simpa [S.names, V.names] using argW_bor_sub h1 g hg
              | agg z => simp [argS] at h1
            | _ => simp [argS] at h1
          | agg ks =>
            cases z with
            | v z =>
              cases z with
              | one z => simp [argS] at h1
              | agg z => simpa [S.names, V.names] using argWs_bor_sub h1 g hg
            | _ => simp [argS] at h1
        rcases getD_no (args := args) (t := t) with e | e
        · rw [e] at hin; simp [S.names] at hin
        · exact ⟨_, e, hin⟩
      · exact argSlots_bor_sub h2 g hg
    · cases h

theorem ioObjs_sub : ∀ {L : List (Nat × OS)} {r r' : List (Nat × Nat)} {u : List P} {c : Bool × Bool}, ioObjs o r L = some (u, c, r') → ∀ p ∈ r, p ∈ r'
  | [], r, r', u, c, h => by simp only [ioObjs, Option.some.injEq, Prod.mk.injEq] at h; obtain ⟨_, _, rfl⟩ := h; exact fun p hp => hp
  | (g', k) :: L, r, r', u, c, h => by
    simp only [ioObjs] at h
    split at h
    · split at h
      · split at h
        · split at h
          · rename_i h2
            simp only [Option.some.injEq, Prod.mk.injEq] at h
            obtain ⟨_, _, rfl⟩ := h
            exact fun p hp => ioObjs_sub h2 p (List.mem_append_left _ hp)
          · cases h
        · cases h
      · split at h
        · split at h
          · rename_i h2
            simp only [Option.some.injEq, Prod.mk.injEq] at h
            obtain ⟨_, _, rfl⟩ := h
            exact ioObjs_sub h2
          · cases h
        · cases h
      · cases h
    · cases h
theorem ioObjs_local : ∀ {L : List (Nat × OS)} {r r' : List (Nat × Nat)} {u : List P} {c : Bool × Bool}, ioObjs o r L = some (u, c, r') → (∀ p ∈ r', o p.2 = o' p.2) → ioObjs o' r L = some (u, c, r')
  | [], r, r', u, c, h, _ => h
  | (g', k) :: L, r, r', u, c, h, hl => by
    simp only [ioObjs] at h ⊢
    split at h
    · rename_i g hg
      have hmem := mem_of_lookup hg
      have key : ∀ r2 : List (Nat × Nat), (∀ p ∈ r, p ∈ r2) → (∀ p ∈ r2, p ∈ r') → o g = o' g := fun r2 h1 h2 => hl _ (h2 _ (h1 _ hmem))
      split at h
      · rename_i ks ws hk
        split at h
        · rename_i r1 h1
          split at h
          · rename_i h2
            simp only [Option.some.injEq, Prod.mk.injEq] at h
            obtain ⟨rfl, rfl, rfl⟩ := h
            have e := key _ (fun p hp => List.mem_append_left _ hp) (ioObjs_sub h2)
            simp only [← e, hk, h1, ioObjs_local h2 hl]
          · cases h
        · cases h
      · rename_i a1 b1 c1 sz a i sz' l hk
        split at h
        · rename_i hsz
          split at h
          · rename_i h2
            simp only [Option.some.injEq, Prod.mk.injEq] at h
            obtain ⟨rfl, rfl, rfl⟩ := h
            have e := key _ (fun p hp => hp) (ioObjs_sub h2)
            simp only [← e, hk, ioObjs_local h2 hl, if_pos hsz]
          · cases h
        · cases h
      · cases h
    · cases h
theorem argsIn_local {s : Sig} {args : List S} {c : CIn} (h : argsIn s o args = some c) (h1 : ∀ x ∈ args, ∀ g ∈ x.names, o g = o' g) (h2 : ∀ p ∈ c.ren, o p.2 = o' p.2) : argsIn s o' args = some c := by
  unfold argsIn at *
  rw [← argSlots_local h1]
  split at h
  · rename_i hs
    split at h
    · rename_i hio
      simp only [Option.some.injEq] at h
      subst h
      simp only [ioObjs_local hio h2]
    · cases h
  · cases h
theorem argsIn_bor_sub {s : Sig} {args : List S} {c : CIn} (hc : argsIn s o args = some c) : ∀ g ∈ c.bor, ∃ x ∈ args, g ∈ x.names := by
  unfold argsIn at hc
  split at hc
  · rename_i hsl
    split at hc
    · simp only [Option.some.injEq] at hc; subst hc
      exact argSlots_bor_sub hsl
    · cases hc
  · cases hc
end

def renOf (T : Tab) (st : St) (o : Oper) : List Nat :=
  match o.op with
  | .call { callee := .value f, args, .. } => match st.opnd f with
    | .v (.one (.clo fn caps)) => match T fn with
      | some sp => match argsIn sp.sig st.o ((args.toList.map st.opnd) ++ caps.map fun x => S.v (.one x)) with
        | some c => c.ren.map (·.2)
        | none => []
      | none => []
    | _ => []
  | _ => []
/-- The objects that an operation looks at. -/
def looks : Op → Bool
  | .move _ | .assign _ | .pick _ _ _ | .build _ _ | .extract _ _ | .field _ _ _ | .makeFunc _ _ _ => false
  | _ => true
theorem kernel_blind {o o' : Nat → O} {tt : TT} {d : Nat} {F F' : Operand → S} {op : Op} {ty : TypeId} (hl : looks op = false) (hF : ∀ x ∈ op.operands.toList, F x = F' x) : kernel tt d o F op ty = kernel tt d o' F' op ty := by
  refine (kernel_local (o' := o) hF fun _ _ _ _ => rfl).trans ?_
  cases op <;> first
    | (cases hl; done)
    | rfl
    | (rename_i fn first caps; cases fn <;> rfl)
def footOf (T : Tab) (st : St) (o : Oper) : List Nat := (bif looks o.op then (o.op.operands.toList.flatMap fun x => (st.opnd x).names) else []) ++ renOf T st o

section
variable {T : Tab} {tt : TT} {st st' : St}
theorem effOf_local {d : Nat} {o : Oper} {K : Eff → Prop} (h : effOf T tt d st o K) (hx : ∀ x ∈ o.op.operands.toList, st.opnd x = st'.opnd x) (ho : ∀ g ∈ footOf T st o, st.o g = st'.o g) : effOf T tt d st' o K := by
  have hfo : looks o.op = true → ∀ x ∈ o.op.operands.toList, ∀ g ∈ (st.opnd x).names, st.o g = st'.o g := fun hl x hm g hg => ho g (List.mem_append_left _ (by rw [hl]; exact List.mem_flatMap.2 ⟨x, hm, hg⟩))
  have hren : ∀ g ∈ renOf T st o, st.o g = st'.o g := fun g hg => ho g (List.mem_append_right _ hg)
  unfold effOf at *
  unfold renOf at hren
  split at h
  · rename_i f args ts hop
    rw [hop] at hx hfo hren
    have hfo := hfo rfl
    simp only at hren
    have hxf := hx f (by simp [Op.operands, Call.operands])
    have hxa : ∀ x ∈ args.toList, st.opnd x = st'.opnd x := fun x hm => hx x (by simp [Op.operands, Call.operands]; exact .inr (by simpa using hm))
    have hfa : ∀ x ∈ args.toList, ∀ g ∈ (st.opnd x).names, st.o g = st'.o g := fun x hm => hfo x (by simp [Op.operands, Call.operands]; exact .inr (by simpa using hm))
    have hff := hfo f (by simp [Op.operands, Call.operands])
    rw [← hxf]
    split at h
    · rename_i fn caps hf
      rw [hf] at hff hren
      simp only at hren
      split at h
      · rename_i sp hsp
        rw [hsp] at hren
        simp only at hren
        have hmap : args.toList.map st'.opnd = args.toList.map st.opnd := List.map_congr_left fun x hm => (hxa x hm).symm
        rw [hmap]
        split at h
        · rename_i c hci
          rw [hci] at hren
          have hnm : ∀ x ∈ (args.toList.map st.opnd) ++ (caps.map fun x => S.v (.one x)), ∀ g ∈ x.names, st.o g = st'.o g := by
            intro x hm g hg
            rcases List.mem_append.1 hm with hm | hm
            · obtain ⟨y, hy, rfl⟩ := List.mem_map.1 hm
              exact hfa y hy g hg
            · obtain ⟨y, hy, rfl⟩ := List.mem_map.1 hm
              refine hff g ?_
              obtain ⟨j, hj⟩ := List.mem_iff_getElem?.1 hy
              simp only [S.names, V.names]
              exact mem_names_clo hj (by simpa [S.names, V.names] using hg)
          have hci' := argsIn_local hci hnm fun p hp => hren p.2 (List.mem_map.2 ⟨p, hp, rfl⟩)
          have hbor : c.bor.map (freeze st.o) = c.bor.map (freeze st'.o) := freeze_local fun g hg => by
            obtain ⟨x, h1, h2⟩ := argsIn_bor_sub hci g hg
            exact hnm x h1 g h2
          simp only [hci']
          obtain ⟨q1, outs, q2, q3⟩ := h
          refine ⟨q1, outs, q2, ?_⟩
          have : callEff sp.sig d st'.o c outs = callEff sp.sig d st.o c outs := by simp only [callEff, hbor]
          rw [this]; exact q3
        · cases h
      · cases h
    · cases h
  · cases hl : looks o.op with
    | true => rw [← kernel_local hx (hfo hl)]; exact h
    | false => rw [← kernel_blind hl hx]; exact h

theorem Can_local {N : Nat} {ops : Array Oper} {o : Oper} {e : Eff} (hc : Can T tt N ops st o e) (hs : ∀ t ∈ o.looksAt ops, st.s t = st'.s t) (ho : ∀ g ∈ footOf T st o, st.o g = st'.o g) (hu : ∀ g ∈ e.new, st.used g = st'.used g) : Can T tt N ops st' o e := by
  have hx : ∀ x ∈ o.op.operands.toList, st.opnd x = st'.opnd x := by
    intro x hm
    cases x with
    | tmp t => exact hs t (List.mem_append_left _ (List.mem_filterMap.2 ⟨_, hm, rfl⟩))
    | _ => rfl
  have eff : (effOf T tt (o.dst.getD 0) st o fun e' => e'.new.all (fun g => !st.used g) = true ∧ e' = e) → (effOf T tt (o.dst.getD 0) st' o fun e' => e'.new.all (fun g => !st'.used g) = true ∧ e' = e) := by
    intro h
    refine effOf_mono (fun e' he => ?_) (effOf_local h hx ho)
    obtain ⟨h1, rfl⟩ := he
    refine ⟨?_, rfl⟩
    rw [List.all_eq_true] at h1 ⊢
    intro g hg
    rw [← hu g hg]; exact h1 g hg
  unfold Can stepW at *
  refine ⟨hc.1, ?_⟩
  have hc := hc.2
  cases hg : o.guard with
  | none => rw [hg] at hc; exact eff hc
  | some p =>
    obtain ⟨j, want⟩ := p
    rw [hg] at hc
    simp only at hc ⊢
    have : guardOf ops st j want = guardOf ops st' j want := by
      unfold guardOf
      cases hd : (ops[j]?).bind (·.dst) with
      | none => rfl
      | some t =>
        simp only
        rw [hs t (List.mem_append_right _ (by simp [hg, hd]))]
    rw [← this]
    split at hc
    · rename_i b hb
      cases b with
      | true => exact eff hc
      | false => exact hc
    · cases hc
end

/-! ### Regions -/
/-- What is known of 'is nil'. -/
def nilSl (o : Nat → O) : S → Option (Bool → Prop)
  | .v (.one (.p _ _ (.sl _ l))) => some fun b => l ≠ [] → b = false
  | .v (.one (.own g)) => match o g with
    | .arr _ _ _ _ l => some fun b => l ≠ [] → b = false
    | _ => none
  | .v (.one .nils) => some fun b => b = true
  | _ => none
def nilPt (o : Nat → O) : S → Option (Bool → Prop)
  | .v (.one (.box g _)) => match o g with
    | .box _ => some fun b => b = false
    | _ => none
  | .v (.one (.p _ _ (.opq (.pointer none)))) => some fun b => b = true
  | _ => none
def nilOf (o : Nat → O) (x : S) (k : TK) (c : Value) : Option (Bool → Prop) :=
  match k, c with
  | .slice _, .slice none 0 0 => nilSl o x
  | .ptr, .pointer none => nilPt o x
  | _, _ => none
/-- A comparison with nil: for equality or not, and what is known. -/
def nilCmp (tt : TT) (st : St) (o : Oper) : Option (Bool × (Bool → Prop)) :=
  match o.guard with
  | some _ => none
  | none => match o.op with
    | .binOp op t x (.const c) _ => match tt t with
      | some i => match op, nilOf st.o (st.opnd x) i.k c with
        | .eql, some p => some (true, p)
        | .neq, some p => some (false, p)
        | _, _ => none
      | none => none
    | _ => none
/-! A string's iterator: whether there is a letter, which, and the place behind it. -/
def itHas (s n : P) : Bool := decide (n.nat < s.bytes.size)
def itRune (s n : P) : P := .int .i32 (Utf8.decode s.bytes n.nat).1
def itNext (s n : P) : P := natP (n.nat + (Utf8.decode s.bytes n.nat).2)
def nextOf (st : St) (o : Oper) : Option (Nat × P × P) :=
  match o.guard with
  | some _ => none
  | none => match o.op with
    | .next x true => match st.opnd x with
      | .v (.one (.itp g)) => match st.o g with
        | .it s n => some (g, s, n)
        | _ => none
      | _ => none
    | _ => none
def itEff (g : Nat) (s n : P) : Eff := { x := .tup [.one (.p false false (.bool true)), .one (.p false false (natP n.nat)), .one (.p false false (itRune s n))], upd := [(g, .it s (itNext s n))], new := [] }
def itEnd : Eff := { x := .tup [.one (.p false false (.bool false))], upd := [], new := [] }
/-- A step in a region that runs in its order: a comparison with nil may come out either way. -/
def stepI (T : Tab) (tt : TT) (N : Nat) (ops : Array Oper) (o : Oper) (st : St) (K : Eff → Prop) : Prop :=
  match nilCmp tt st o with
  | some (pos, p) => (match o.dst with
    | some d => decide (d < N)
    | none => true) = true ∧ ∀ b : Bool, p b → K { x := scalar (.bool (bif pos then b else !b)), upd := [], new := [] }
  | none => match nextOf st o with
    | some (g, s, n) => (match o.dst with
      | some d => decide (d < N)
      | none => true) = true ∧ (itHas s n = true → K (itEff g s n)) ∧ (itHas s n = false → K itEnd)
    | none => stepW T tt N ops o st K
/-- In their order. -/
def runOps (T : Tab) (tt : TT) (N : Nat) (ops : Array Oper) : List Nat → St → (St → Prop) → Prop
  | [], st, K => K st
  | i :: is, st, K => match ops[i]? with
    | some o => stepI T tt N ops o st fun e => runOps T tt N ops is (st.eff o.dst e) K
    | none => False
structure Foot where
  rd : List Nat
  wr : List Nat
  new : List Nat
/-- In their order, and what each looked at is noted. -/
def runNote (T : Tab) (tt : TT) (N : Nat) (ops : Array Oper) : List Nat → St → List Foot → (St → List Foot → Prop) → Prop
  | [], st, fs, K => K st fs
  | i :: is, st, fs, K => match ops[i]? with
    | some o => stepW T tt N ops o st fun e => runNote T tt N ops is (st.eff o.dst e) (fs ++ [{ rd := footOf T st o, wr := e.upd.map (·.1), new := e.new }]) K
    | none => False

/-- What must go ahead of each operation, as bits. -/
def aheadOf (acc : List Nat) (o : Oper) : Nat := o.after.toList.foldl (fun s e => if Region.binds .any e = true then s ||| (2 ^ e.on) ||| acc.getD e.on 0 else s) 0
def aheads : List Oper → List Nat → List Nat
  | [], acc => acc
  | o :: os, acc => aheads os (acc ++ [aheadOf acc o])

def dstNot (x : Option Tmp) (ts : List Tmp) : Bool := match x with
  | some t => !ts.contains t
  | none => true
def pairB (ops : Array Oper) (x y : Oper) (fx fy : Foot) : Bool :=
  dstNot x.dst (y.looksAt ops) && dstNot y.dst (x.looksAt ops) && dstNot x.dst y.dst.toList && disj fx.wr fy.rd && disj fy.wr fx.rd && disj fx.wr fy.wr && disj fx.new fy.new
def freeB (ops : Array Oper) (fs : List Foot) : Bool :=
  let as := aheads ops.toList []
  (List.range ops.size).all fun j => decide (as.getD j 0 < 2 ^ j) && (List.range j).all fun i => (as.getD j 0).testBit i || match ops[i]?, ops[j]?, fs[i]?, fs[j]? with
    | some x, some y, some fx, some fy => pairB ops x y fx fy
    | _, _, _, _ => false
/-- A region. -/
def regionW (T : Tab) (tt : TT) (N : Nat) (ops : Array Oper) (draw : Bool) (st : St) (K : St → Prop) : Prop :=
  match draw with
  | false => runOps T tt N ops (List.range ops.size) st K
  | true => runNote T tt N ops (List.range ops.size) st [] fun st' fs => freeB ops fs = true ∧ K st'
end Go.Fw

/-
  THE FRAMEWORK, PART S: regions are sound, whatever order is drawn.
-/
namespace Go.Fw
set_option linter.unusedSectionVars false
variable [Globs]
set_option linter.unusedVariables false

/-! ### An operation's effect, part by part -/
theorem eff_s (st : St) (dst : Option Tmp) (e : Eff) (t : Nat) : (st.eff dst e).s t = if dst = some t then e.x else st.s t := by
  cases dst with
  | none => simp [St.eff, St.put, St.upd]
  | some d =>
    simp only [St.eff, St.put, St.upd, Option.some.injEq]
    by_cases h : t = d
    · subst h; simp
    · have h1 : Nat.beq t d = false := by cases hb : Nat.beq t d with | false => rfl | true => exact absurd (Nat.eq_of_beq_eq_true hb) h
      rw [h1, if_neg (fun e => h e.symm)]; rfl
theorem eff_o (st : St) (dst : Option Tmp) (e : Eff) (g : Nat) : (st.eff dst e).o g = match e.upd.lookup g with | some x => x | none => st.o g := by
  cases dst <;> rfl
theorem eff_used (st : St) (dst : Option Tmp) (e : Eff) (g : Nat) : (st.eff dst e).used g = (e.new.contains g || st.used g) := by
  cases dst <;> rfl
theorem lookup_none_of {α : Type} {g : Nat} : ∀ {l : List (Nat × α)}, g ∉ l.map (·.1) → l.lookup g = none
  | [], _ => rfl
  | (k, v) :: l, h => by
    simp only [List.map_cons, List.mem_cons, not_or] at h
    have : (g == k) = false := by simpa using h.1
    simp only [List.lookup, this]
    exact lookup_none_of h.2
theorem St.ext' {a b : St} (h1 : ∀ t, a.s t = b.s t) (h2 : ∀ g, a.o g = b.o g) (h3 : ∀ g, a.used g = b.used g) : a = b := by
  obtain ⟨s, o, u⟩ := a
  obtain ⟨s', o', u'⟩ := b
  simp only at h1 h2 h3
  rw [funext h1, funext h2, funext h3]

section
variable {ops : Array Oper} {es es' : Nat → Eff} {st : St} {D D' : Nat → Bool}

/-- The state when the operations of D have run. -/
def SD (ops : Array Oper) (es : Nat → Eff) (st : St) (D : Nat → Bool) : Nat → St
  | 0 => st
  | k + 1 => if D k = true then (SD ops es st D k).eff ((ops[k]?).bind (·.dst)) (es k) else SD ops es st D k

theorem SD_congr : ∀ {n : Nat}, (∀ k < n, es k = es' k) → SD ops es st D n = SD ops es' st D n
  | 0, _ => rfl
  | n + 1, h => by simp only [SD]; rw [SD_congr fun k hk => h k (by omega), h n (by omega)]
theorem SD_congrD : ∀ {n : Nat}, (∀ k < n, D k = D' k) → SD ops es st D n = SD ops es st D' n
  | 0, _ => rfl
  | n + 1, h => by simp only [SD]; rw [SD_congrD fun k hk => h k (by omega), h n (by omega)]
theorem SD_s {t : Nat} : ∀ {n : Nat}, (∀ k < n, D k ≠ D' k → (ops[k]?).bind (·.dst) ≠ some t) → (SD ops es st D n).s t = (SD ops es st D' n).s t
  | 0, _ => rfl
  | n + 1, h => by
    have ih := SD_s (n := n) fun k hk => h k (by omega)
    have hn := h n (by omega)
    simp only [SD]
    cases h1 : D n <;> cases h2 : D' n
    · simpa using ih
    · have := hn (by rw [h1, h2]; simp)
      simp only [if_true, eff_s, if_neg this]; simpa using ih
    · have := hn (by rw [h1, h2]; simp)
      simp only [if_true, eff_s, if_neg this]; simpa using ih
    · simp only [if_true, eff_s, ih]
theorem SD_o {g : Nat} : ∀ {n : Nat}, (∀ k < n, D k ≠ D' k → g ∉ (es k).upd.map (·.1)) → (SD ops es st D n).o g = (SD ops es st D' n).o g
  | 0, _ => rfl
  | n + 1, h => by
    have ih := SD_o (n := n) fun k hk => h k (by omega)
    have hn := h n (by omega)
    simp only [SD]
    cases h1 : D n <;> cases h2 : D' n
    · simpa using ih
    · have := lookup_none_of (hn (by rw [h1, h2]; simp))
      simp only [if_true, eff_o, this]; simpa using ih
    · have := lookup_none_of (hn (by rw [h1, h2]; simp))
      simp only [if_true, eff_o, this]; simpa using ih
    · simp only [if_true, eff_o, ih]
theorem SD_used {g : Nat} : ∀ {n : Nat}, (∀ k < n, D k ≠ D' k → g ∉ (es k).new) → (SD ops es st D n).used g = (SD ops es st D' n).used g
  | 0, _ => rfl
  | n + 1, h => by
    have ih := SD_used (n := n) fun k hk => h k (by omega)
    have hn := h n (by omega)
    simp only [SD]
    cases h1 : D n <;> cases h2 : D' n
    · simpa using ih
    · have := hn (by rw [h1, h2]; simp)
      have : (es n).new.contains g = false := by simpa using this
      simp only [if_true, eff_used, this, Bool.false_or]; simpa using ih
    · have := hn (by rw [h1, h2]; simp)
      have : (es n).new.contains g = false := by simpa using this
      simp only [if_true, eff_used, this, Bool.false_or]; simpa using ih
    · simp only [if_true, eff_used, ih]
/-- The last that writes. -/
theorem SD_last_s {t i : Nat} (hi : D i = true) (hd : (ops[i]?).bind (·.dst) = some t) : ∀ {n : Nat}, i < n → (∀ k, i < k → k < n → D k = true → (ops[k]?).bind (·.dst) ≠ some t) → (SD ops es st D n).s t = (es i).x
  | 0, h, _ => by omega
  | n + 1, hin, h => by
    simp only [SD]
    by_cases e : n = i
    · subst e; simp [hi, eff_s, hd]
    · have ih := SD_last_s hi hd (n := n) (by omega) fun k h1 h2 => h k h1 (by omega)
      cases hn : D n with
      | false => simpa using ih
      | true =>
        have := h n (by omega) (by omega) hn
        simp only [if_true, eff_s, if_neg this, ih]
theorem SD_last_o {g i : Nat} {x : O} (hi : D i = true) (hd : (es i).upd.lookup g = some x) : ∀ {n : Nat}, i < n → (∀ k, i < k → k < n → D k = true → g ∉ (es k).upd.map (·.1)) → (SD ops es st D n).o g = x
  | 0, h, _ => by omega
  | n + 1, hin, h => by
    simp only [SD]
    by_cases e : n = i
    · subst e; simp [hi, eff_o, hd]
    · have ih := SD_last_o hi hd (n := n) (by omega) fun k h1 h2 => h k h1 (by omega)
      cases hn : D n with
      | false => simpa using ih
      | true =>
        have := lookup_none_of (h n (by omega) (by omega) hn)
        simp only [if_true, eff_o, this, ih]
theorem SD_has_used {g i : Nat} (hi : D i = true) (hd : g ∈ (es i).new) : ∀ {n : Nat}, i < n → (SD ops es st D n).used g = true
  | 0, h => by omega
  | n + 1, hin => by
    simp only [SD]
    by_cases e : n = i
    · subst e; simp [hi, eff_used, hd]
    · have ih := SD_has_used hi hd (n := n) (by omega)
      cases hn : D n with
      | false => simpa using ih
      | true => simp only [if_true, eff_used, ih, Bool.or_true]

/-- Two operations that do not meet. -/
structure Apart (ops : Array Oper) (x y : Oper) (fx fy : Foot) : Prop where
  dy : ∀ t, x.dst = some t → t ∉ y.looksAt ops
  dx : ∀ t, y.dst = some t → t ∉ x.looksAt ops
  dd : ∀ t, x.dst = some t → y.dst ≠ some t
  wr : ∀ g ∈ fx.wr, g ∉ fy.rd
  rw : ∀ g ∈ fy.wr, g ∉ fx.rd
  ww : ∀ g ∈ fx.wr, g ∉ fy.wr
  nn : ∀ g ∈ fx.new, g ∉ fy.new
theorem dstNot_spec {x : Option Tmp} {ts : List Tmp} (h : dstNot x ts = true) : ∀ t, x = some t → t ∉ ts := by
  intro t e
  subst e
  simpa [dstNot] using h
theorem disj_spec {xs ys : List Nat} (h : disj xs ys = true) : ∀ x ∈ xs, x ∉ ys := by
  intro x hx
  have := (List.all_eq_true.1 h) x hx
  simpa using this
theorem pairB_spec {x y : Oper} {fx fy : Foot} (h : pairB ops x y fx fy = true) : Apart ops x y fx fy := by
  simp only [pairB, Bool.and_eq_true] at h
  obtain ⟨⟨⟨⟨⟨⟨h1, h2⟩, h3⟩, h4⟩, h5⟩, h6⟩, h7⟩ := h
  exact ⟨dstNot_spec h1, dstNot_spec h2, fun t e e' => dstNot_spec h3 t e (by simp [e']), disj_spec h4, disj_spec h5, disj_spec h6, disj_spec h7⟩

/-! ### What goes ahead -/
theorem ahead_bit {acc : List Nat} {i : Nat} : ∀ {l : List Edge} {s : Nat}, (l.foldl (fun s e => if Region.binds .any e = true then s ||| (2 ^ e.on) ||| acc.getD e.on 0 else s) s).testBit i = true ↔
    s.testBit i = true ∨ ∃ e ∈ l, Region.binds .any e = true ∧ (e.on = i ∨ (acc.getD e.on 0).testBit i = true)
  | [], s => by simp
  | e :: l, s => by
    simp only [List.foldl_cons]
    rw [ahead_bit]
    by_cases hb : Region.binds .any e = true
    · simp only [hb, if_true, Nat.testBit_or, Bool.or_eq_true, Nat.testBit_two_pow, decide_eq_true_eq, List.mem_cons]
      constructor
      · rintro (((h | h) | h) | ⟨e', h1, h2⟩)
        · exact .inl h
        · exact .inr ⟨e, .inl rfl, hb, .inl h⟩
        · exact .inr ⟨e, .inl rfl, hb, .inr h⟩
        · exact .inr ⟨e', .inr h1, h2⟩
      · rintro (h | ⟨e', h1 | h1, h2, h3 | h3⟩)
        · exact .inl (.inl (.inl h))
        · subst h1; exact .inl (.inl (.inr h3))
        · subst h1; exact .inl (.inr h3)
        · exact .inr ⟨e', h1, h2, .inl h3⟩
        · exact .inr ⟨e', h1, h2, .inr h3⟩
    · simp only [hb, List.mem_cons]
      constructor
      · rintro (h | ⟨e', h1, h2⟩)
        · exact .inl (by simpa using h)
        · exact .inr ⟨e', .inr h1, h2⟩
      · rintro (h | ⟨e', h1 | h1, h2, h3⟩)
        · exact .inl (by simpa using h)
        · subst h1; exact absurd h2 hb
        · exact .inr ⟨e', h1, h2, h3⟩
theorem aheads_pre : ∀ {os : List Oper} {acc : List Nat}, ∃ t, aheads os acc = acc ++ t
  | [], acc => ⟨[], by simp [aheads]⟩
  | o :: os, acc => by
    obtain ⟨t, h⟩ := aheads_pre (os := os) (acc := acc ++ [aheadOf acc o])
    exact ⟨aheadOf acc o :: t, by simp [aheads, h]⟩
theorem aheads_get : ∀ {os : List Oper} {acc : List Nat} {j : Nat} {o : Oper}, os[j]? = some o → ∃ acc', (∃ t, aheads os acc = acc' ++ aheadOf acc' o :: t) ∧ acc'.length = acc.length + j
  | [], acc, j, o, h => by simp at h
  | o' :: os, acc, 0, o, h => by
    simp only [List.getElem?_cons_zero, Option.some.injEq] at h
    subst h
    obtain ⟨t, h⟩ := aheads_pre (os := os) (acc := acc ++ [aheadOf acc o'])
    exact ⟨acc, ⟨t, by simp [aheads, h]⟩, rfl⟩
  | o' :: os, acc, j + 1, o, h => by
    simp only [List.getElem?_cons_succ] at h
    obtain ⟨acc', h1, h2⟩ := aheads_get (acc := acc ++ [aheadOf acc o']) h
    exact ⟨acc', h1, by simp at h2; omega⟩
/-- A set of operations that holds what its members wait for. -/
def Down (ops : Array Oper) (D : Nat → Bool) : Prop := ∀ (j : Nat) o, ops[j]? = some o → D j = true → ∀ e ∈ o.after, Region.binds .any e = true → D e.on = true
theorem aheads_bit {j : Nat} {o : Oper} (ho : ops[j]? = some o) {i : Nat} : ((aheads ops.toList []).getD j 0).testBit i = true ↔
    ∃ e ∈ o.after, Region.binds .any e = true ∧ (e.on = i ∨ (e.on < j ∧ ((aheads ops.toList []).getD e.on 0).testBit i = true)) := by
  have hl : ops.toList[j]? = some o := by simpa using ho
  obtain ⟨acc, ⟨t, h1⟩, h2⟩ := aheads_get (acc := []) hl
  simp only [List.length_nil, Nat.zero_add] at h2
  rw [h1]
  have e1 : (acc ++ aheadOf acc o :: t).getD j 0 = aheadOf acc o := by
    rw [List.getD_eq_getElem?_getD, List.getElem?_append_right (by omega), h2]; simp
  have e2 : ∀ k, (acc ++ aheadOf acc o :: t).getD k 0 = if k < j then acc.getD k 0 else (acc ++ aheadOf acc o :: t).getD k 0 := by
    intro k
    split
    · rename_i hk
      rw [List.getD_eq_getElem?_getD, List.getElem?_append_left (by omega), ← List.getD_eq_getElem?_getD]
    · rfl
  rw [e1]
  unfold aheadOf
  rw [ahead_bit]
  simp only [Nat.zero_testBit, Bool.false_eq_true, false_or, Array.mem_toList_iff]
  constructor
  · rintro ⟨e, q1, q2, q3⟩
    refine ⟨e, q1, q2, q3.imp id fun q => ?_⟩
    by_cases hk : e.on < j
    · refine ⟨hk, ?_⟩
      have := e2 e.on
      rw [if_pos hk] at this
      unfold aheadOf at this
      rw [this]; exact q
    · have : acc.getD e.on 0 = 0 := by rw [List.getD_eq_getElem?_getD, List.getElem?_eq_none (by omega)]; rfl
      rw [this] at q; simp at q
  · rintro ⟨e, q1, q2, q3⟩
    refine ⟨e, q1, q2, q3.imp id fun ⟨hk, q⟩ => ?_⟩
    have := e2 e.on
    rw [if_pos hk] at this
    unfold aheadOf at this
    rw [this] at q; exact q
theorem aheads_down (hD : Down ops D) : ∀ (j : Nat) {o : Oper}, ops[j]? = some o → D j = true → ∀ i, ((aheads ops.toList []).getD j 0).testBit i = true → D i = true := by
  intro j
  induction j using Nat.strongRecOn with
  | _ j ih =>
    intro o ho hj i hb
    obtain ⟨e, h1, h2, h3 | ⟨h3, h4⟩⟩ := (aheads_bit ho).1 hb
    · rw [← h3]; exact hD j o ho hj e h1 h2
    · have hlt : j < ops.size := (Array.getElem?_eq_some_iff.1 ho).1
      have hlt' : e.on < ops.size := by omega
      exact ih e.on h3 (Array.getElem?_eq_getElem hlt') (hD j o ho hj e h1 h2) i h4
theorem ahead_lt {j : Nat} {o : Oper} (ho : ops[j]? = some o) (h : (aheads ops.toList []).getD j 0 < 2 ^ j) {e : Edge} (he : e ∈ o.after) (hb : Region.binds .any e = true) : e.on < j := by
  have := (aheads_bit ho (i := e.on)).2 ⟨e, he, hb, .inl rfl⟩
  by_cases hk : e.on < j
  · exact hk
  · rw [Nat.testBit_lt_two_pow (Nat.lt_of_lt_of_le h (Nat.pow_le_pow_right (by omega) (by omega)))] at this; cases this
end

section
variable {E : Env} {N : Nat} {ios : List Nat} {gh0 : Nat → Gh} {st : St} {a : Act} {w : World} {Pg : Program} {T : Tab} {tt : TT} {ops : Array Oper} {Q : Exit → Act → World → Prop}

/-- What is known of a value is so. -/
theorem nilOf_sound {gh : Nat → Gh} (h : Rel E st gh (fun t => a.tmps.getD t undef) w) {x : S} {v : Value} (hx : RepS E st gh w x v) {i : TI} {t : TypeId} (ht : TyOk Pg t i) {c : Value} {p : Bool → Prop} (hp : nilOf st.o x i.k c = some p) :
    ∃ b, (Op.equal t v c).run Pg w = .ok b w ∧ p b := by
  unfold nilOf at hp
  split at hp
  · rename_i e hk
    have hu := ht.kind
    rw [hk] at hu
    have hu : Pg.underlying t = some (.slice e) := hu
    have eqs : ∀ ao n cap, (Op.equal t (.slice ao n cap) (.slice none 0 0)).run Pg w = .ok ao.isNone w := by
      intro ao n cap
      unfold Op.equal Op.maxDepth
      show (Op.equalIn (9999 + 1) t _ _).run Pg w = _
      unfold Op.equalIn
      cases ao <;> simp [run_und hu]
    unfold nilSl at hp
    split at hp
    · simp only [Option.some.injEq] at hp; subst hp
      have r := hx.p_inv
      generalize hl : (P.sl _ _) = y at r
      cases r with
      | nil sz ao cap => cases hl; exact ⟨_, eqs _ _ _, fun h => absurd rfl h⟩
      | sl sz l ad cap f _ _ _ _ _ _ => cases hl; exact ⟨_, eqs _ _ _, fun _ => rfl⟩
      | _ => cases hl
    · rename_i g
      split at hp
      · rename_i fz a' i' sz l ho
        simp only [Option.some.injEq] at hp; subst hp
        cases hx.one_inv with
        | own _ _ _ hb =>
          rw [hb _ _ _ _ _ ho]
          refine ⟨_, eqs _ _ _, fun hl => ?_⟩
          have hO := h.objs g
          rw [ho] at hO
          cases hg : (gh g).ad with
          | some ad => rfl
          | none =>
            exfalso
            cases fz with
            | false =>
              rcases hO with ⟨_, _, e⟩ | ⟨ad, c, e, h1, _⟩
              · exact hl e
              · rw [hg] at h1; cases h1
            | true =>
              have hO : RepP w (E.ok st gh w a' i') (.sl sz l) (.slice (gh g).ad l.length (gh g).cap) := hO
              rw [hg] at hO
              generalize hm : l.length = m at hO
              cases hO with
              | nil => exact hl rfl
      · cases hp
    · simp only [Option.some.injEq] at hp; subst hp
      cases hx.one_inv
      exact ⟨_, eqs _ _ _, rfl⟩
    · cases hp
  · rename_i hk
    have hu := ht.kind
    rw [hk] at hu
    obtain ⟨e, hu⟩ := (hu : ∃ e, Pg.underlying t = some (.pointer e))
    have eqp : ∀ ao, (Op.equal t (.pointer ao) (.pointer none)).run Pg w = .ok ao.isNone w := by
      intro ao
      unfold Op.equal Op.maxDepth
      show (Op.equalIn (9999 + 1) t _ _).run Pg w = _
      unfold Op.equalIn
      cases ao <;> simp [run_und hu]
    unfold nilPt at hp
    split at hp
    · rename_i g off
      split at hp
      · rename_i ws ho
        simp only [Option.some.injEq] at hp; subst hp
        cases hx.one_inv with
        | box _ _ _ _ hb =>
          obtain ⟨ad, _, rfl⟩ := hb ws ho
          exact ⟨_, eqp _, rfl⟩
      · cases hp
    · simp only [Option.some.injEq] at hp; subst hp
      cases hx.p_inv with
      | opq _ _ => exact ⟨_, eqp _, rfl⟩
    · cases hp
  · cases hp

theorem stepI_sound (hT : ∀ f sp, T f = some sp → Sound Pg f sp) (htt : TTok Pg tt) {i : Nat} {o : Oper} (hi : ops[i]? = some o) (hg : Good E N ios gh0 st a w) {K' : Eff → Prop} (h : stepI T tt N ops o st K')
    {K : Act → World → Prop} (hK : ∀ e a' w', K' e → Good E N ios gh0 (st.eff o.dst e) a' w' → K a' w') : wpOp Pg ops Q i K a w := by
  unfold stepI at h
  split at h
  · rename_i pos p hn
    obtain ⟨hd, h⟩ := h
    have hd : ∀ d, o.dst = some d → d < a.tmps.size := by
      intro d e
      rw [e] at hd
      rw [hg.size]; simpa using hd
    unfold nilCmp at hn
    split at hn
    · cases hn
    · rename_i hgd
      split at hn
      · rename_i op t x c u hop
        split at hn
        · rename_i ti ht
          obtain ⟨gh, hR, hio⟩ := hg.ex
          have hx := opnd_rep hR x
          have key : ∀ p', nilOf st.o (st.opnd x) ti.k c = some p' → ∃ b, (Op.equal t (a.eval x) c).run Pg w = .ok b w ∧ p' b := fun p' hp => nilOf_sound hR hx (htt _ _ ht) hp
          have fin : ∀ b, (execOp a.eval o).run Pg w = .ok (.value (.bool (bif pos then b else !b))) w → p b → wpOp Pg ops Q i K a w := by
            intro b hrun hb
            unfold wpOp
            rw [hi]
            simp only
            have : Region.wanted o (yielded ops a.tmps) = true := by simp [Region.wanted, hgd]
            rw [if_pos this]
            left
            show o.upon Pg a K Q ((execOp a.eval o).run Pg w)
            rw [hrun]
            refine hK _ _ _ (h b hb) ⟨⟨gh, ?_, fun g hg' => ?_⟩, by rw [put_size]; exact hg.size, hg.defers.put _ _⟩
            · rw [vals_put _ _ hd]
              unfold St.eff
              simp only [upd_nil]
              exact hR.put o.dst (RepS.ofP (.bool _)) (by simp [scalar, S.names, V.names, W.names])
            · have ho : (st.eff o.dst { x := scalar (.bool (bif pos then b else !b)), upd := [], new := [] }).o g = st.o g := by unfold St.eff St.put; cases o.dst <;> simp [St.upd]
              have hu : (st.eff o.dst { x := scalar (.bool (bif pos then b else !b)), upd := [], new := [] }).used g = st.used g := by unfold St.eff St.put; cases o.dst <;> simp [St.upd]
              rw [ho, hu]; exact hio g hg'
          have hcv : ∀ b, (Op.equal t (a.eval x) c).run Pg w = .ok b w → (c = .slice none 0 0 ∨ c = .pointer none) ∧ True → (eqGuard op t x (.const c) (a.eval x) c).run Pg w = .ok () w := by
            intro b _ hc
            unfold eqGuard
            rcases hc.1 with rfl | rfl
            · cases op <;> first | rfl | (simp only; split <;> first | rfl | simp_all)
            · cases op <;> first | rfl | (simp only; split <;> first | rfl | simp_all)
          have hcc : ∀ p', nilOf st.o (st.opnd x) ti.k c = some p' → c = .slice none 0 0 ∨ c = .pointer none := by
            intro p' hp
            unfold nilOf at hp
            split at hp
            · exact .inl rfl
            · exact .inr rfl
            · cases hp
          split at hn
          · rename_i p' hp
            simp only [Option.some.injEq, Prod.mk.injEq] at hn
            obtain ⟨rfl, rfl⟩ := hn
            obtain ⟨b, hb1, hb2⟩ := key _ hp
            refine fin b ?_ hb2
            have hge := hcv b hb1 ⟨hcc _ hp, trivial⟩
            unfold execOp
            rw [hop]
            refine run_v ?_
            show (eqGuard _ t x (.const c) (a.eval x) c >>= fun _ => binOp _ t (a.eval x) c).run Pg w = _
            rw [Sem.run_bind, hge]
            rcases hcc _ hp with rfl | rfl <;> simp [binOp, hb1]
          · rename_i p' hp
            simp only [Option.some.injEq, Prod.mk.injEq] at hn
            obtain ⟨rfl, rfl⟩ := hn
            obtain ⟨b, hb1, hb2⟩ := key _ hp
            refine fin b ?_ hb2
            have hge := hcv b hb1 ⟨hcc _ hp, trivial⟩
            unfold execOp
            rw [hop]
            refine run_v ?_
            show (eqGuard _ t x (.const c) (a.eval x) c >>= fun _ => binOp _ t (a.eval x) c).run Pg w = _
            rw [Sem.run_bind, hge]
            rcases hcc _ hp with rfl | rfl <;> simp [binOp, hb1]
          · cases hn
        · cases hn
      · cases hn
  · split at h
    · rename_i g s n hn
      obtain ⟨hd, h1, h2⟩ := h
      have hd : ∀ d, o.dst = some d → d < a.tmps.size := by
        intro d e
        rw [e] at hd
        rw [hg.size]; simpa using hd
      unfold nextOf at hn
      split at hn
      · cases hn
      · rename_i hgd
        split at hn
        · rename_i x hop
          split at hn
          · rename_i g' hx
            split at hn
            · rename_i s' n' hog
              simp only [Option.some.injEq, Prod.mk.injEq] at hn
              obtain ⟨rfl, rfl, rfl⟩ := hn
              obtain ⟨gh, hR, hio⟩ := hg.ex
              have hrx := opnd_rep hR x
              rw [hx] at hrx
              obtain ⟨ad, had, hv⟩ : ∃ ad, (gh g').ad = some ad ∧ a.eval x = .pointer (some ⟨ad.block, 0, none⟩) := by
                have := hrx.one_inv
                generalize a.eval x = z at this
                cases this with | itp _ _ _ hb => exact hb _ _ hog
              have hO := hR.objs g'
              rw [hog] at hO
              obtain ⟨ad', bs, k, q1, rfl, rfl, q4⟩ := hO
              rw [had] at q1; cases q1
              have hlt : ad.block < w.heap.size := (hR.wr g' ad (by rw [hog]; rfl) had).2
              have hkn : (P.int .i64 (k : Int)).nat = k := by simp [P.nat, P.num]
              have hget : (getObj ad.block).run Pg w = .ok (.stringIter bs k) w := by simp [getObj, Sem.run, q4]
              have fin : ∀ (v : Value) (w' : World) (e : Eff), (∀ b, b ≠ ad.block → w'.heap[b]? = w.heap[b]?) → (Instr.next (a.eval x) true o.type).run Pg w = .ok v w' → K' e → Rel E (st.upd e.upd e.new) gh (fun t => a.tmps.getD t undef) w' → RepS E (st.upd e.upd e.new) gh w' e.x v → (∀ g ∈ e.x.names, (st.upd e.upd e.new).used g = true) →
                  (∀ g, st.used g = true → (st.upd e.upd e.new).used g = true) → (∀ g, ((st.upd e.upd e.new).o g = .none ∨ True) ∧ (st.o g = .none → (st.upd e.upd e.new).o g = .none)) → wpOp Pg ops Q i K a w := by
                intro v w' e hmm hrun hke hR' hx' hn' hu' ho'
                unfold wpOp
                rw [hi]
                simp only
                have : Region.wanted o (yielded ops a.tmps) = true := by simp [Region.wanted, hgd]
                rw [if_pos this]
                left
                show o.upon Pg a K Q ((execOp a.eval o).run Pg w)
                have : (execOp a.eval o).run Pg w = .ok (.value v) w' := by
                  unfold execOp
                  rw [hop]
                  exact run_v hrun
                rw [this]
                refine hK e _ _ hke ⟨⟨gh, ?_, fun g hg' => ?_⟩, by rw [put_size]; exact hg.size, hg.defers.same (fun D _ h3 => hmm D fun e' => by rw [e', q4] at h3; cases h3) _ _⟩
                · rw [vals_put _ _ hd]
                  exact hR'.put o.dst hx' hn'
                · obtain ⟨p1, p2⟩ := hio g hg'
                  have ho2 : (st.eff o.dst e).o g = (st.upd e.upd e.new).o g := by unfold St.eff St.put; cases o.dst <;> rfl
                  have hu2 : (st.eff o.dst e).used g = (st.upd e.upd e.new).used g := by unfold St.eff St.put; cases o.dst <;> rfl
                  refine ⟨by rw [hu2]; exact hu' g p1, ?_⟩
                  rw [ho2]
                  rcases p2 with p2 | p2
                  · exact .inl ((ho' g).2 p2)
                  · exact .inr p2
              cases hb : itHas (.str bs) (.int .i64 k) with
              | true =>
                have hkb : k < bs.size := by
                  have := of_decide_eq_true hb
                  rw [hkn] at this; exact this
                have hrun : (Instr.next (a.eval x) true o.type).run Pg w = .ok (.tuple #[.bool true, .int .i64 k, .int .i32 (Utf8.decode bs k).1]) { w with heap := w.heap.setIfInBounds ad.block (.stringIter bs (k + (Utf8.decode bs k).2)) } := by
                  rw [hv]
                  simp only [Instr.next, Sem.run_bind, hget, Result.andThen_ok]
                  rw [if_pos hkb]
                  have hset : (setObj ad.block (.stringIter bs (k + (Utf8.decode bs k).2))).run Pg w = .ok () { w with heap := w.heap.setIfInBounds ad.block (.stringIter bs (k + (Utf8.decode bs k).2)) } := by
                    simp [setObj, Sem.run, q4]
                  simp only [Sem.run_bind, hset, Result.andThen_ok, Sem.run_pure]
                  rfl
                obtain ⟨w1, w2⟩ := hR.write g' ad (by rw [hog]; rfl) had (.it (.str bs) (itNext (.str bs) (.int .i64 k))) (by rw [hog]; trivial) { w with heap := w.heap.setIfInBounds ad.block (.stringIter bs (k + (Utf8.decode bs k).2)) }
                  (fun b hb => by simp [Array.getElem?_setIfInBounds, Ne.symm hb]) (by simp) rfl rfl rfl rfl (fun _ _ _ _ e => by cases e)
                  (fun _ => ⟨ad, bs, k + (Utf8.decode bs k).2, had, rfl, by simp only [itNext, natP, hkn]; rfl, by simp [hlt]⟩) (fun g hg => by simp [O.names] at hg)
                have hold : ∀ g, g ≠ g' → (st.upd (itEff g' (.str bs) (.int .i64 k)).upd (itEff g' (.str bs) (.int .i64 k)).new).o g = st.o g := by
                  intro g hne
                  have : (g == g') = false := by simpa using hne
                  simp [itEff, St.upd, List.lookup, this]
                refine fin _ _ (itEff g' (.str bs) (.int .i64 k)) (fun b hb => by simp [Array.getElem?_setIfInBounds, Ne.symm hb]) hrun (h1 hb) w1 ?_ ?_ ?_ ?_
                · refine .tup _ _ rfl fun j x v hx hv => ?_
                  match j, hx, hv with
                  | 0, hx, hv => cases hx; cases hv; exact .one _ _ (.p _ _ _ _ (.bool _))
                  | 1, hx, hv => cases hx; cases hv; exact .one _ _ (.p _ _ _ _ (by rw [hkn]; exact .int _ _))
                  | 2, hx, hv => cases hx; cases hv; exact .one _ _ (.p _ _ _ _ (by simp only [itRune, hkn]; exact .int _ _))
                  | j + 3, hx, _ => cases hx
                · intro g hg'
                  simp [itEff, S.names, V.names, W.names] at hg'
                · intro g hg'; simp [St.upd, hg']
                · intro g
                  refine ⟨.inr trivial, fun h0 => ?_⟩
                  by_cases e : g = g'
                  · subst e; rw [hog] at h0; cases h0
                  · rw [hold g e]; exact h0
              | false =>
                have hkb : ¬ k < bs.size := by
                  have := of_decide_eq_false hb
                  rw [hkn] at this; exact this
                have hrun : (Instr.next (a.eval x) true o.type).run Pg w = .ok (.tuple #[.bool false]) w := by
                  rw [hv]
                  simp only [Instr.next, Sem.run_bind, hget, Result.andThen_ok]
                  rw [if_neg hkb]; rfl
                refine fin _ _ itEnd (fun _ _ => rfl) hrun (h2 hb) (by rw [show itEnd.upd = [] from rfl, show itEnd.new = [] from rfl, upd_nil]; exact hR) ?_ ?_ ?_ ?_
                · refine .tup _ _ rfl fun j x v hx hv => ?_
                  match j, hx, hv with
                  | 0, hx, hv => cases hx; cases hv; exact .one _ _ (.p _ _ _ _ (.bool _))
                  | j + 1, hx, _ => cases hx
                · intro g hg'
                  simp [itEnd, S.names, V.names, W.names] at hg'
                · intro g hg'; simp [St.upd, hg']
                · intro g; exact ⟨.inr trivial, fun h0 => by simpa [itEnd, St.upd] using h0⟩
            · cases hn
          · cases hn
        · cases hn
    · obtain ⟨e, hc, h⟩ := step_can h
      exact step_sound hT htt hi hg hc fun a' w' hg' => hK e a' w' h hg'

theorem runOps_sound (hT : ∀ f sp, T f = some sp → Sound Pg f sp) (htt : TTok Pg tt) {K : St → Prop} (hK : ∀ st' a' w', K st' → Good E N ios gh0 st' a' w' → Q .normal a' w') :
    ∀ (is : List Nat) {st : St} {a : Act} {w : World}, runOps T tt N ops is st K → Good E N ios gh0 st a w → wpOps Pg ops Q is a w
  | [], st, a, w, h, hg => hK st a w h hg
  | i :: is, st, a, w, h, hg => by
    simp only [runOps] at h
    split at h
    · rename_i o ho
      rw [wpOps_cons]
      exact stepI_sound hT htt ho hg h fun e a' w' h hg' => runOps_sound hT htt hK is h hg'
    · cases h

/-- What the run in order tells. -/
theorem runNote_run {K : St → List Foot → Prop} : ∀ (m k : Nat) (es : Nat → Eff) (fs : List Foot), fs.length = k → runNote T tt N ops (List.range' k m) (SD ops es st (fun _ => true) k) fs K →
    ∃ (es' : Nat → Eff) (fs' : List Foot), (∀ i < k, es' i = es i) ∧ (∀ i < k, fs'[i]? = fs[i]?) ∧ K (SD ops es' st (fun _ => true) (k + m)) fs' ∧
      ∀ i, k ≤ i → i < k + m → ∃ o, ops[i]? = some o ∧ Can T tt N ops (SD ops es' st (fun _ => true) i) o (es' i) ∧ fs'[i]? = some { rd := footOf T (SD ops es' st (fun _ => true) i) o, wr := (es' i).upd.map (·.1), new := (es' i).new }
  | 0, k, es, fs, hl, h => ⟨es, fs, fun _ _ => rfl, fun _ _ => rfl, h, fun i h1 h2 => by omega⟩
  | m + 1, k, es, fs, hl, h => by
    simp only [List.range'_succ, runNote] at h
    split at h
    · rename_i o ho
      obtain ⟨e, hc, h⟩ := step_can h
      let es1 : Nat → Eff := fun i => if i = k then e else es i
      have e1 : SD ops es1 st (fun _ => true) k = SD ops es st (fun _ => true) k := SD_congr fun i hi => by simp only [es1]; rw [if_neg (by omega)]
      have e2 : SD ops es1 st (fun _ => true) (k + 1) = (SD ops es st (fun _ => true) k).eff o.dst e := by
        simp only [SD, if_true]
        rw [e1, ho]
        simp [es1]
      rw [← e2] at h
      obtain ⟨es', fs', q1, q2, q3, q4⟩ := runNote_run m (k + 1) es1 _ (by simp [hl]) h
      have e3 : SD ops es' st (fun _ => true) k = SD ops es st (fun _ => true) k := (SD_congr fun i hi => q1 i (by omega)).trans e1
      refine ⟨es', fs', fun i hi => ?_, fun i hi => ?_, by rw [show k + (m + 1) = k + 1 + m by omega]; exact q3, fun i h1 h2 => ?_⟩
      · rw [q1 i (by omega)]; simp only [es1]; rw [if_neg (by omega)]
      · rw [q2 i (by omega), List.getElem?_append_left (by omega)]
      · by_cases e : i = k
        · subst e
          have hei : es' i = e := by rw [q1 i (by omega)]; simp [es1]
          refine ⟨o, ho, by rw [e3, hei]; exact hc, ?_⟩
          rw [q2 i (by omega), List.getElem?_append_right (by omega), e3, hei]
          simp [hl]
        · exact q4 i (by omega) (by omega)
    · cases h

/-- ANY ORDER DOES THE SAME. -/
theorem any_sound (hT : ∀ f sp, T f = some sp → Sound Pg f sp) (htt : TTok Pg tt) {es : Nat → Eff} {fs : List Foot} (hfree : freeB ops fs = true)
    (hcan : ∀ i, i < ops.size → ∃ o, ops[i]? = some o ∧ Can T tt N ops (SD ops es st (fun _ => true) i) o (es i) ∧ fs[i]? = some { rd := footOf T (SD ops es st (fun _ => true) i) o, wr := (es i).upd.map (·.1), new := (es i).new })
    (hQ : ∀ a' w', Good E N ios gh0 (SD ops es st (fun _ => true) ops.size) a' w' → Q .normal a' w') :
    ∀ (fuel : Nat) (listed : Array Bool) (a : Act) (w : World), listed.size = ops.size → Down ops (fun k => listed.getD k false) → (List.range ops.size).countP (fun k => !listed.getD k false) ≤ fuel →
      Good E N ios gh0 (SD ops es st (fun k => listed.getD k false) ops.size) a w → wpAny Pg .any ops Q fuel listed a w := by
  -- which pairs do not meet
  have hf : ∀ j, j < ops.size → (aheads ops.toList []).getD j 0 < 2 ^ j ∧ ∀ i, i < j → ((aheads ops.toList []).getD j 0).testBit i = true ∨ ∃ x y fx fy, ops[i]? = some x ∧ ops[j]? = some y ∧ fs[i]? = some fx ∧ fs[j]? = some fy ∧ Apart ops x y fx fy := by
    intro j hj
    have := (List.all_eq_true.1 hfree) j (List.mem_range.2 hj)
    simp only [Bool.and_eq_true, decide_eq_true_eq, List.all_eq_true, List.mem_range, Bool.or_eq_true] at this
    refine ⟨this.1, fun i hi => ?_⟩
    rcases this.2 i hi with h | h
    · exact .inl h
    · right
      split at h
      · rename_i x y fx fy h1 h2 h3 h4
        exact ⟨x, y, fx, fy, h1, h2, h3, h4, pairB_spec h⟩
      · cases h
  have done : ∀ (listed : Array Bool), listed.size = ops.size → Down ops (fun k => listed.getD k false) → Region.ready .any ops listed = [] → ∀ k, k < ops.size → listed.getD k false = true := by
    intro listed hsz hD hr k
    induction k using Nat.strongRecOn with
    | _ k ih =>
      intro hk
      obtain ⟨o, ho, _, _⟩ := hcan k hk
      by_cases hl : listed.getD k false = true
      · exact hl
      · exfalso
        have : k ∈ Region.ready .any ops listed := mem_ready.2 ⟨by
          have hl : listed.getD k false = false := by simpa using hl
          rw [Array.getD_eq_getD_getElem?] at hl ⊢
          rw [Array.getElem?_eq_getElem (by omega)] at hl ⊢
          exact hl, o, ho, fun e he hb => ih e.on (ahead_lt ho (hf k hk).1 he hb) (by have := ahead_lt ho (hf k hk).1 he hb; omega)⟩
        rw [hr] at this; cases this
  have final : ∀ (listed : Array Bool) (a : Act) (w : World), listed.size = ops.size → Down ops (fun k => listed.getD k false) → Region.ready .any ops listed = [] → Good E N ios gh0 (SD ops es st (fun k => listed.getD k false) ops.size) a w → Q .normal a w := by
    intro listed a w hsz hD hr hg
    have h := done listed hsz hD hr
    rw [SD_congrD (D' := fun _ => true) fun k hk => h k hk] at hg
    exact hQ a w hg
  intro fuel
  induction fuel with
  | zero =>
    intro listed a w hsz hD hcnt hg
    have hr : Region.ready .any ops listed = [] := by
      cases hr : Region.ready .any ops listed with
      | nil => rfl
      | cons k ks =>
        exfalso
        have hk : k ∈ Region.ready .any ops listed := by rw [hr]; simp
        obtain ⟨h1, o, ho, _⟩ := mem_ready.1 hk
        have hlt := (Array.getElem?_eq_some_iff.1 ho).1
        have : 0 < (List.range ops.size).countP (fun k => !listed.getD k false) := by
          rw [List.countP_pos_iff]
          refine ⟨k, List.mem_range.2 hlt, ?_⟩
          rw [Array.getD_eq_getD_getElem?] at h1 ⊢
          rw [Array.getElem?_eq_getElem (by omega)] at h1 ⊢
          simpa using h1
        omega
    exact ⟨hr, final listed a w hsz hD hr hg⟩
  | succ fuel ih =>
    intro listed a w hsz hD hcnt hg
    refine ⟨fun hr => final listed a w hsz hD hr hg, fun i hi => ?_⟩
    obtain ⟨hni, oi, hoi, hpre⟩ := mem_ready.1 hi
    have hlt : i < ops.size := (Array.getElem?_eq_some_iff.1 hoi).1
    have hDi : listed.getD i false = false := by
      rw [Array.getD_eq_getD_getElem?] at hni ⊢
      rw [Array.getElem?_eq_getElem (by omega)] at hni ⊢
      exact hni
    obtain ⟨o, ho, hc, hfi⟩ := hcan i hlt
    rw [hoi] at ho; cases ho
    -- the set with i
    have hset : ∀ k, (listed.setIfInBounds i true).getD k false = if k = i then true else listed.getD k false := by
      intro k
      by_cases e : k = i
      · subst e
        rw [if_pos rfl, Array.getD_eq_getD_getElem?, Array.getElem?_setIfInBounds_self]
        simp [show k < listed.size by omega]
      · rw [if_neg e, Array.getD_eq_getD_getElem?, Array.getElem?_setIfInBounds_ne (Ne.symm e), ← Array.getD_eq_getD_getElem?]
    have hD' : Down ops (fun k => (listed.setIfInBounds i true).getD k false) := by
      intro j o' ho' hj e he hb
      simp only [hset] at hj ⊢
      by_cases ej : j = i
      · subst ej
        rw [hoi] at ho'; cases ho'
        have := hpre e he hb
        rw [this]; simp
      · rw [if_neg ej] at hj
        have := hD j o' ho' hj e he hb
        simp only at this
        rw [this]; simp
    -- those that i does not meet
    have hap : ∀ k, k < ops.size → k ≠ i → ((k < i ∧ listed.getD k false = false) ∨ (i < k ∧ listed.getD k false = true)) → ∃ y fy, ops[k]? = some y ∧ fs[k]? = some fy ∧
        (∀ t, y.dst = some t → t ∉ oi.looksAt ops) ∧ (∀ t, oi.dst = some t → y.dst ≠ some t) ∧ (∀ g ∈ fy.wr, g ∉ footOf T (SD ops es st (fun _ => true) i) oi) ∧ (∀ g ∈ fy.wr, g ∉ (es i).upd.map (·.1)) ∧ (∀ g ∈ fy.new, g ∉ (es i).new) ∧ fy.wr = (es k).upd.map (·.1) ∧ fy.new = (es k).new := by
      intro k hk hne hcase
      obtain ⟨y0, hy0, _, hfk⟩ := hcan k hk
      rcases hcase with ⟨hlt', hfalse⟩ | ⟨hlt', htrue⟩
      · rcases (hf i hlt).2 k hlt' with hb | ⟨x, y, fx, fy, h1, h2, h3, h4, ap⟩
        · have := aheads_down hD' i hoi (by simp [hset]) k hb
          simp only [hset, if_neg hne] at this
          rw [hfalse] at this; cases this
        · rw [hoi] at h2; cases h2
          rw [hfi] at h4; cases h4
          rw [hfk] at h3; cases h3
          exact ⟨x, _, h1, hfk, ap.dy, fun t e e' => ap.dd t e' e, ap.wr, ap.ww, ap.nn, rfl, rfl⟩
      · rcases (hf k hk).2 i hlt' with hb | ⟨x, y, fx, fy, h1, h2, h3, h4, ap⟩
        · have := aheads_down hD k hy0 htrue i hb
          rw [hDi] at this; cases this
        · rw [hoi] at h1; cases h1
          rw [hfi] at h3; cases h3
          rw [hfk] at h4; cases h4
          exact ⟨y, _, h2, hfk, ap.dx, ap.dd, ap.rw, fun g hg hg' => ap.ww g hg' hg, fun g hg hg' => ap.nn g hg' hg, rfl, rfl⟩
    -- the state in which i runs, and the state in which it ran
    have hcanon : SD ops es st (fun _ => true) i = SD ops es st (fun k => decide (k < i)) ops.size := by
      have : ∀ m, i + m ≤ ops.size → SD ops es st (fun k => decide (k < i)) (i + m) = SD ops es st (fun _ => true) i := by
        intro m
        induction m with
        | zero => intro _; exact SD_congrD fun k hk => by simp [show k < i by omega]
        | succ m ih =>
          intro hm
          rw [← Nat.add_assoc]
          simp only [SD, show ¬ (i + m < i) by omega, decide_false, Bool.false_eq_true, if_false]
          exact ih (by omega)
      have := this (ops.size - i) (by omega)
      rw [show i + (ops.size - i) = ops.size by omega] at this
      exact this.symm
    have hdiff : ∀ k, k < ops.size → decide (k < i) ≠ listed.getD k false → k ≠ i ∧ ((k < i ∧ listed.getD k false = false) ∨ (i < k ∧ listed.getD k false = true)) := by
      intro k hk hne
      by_cases e : k = i
      · subst e; rw [hDi] at hne; simp at hne
      · refine ⟨e, ?_⟩
        by_cases hki : k < i
        · exact .inl ⟨hki, by simpa [hki] using hne⟩
        · refine .inr ⟨by omega, ?_⟩
          cases hl : listed.getD k false with
          | true => rfl
          | false => rw [hl] at hne; simp [hki] at hne
    have hdst : ∀ (k : Nat) (y : Oper), ops[k]? = some y → (ops[k]?).bind (·.dst) = y.dst := fun k y h => by rw [h]; rfl
    have hc' : Can T tt N ops (SD ops es st (fun k => listed.getD k false) ops.size) oi (es i) := by
      refine Can_local hc (fun t ht => ?_) (fun g hg => ?_) (fun g hg => ?_)
      · rw [hcanon]
        refine SD_s fun k hk hne => ?_
        obtain ⟨h1, h2⟩ := hdiff k hk hne
        obtain ⟨y, fy, h3, _, h4, _⟩ := hap k hk h1 h2
        rw [hdst k y h3]
        exact fun e => h4 t e ht
      · rw [hcanon] at hg ⊢
        refine SD_o fun k hk hne => ?_
        obtain ⟨h1, h2⟩ := hdiff k hk hne
        obtain ⟨y, fy, h3, _, _, _, h4, _, _, h5, _⟩ := hap k hk h1 h2
        rw [← h5]
        rw [hcanon] at h4
        exact fun e => h4 g e hg
      · rw [hcanon]
        refine SD_used fun k hk hne => ?_
        obtain ⟨h1, h2⟩ := hdiff k hk hne
        obtain ⟨y, fy, h3, _, _, _, _, _, h4, _, h5⟩ := hap k hk h1 h2
        rw [← h5]
        exact fun e => h4 g e hg
    have hins : SD ops es st (fun k => (listed.setIfInBounds i true).getD k false) ops.size = (SD ops es st (fun k => listed.getD k false) ops.size).eff oi.dst (es i) := by
      have hDs : ∀ k, (fun k => (listed.setIfInBounds i true).getD k false) k = if k = i then true else listed.getD k false := hset
      have hne : ∀ k, (fun k => (listed.setIfInBounds i true).getD k false) k ≠ (fun k => listed.getD k false) k → k = i := by
        intro k h
        simp only [hset] at h
        by_cases e : k = i
        · exact e
        · rw [if_neg e] at h; exact absurd rfl h
      have hlater : ∀ k, i < k → k < ops.size → (fun k => (listed.setIfInBounds i true).getD k false) k = true → listed.getD k false = true := by
        intro k h1 h2 h3
        simp only [hset, if_neg (show k ≠ i by omega)] at h3
        exact h3
      refine St.ext' (fun t => ?_) (fun g => ?_) (fun g => ?_)
      · rw [eff_s]
        by_cases hd : oi.dst = some t
        · rw [if_pos hd]
          refine SD_last_s (by simp [hset]) ((hdst i oi hoi).trans hd) hlt fun k h1 h2 h3 => ?_
          obtain ⟨y, fy, q1, _, _, q2, _⟩ := hap k h2 (by omega) (.inr ⟨h1, hlater k h1 h2 h3⟩)
          rw [hdst k y q1]
          exact q2 t hd
        · rw [if_neg hd]
          refine SD_s fun k hk hk' => ?_
          rw [hne k hk', hdst i oi hoi]; exact hd
      · rw [eff_o]
        cases hu : (es i).upd.lookup g with
        | some x =>
          refine SD_last_o (by simp [hset]) hu hlt fun k h1 h2 h3 => ?_
          obtain ⟨y, fy, q1, _, _, _, _, q2, _, q3, _⟩ := hap k h2 (by omega) (.inr ⟨h1, hlater k h1 h2 h3⟩)
          rw [← q3]
          exact fun e => q2 g e (List.mem_map.2 ⟨(g, x), mem_of_lookup hu, rfl⟩)
        | none =>
          refine SD_o fun k hk hk' => ?_
          rw [hne k hk']
          intro hm
          obtain ⟨p, hp, rfl⟩ := List.mem_map.1 hm
          have : ∀ {l : List (Nat × O)}, p ∈ l → l.lookup p.1 ≠ none := by
            intro l
            induction l with
            | nil => intro h; cases h
            | cons q l ih =>
              intro h hn
              simp only [List.lookup] at hn
              split at hn
              · cases hn
              · rename_i hb
                rcases List.mem_cons.1 h with h | h
                · subst h; simp at hb
                · exact ih h hn
          exact this hp hu
      · rw [eff_used]
        by_cases hn : g ∈ (es i).new
        · rw [SD_has_used (by simp [hset]) hn hlt]; simp [hn]
        · have : (es i).new.contains g = false := by simpa using hn
          rw [this, Bool.false_or]
          refine SD_used fun k hk hk' => ?_
          rw [hne k hk']; exact hn
    refine step_sound hT htt hoi hg hc' fun a' w' hg' => ih _ a' w' (by simp [hsz]) hD' ?_ (by rw [hins]; exact hg')
    -- one fewer is left
    have hlt2 : (List.range ops.size).countP (fun k => !(listed.setIfInBounds i true).getD k false) < (List.range ops.size).countP (fun k => !listed.getD k false) := by
      have gen : ∀ l : List Nat, i ∈ l → l.countP (fun k => !(listed.setIfInBounds i true).getD k false) < l.countP (fun k => !listed.getD k false) := by
        intro l
        have hle : ∀ l : List Nat, l.countP (fun k => !(listed.setIfInBounds i true).getD k false) ≤ l.countP (fun k => !listed.getD k false) := fun l => List.countP_mono_left fun k _ h => by
          simp only [hset] at h
          by_cases e : k = i
          · simp [e] at h
          · simpa [e] using h
        induction l with
        | nil => intro h; cases h
        | cons k l ihl =>
          intro h
          simp only [List.countP_cons]
          by_cases e : k = i
          · subst e
            have h1 : (!(listed.setIfInBounds k true).getD k false) = false := by simp [hset]
            have h2 : (!listed.getD k false) = true := by simp [hDi]
            rw [h1, h2]
            exact Nat.lt_succ_of_le (hle l)
          · have := ihl (by rcases List.mem_cons.1 h with h | h; exact absurd h.symm e; exact h)
            have e1 : (!(listed.setIfInBounds i true).getD k false) = (!listed.getD k false) := by rw [hset, if_neg e]
            rw [e1]; omega
      exact gen _ (List.mem_range.2 hlt)
    omega

theorem region_ops (hT : ∀ f sp, T f = some sp → Sound Pg f sp) (htt : TTok Pg tt) {draw : Bool} {K : St → Prop} (h : regionW T tt N ops draw st K) (hg : Good E N ios gh0 st a w)
    (hK : ∀ st' a' w', K st' → Good E N ios gh0 st' a' w' → Q .normal a' w') : (draw = false ∧ wpOps Pg ops Q (List.range ops.size) a w) ∨ (draw = true ∧ wpAny Pg .any ops Q ops.size (Array.replicate ops.size false) a { w with drawn := w.drawn + 1 }) := by
  cases draw with
  | false => exact .inl ⟨rfl, runOps_sound hT htt hK _ h hg⟩
  | true =>
    have h : runNote T tt N ops (List.range ops.size) st [] (fun st' fs => freeB ops fs = true ∧ K st') := h
    rw [List.range_eq_range'] at h
    obtain ⟨es, fs, _, _, ⟨h1, h2⟩, h3⟩ := runNote_run (st := st) ops.size 0 (fun _ => Eff.skip) [] rfl h
    rw [Nat.zero_add] at h2
    refine .inr ⟨rfl, ?_⟩
    refine any_sound hT htt h1 (fun i hi => h3 i (by omega) (by omega)) (fun a' w' hg' => hK _ a' w' h2 hg') ops.size _ a _ (by simp) ?_ ?_ ?_
    · intro j o _ hj
      simp only [Array.getD_eq_getD_getElem?] at hj
      rw [Array.getElem?_replicate] at hj
      split at hj <;> cases hj
    · refine Nat.le_trans List.countP_le_length ?_
      simp
    · obtain ⟨⟨gh, hR, hio⟩, hsz, hdf⟩ := hg
      have e : SD ops es st (fun k => (Array.replicate ops.size false).getD k false) ops.size = st := by
        have : ∀ n, SD ops es st (fun k => (Array.replicate ops.size false).getD k false) n = st := by
          intro n
          induction n with
          | zero => rfl
          | succ n ih =>
            have : (Array.replicate ops.size false).getD n false = false := by
              rw [Array.getD_eq_getD_getElem?, Array.getElem?_replicate]; split <;> rfl
            simp only [SD, this, Bool.false_eq_true, if_false]; exact ih
        exact this _
      rw [e]
      exact ⟨⟨gh, hR.drew _, hio⟩, hsz, hdf⟩
/-- A REGION IS SOUND. -/
theorem region_sound (hT : ∀ f sp, T f = some sp → Sound Pg f sp) (htt : TTok Pg tt) (hm : Pg.follows .mixedOrders = true) {id : Nat} {draw : Bool} {K : St → Prop} (h : regionW T tt N ops draw st K) (hg : Good E N ios gh0 st a w)
    (hK : ∀ st' a' w', K st' → Good E N ios gh0 st' a' w' → Q .normal a' w') : (Code.region id ops draw).wp Pg Q a w := by
  rcases region_ops hT htt h hg hK with ⟨e, h2⟩ | ⟨e, h2⟩
  · rw [e]; exact wp_region h2
  · rw [e]; exact wp_region_any hm h2
end
end Go.Fw

/-
  THE FRAMEWORK, PART W: arrays of the call's own become plain data, words and all: nothing happens in memory.
-/
namespace Go.Fw
set_option linter.unusedSectionVars false
variable [Globs]
set_option linter.unusedVariables false
def plW (gs : List Nat) (o : Nat → O) : W → W
  | .own g => if gs.contains g = true then match o g with
    | .arr _ a i sz l => .p a i (P.mkSl sz l)
    | _ => .own g
    else .own g
  | .vw g lo hi => if gs.contains g = true then match o g with
    | .arr _ a i sz l => .p a i (P.mkSl sz ((l.take hi.nat).drop lo.nat))
    | _ => .vw g lo hi
    else .vw g lo hi
  | x => x
def plV (gs : List Nat) (o : Nat → O) : V → V
  | .one x => .one (plW gs o x)
  | .agg xs => .agg (xs.map (plW gs o))
def plS (gs : List Nat) (o : Nat → O) : S → S
  | .v x => .v (plV gs o x)
  | .tup xs => .tup (xs.map (plV gs o))
  | .no => .no
def plO (gs : List Nat) (o : Nat → O) (g : Nat) : O := match o g with
  | .none => .none
  | .box ws => .box (ws.map (plW gs o))
  | .arr fz a i sz l => .arr (fz || gs.contains g) a i sz l
  | .it s n => .it s n
def plainify (gs : List Nat) (st : St) : St := { s := fun t => plS gs st.o (st.s t), o := fun g => plO gs st.o g, used := st.used }
def isArr : O → Bool
  | .arr _ _ _ _ _ => true
  | _ => false
section
variable {E : Env} {st : St} {gh : Nat → Gh} {w : World} {val : Nat → Value}
theorem plW_names {gs : List Nat} {o : Nat → O} {x : W} {g : Nat} (h : g ∈ (plW gs o x).names) : g ∈ x.names := by
  unfold plW at h
  split at h
  · split at h
    · split at h
      · simp [W.names] at h
      · exact h
    · exact h
  · split at h
    · split at h
      · simp [W.names] at h
      · exact h
    · exact h
  · exact h
theorem plV_names {gs : List Nat} {o : Nat → O} {x : V} {g : Nat} (h : g ∈ (plV gs o x).names) : g ∈ x.names := by
  cases x with
  | one x => exact plW_names h
  | agg xs =>
    simp only [plV, V.names, List.mem_flatMap, List.mem_map] at h ⊢
    obtain ⟨_, ⟨x, hx, rfl⟩, hg⟩ := h
    exact ⟨x, hx, plW_names hg⟩
theorem plS_names {gs : List Nat} {o : Nat → O} {x : S} {g : Nat} (h : g ∈ (plS gs o x).names) : g ∈ x.names := by
  cases x with
  | v x => exact plV_names h
  | tup xs =>
    simp only [plS, S.names, List.mem_flatMap, List.mem_map] at h ⊢
    obtain ⟨_, ⟨x, hx, rfl⟩, hg⟩ := h
    exact ⟨x, hx, plV_names hg⟩
  | no => exact h
/-- The frozen state, as it stands. -/
structure Frz (gs : List Nat) (st st1 : St) : Prop where
  s : st1.s = st.s
  arr : ∀ g a i sz l, (∃ fz, st.o g = .arr fz a i sz l) → st1.o g = .arr ((match st.o g with | .arr fz _ _ _ _ => fz | _ => false) || gs.contains g) a i sz l
  box : ∀ g ws, st.o g = .box ws → st1.o g = .box ws
  none : ∀ g, st.o g = .none → st1.o g = .none
  it : ∀ g s n, st.o g = .it s n → st1.o g = .it s n
  used : st1.used = st.used
theorem frz_of (gs : List Nat) (st : St) : Frz gs st (st.upd (gs.map (Fw.freeze st.o)) []) := by
  have key : ∀ g, (st.upd (gs.map (Fw.freeze st.o)) []).o g = if g ∈ gs then (Fw.freeze st.o g).2 else st.o g := by
    intro g
    show (match (gs.map (Fw.freeze st.o)).lookup g with | some x => x | none => st.o g) = _
    rw [lookup_freeze]
    split <;> rename_i h
    · by_cases hg : g ∈ gs
      · rw [if_pos hg] at h ⊢; cases h; rfl
      · rw [if_neg hg] at h; cases h
    · by_cases hg : g ∈ gs
      · rw [if_pos hg] at h; cases h
      · rw [if_neg hg]
  refine ⟨rfl, fun g a i sz l ⟨fz, h⟩ => ?_, fun g ws h => ?_, fun g h => ?_, fun g s n h => ?_, by funext g; simp [St.upd]⟩
  · rw [key, h]
    by_cases hg : g ∈ gs
    · rw [if_pos hg]; simp [Fw.freeze, h, hg]
    · rw [if_neg hg]; simp [hg]
  · rw [key]
    split
    · simp [Fw.freeze, h]
    · exact h
  · rw [key]
    split
    · simp [Fw.freeze, h]
    · exact h
  · rw [key]
    split
    · simp [Fw.freeze, h]
    · exact h
theorem Rel.plain (h : Rel E st gh val w) (gs : List Nat) (hgs : ∀ g ∈ gs, isArr (st.o g) = true) : Rel E (plainify gs st) gh val w := by
  have hgs' : ∀ g ∈ gs, ∃ fz a i sz l, st.o g = .arr fz a i sz l := fun g hg => by
    have := hgs g hg
    cases ho : st.o g with
    | arr fz a i sz l => exact ⟨fz, a, i, sz, l, rfl⟩
    | _ => rw [ho] at this; cases this
  have h1 := (h.freezes gs hgs').1
  have hf := frz_of gs st
  generalize hst1 : st.upd (gs.map (Fw.freeze st.o)) [] = st1 at h1 hf
  -- objects of the one and of the other
  have oarr : ∀ g fz a i sz l, st1.o g = .arr fz a i sz l → (plainify gs st).o g = .arr fz a i sz l := by
    intro g fz a i sz l hg
    cases ho : st.o g with
    | none => rw [hf.none g ho] at hg; cases hg
    | box ws => rw [hf.box g ws ho] at hg; cases hg
    | it s n => rw [hf.it g s n ho] at hg; cases hg
    | arr fz' a' i' sz' l' =>
      have := hf.arr g a' i' sz' l' ⟨fz', ho⟩
      rw [ho] at this
      rw [this] at hg
      simp only [plainify, plO, ho]
      exact hg
  have oarr' : ∀ g fz a i sz l, (plainify gs st).o g = .arr fz a i sz l → st1.o g = .arr fz a i sz l := by
    intro g fz a i sz l hg
    cases ho : st.o g with
    | none => simp only [plainify, plO, ho] at hg; cases hg
    | box ws => simp only [plainify, plO, ho] at hg; cases hg
    | it s n => simp only [plainify, plO, ho] at hg; cases hg
    | arr fz' a' i' sz' l' =>
      have := hf.arr g a' i' sz' l' ⟨fz', ho⟩
      rw [ho] at this
      simp only [plainify, plO, ho] at hg
      rw [this]; exact hg
  have obox : ∀ g ws, (plainify gs st).o g = .box ws → ∃ ws', st1.o g = .box ws' ∧ st.o g = .box ws' ∧ ws = ws'.map (plW gs st.o) := by
    intro g ws hg
    cases ho : st.o g with
    | none => simp only [plainify, plO, ho] at hg; cases hg
    | arr fz' a' i' sz' l' => simp only [plainify, plO, ho] at hg; cases hg
    | it s n => simp only [plainify, plO, ho] at hg; cases hg
    | box ws' =>
      simp only [plainify, plO, ho, O.box.injEq] at hg
      exact ⟨ws', hf.box g ws' ho, rfl, hg.symm⟩
  have oit : ∀ g s n, (plainify gs st).o g = .it s n → st1.o g = .it s n := by
    intro g s n hg
    cases ho : st.o g with
    | none => simp only [plainify, plO, ho] at hg; cases hg
    | box ws => simp only [plainify, plO, ho] at hg; cases hg
    | arr fz' a' i' sz' l' => simp only [plainify, plO, ho] at hg; cases hg
    | it s' n' =>
      simp only [plainify, plO, ho] at hg
      cases hg
      exact hf.it g s n ho
  have own : ∀ g, ((plainify gs st).o g).owned = (st1.o g).owned := by
    intro g
    cases ho : st.o g with
    | none => rw [hf.none g ho]; simp only [plainify, plO, ho]
    | box ws => rw [hf.box g ws ho]; simp only [plainify, plO, ho]; rfl
    | it s n => rw [hf.it g s n ho]; simp only [plainify, plO, ho]
    | arr fz' a' i' sz' l' =>
      have := hf.arr g a' i' sz' l' ⟨fz', ho⟩
      rw [ho] at this
      rw [this]
      simp only [plainify, plO, ho]
  have hok : E.ok (plainify gs st) gh w = E.ok st1 gh w := by funext a i b; simp only [Env.ok, own]
  -- words that speak as they did
  have same : ∀ {x : W} {v : Value}, RepW E st1 gh w x v → RepW E (plainify gs st) gh w x v := by
    intro x v r
    induction r with
    | p a i x v hx => exact .p a i x v (by rw [hok]; exact hx)
    | nils => exact .nils
    | own g v hv hx => exact .own g v hv fun fz a i sz l hg => hx fz a i sz l (oarr' _ _ _ _ _ _ hg)
    | vw g lo hi v hv hx => exact .vw g lo hi v hv fun fz a i sz l hg => hx fz a i sz l (oarr' _ _ _ _ _ _ hg)
    | box g off v hv hx => exact .box g off v hv fun ws hg => by obtain ⟨ws', e, _, _⟩ := obox g ws hg; exact hx ws' e
    | ep g n off v hv hx => exact .ep g n off v hv fun fz a i sz l hg => hx fz a i sz l (oarr' _ _ _ _ _ _ hg)
    | sp a i row off b o hb hx => exact .sp a i row off b o (by rw [hok]; exact hb) (by rw [hok]; exact hx)
    | gl g => exact .gl g
    | itp g v hv hx => exact .itp g v hv fun s n hg => hx s n (oit g s n hg)
    | gd b x v hx ih => exact .gd b x v ih
    | clo f caps vs hl hx ih => exact .clo f caps vs hl ih
    | no v => exact .no v
  have wd : ∀ {x : W} {v : Value}, RepW E st1 gh w x v → RepW E (plainify gs st) gh w (plW gs st.o x) v := by
    intro x v r
    unfold plW
    split
    · rename_i g
      split
      · rename_i hc
        split
        · rename_i fz a i sz l ho
          have ho1 := hf.arr g a i sz l ⟨fz, ho⟩
          rw [hc, Bool.or_true] at ho1
          cases r with
          | own _ _ hv hx =>
            have hv := hx _ _ _ _ _ ho1
            have hO := h1.objs g
            rw [ho1] at hO
            rw [hv]
            exact .p a i _ _ (by rw [hok]; exact RepP.mkSl hO)
        · exact same r
      · exact same r
    · rename_i g lo hi
      split
      · rename_i hc
        split
        · rename_i fz a i sz l ho
          have ho1 := hf.arr g a i sz l ⟨fz, ho⟩
          rw [hc, Bool.or_true] at ho1
          cases r with
          | vw _ _ _ _ hv hx =>
            obtain ⟨n, m, rfl, rfl, q1, q2, he⟩ := hx _ _ _ _ _ ho1
            have hO := h1.objs g
            rw [ho1] at hO
            rw [he]
            have e1 : (P.int .i64 (n : Int)).nat = n := by simp [P.nat, P.num]
            have e2 : (P.int .i64 (m : Int)).nat = m := by simp [P.nat, P.num]
            rw [e1, e2]
            exact .p a i _ _ (by rw [hok]; exact RepP.mkSl (RepP.sub hO q1 q2))
        · exact same r
      · exact same r
    · exact same r
  have wV : ∀ {x : V} {v : Value}, RepV E st1 gh w x v → RepV E (plainify gs st) gh w (plV gs st.o x) v := by
    intro x v r
    cases r with
    | one x v r => exact .one _ _ (wd r)
    | agg xs cs hl hv hr =>
      refine .agg _ cs (by simpa using hl) hv fun j x v hx hv => ?_
      simp only [List.getElem?_map, Option.map_eq_some_iff] at hx
      obtain ⟨y, hy, rfl⟩ := hx
      exact wd (hr j y v hy hv)
  refine ⟨fun t => ?_, fun g => ?_, ?_, ?_, ?_, h1.wb, h1.frame, h1.size, h1.os, h1.tape, h1.output, ?_, ?_, ?_⟩
  · have hs := h1.slots t
    rw [hf.s] at hs
    show RepS E _ gh w (plS gs st.o (st.s t)) (val t)
    cases hs' : st.s t with
    | v x => rw [hs'] at hs; cases hs with | v _ _ r => exact .v _ _ (wV r)
    | tup xs =>
      rw [hs'] at hs
      generalize hval : val t = vt at hs
      cases hs with
      | tup _ vs hl hr =>
        refine .tup _ vs (by simpa using hl) fun j x v hx hv => ?_
        simp only [List.getElem?_map, Option.map_eq_some_iff] at hx
        obtain ⟨y, hy, rfl⟩ := hx
        exact wV (hr j y v hy hv)
    | no => exact .no _
  · cases ho : (plainify gs st).o g with
    | none => trivial
    | box ws =>
      obtain ⟨ws', e, _, rfl⟩ := obox g ws ho
      have hO := h1.objs g
      rw [e] at hO
      obtain ⟨ad, c, ty, a1, a2, a3, a4, a5⟩ := hO
      refine ⟨ad, c, ty, a1, a2, a3, by simpa using a4, fun j x hx => ?_⟩
      simp only [List.getElem?_map, Option.map_eq_some_iff] at hx
      obtain ⟨y, hy, rfl⟩ := hx
      obtain ⟨v, b1, b2, b3⟩ := a5 j y hy
      exact ⟨v, b1, b2, wd b3⟩
    | arr fz a i sz l =>
      have hO := h1.objs g
      rw [oarr' g fz a i sz l ho] at hO
      cases fz with
      | false => simpa only [RepO, ArrAt, hok] using hO
      | true => simpa only [RepO, hok] using hO
    | it s n =>
      have hO := h1.objs g
      rw [oit g s n ho] at hO
      exact hO
  · intro g g' a a' ha ha'
    rw [own] at ha ha'
    exact h1.inj g g' a a' ha ha'
  · intro g a ha
    rw [own] at ha
    exact h1.wr g a ha
  · intro g a i sz l ad hg
    exact h1.wi g a i sz l ad (oarr' _ _ _ _ _ _ hg)
  · intro t g hg
    exact h.us t g (plS_names hg)
  · intro g g' hg
    cases ho : st.o g with
    | none => simp only [plainify, plO, ho, O.names] at hg; cases hg
    | arr fz a i sz l => simp only [plainify, plO, ho, O.names] at hg; cases hg
    | it s n => simp only [plainify, plO, ho, O.names] at hg; cases hg
    | box ws =>
      simp only [plainify, plO, ho, O.names, List.mem_flatMap, List.mem_map] at hg
      obtain ⟨_, ⟨x, hx, rfl⟩, hg⟩ := hg
      exact h.uo g g' (by rw [ho]; simp only [O.names, List.mem_flatMap]; exact ⟨x, hx, plW_names hg⟩)
  · intro g hg
    refine h.ul g fun e => hg ?_
    simp only [plainify, plO, e]
end
end Go.Fw

/-
  THE FRAMEWORK, PART Y: loops over a function ('for x := range f'): the walk of a round; the law.
-/
namespace Go.Fw
open Go.RowKit
set_option linter.unusedSectionVars false
set_option linter.unusedVariables false
set_option linter.unusedSimpArgs false
variable [Globs]

/-! ### The walk of a round -/
def FR (ro : Option Nat) : Fence := { Fence.wide with round := ro }
theorem FR_fn (ro : Option Nat) (f : FuncId) : (FR ro).fn f := trivial
section
variable {Pg : Program} {ro : Option Nat} {n : Nat} {ops : Array Oper} {Q : Exit → Act → World → Prop}
theorem callsIn_FR {f : FuncId} {args : Array Value} {w : World} {R : Ending → World → Prop} (h : Calls Pg f args w R) : CallsIn (FR ro) n Pg f args w R := callsIn_wide.2 h
theorem calls_FR {f : FuncId} {args : Array Value} {w : World} {R : Ending → World → Prop} (h : CallsIn (FR ro) n Pg f args w R) : Calls Pg f args w R := callsIn_wide.1 h
theorem rowsIn_FR {row : String} {args : Array Value} {w : World} {R : Value → World → Prop} (h : Rows Pg row args w R) : RowsIn (FR ro) n Pg row args w R := by
  intro c cs _
  obtain ⟨v, w', h1, h2⟩ := h c cs
  exact ⟨v, w', h1, stepsIn_wide.2 h2⟩
theorem opIn {o : Oper} (ho : ∀ c, o.op ≠ .defer c) {a : Act} {w : World} {K K' : Act → World → Prop} (hK : ∀ a w, K a w → K' a w) (h : o.wp Pg a w K Q) : o.wpIn (FR ro) n Pg a w K' Q := by
  refine ⟨fun _ _ => trivial, ?_⟩
  rw [Oper.semAt_eq _ _ _ ho]
  unfold Oper.wp at h
  have hd : (FR ro).depth.isSome = true → 1 ≤ n := fun e => absurd e (by simp [FR, Fence.wide])
  generalize (execOp a.eval o).run Pg w = r at *
  cases r with
  | ok x w' =>
    cases x <;> simp only [Oper.upon] at h <;> simp only [Oper.uponIn]
    all_goals first
      | exact hK _ _ h
      | exact ⟨hd, callsIn_FR (Calls.mono h fun e w'' he => by cases e <;> first | exact hK _ _ he | exact he)⟩
      | exact ⟨hd, rowsIn_FR (Rows.mono h fun v w'' he => hK _ _ he)⟩
  | halt x w' => cases x <;> simp only [Oper.upon] at h <;> simp only [Oper.uponIn] <;> exact h
theorem opInOp (ho : ∀ o ∈ ops.toList, ∀ c, o.op ≠ .defer c) (hlo : ¬ LetsOut Q) {i : Nat} {a : Act} {w : World} {K K' : Act → World → Prop} (hK : ∀ a w, K a w → K' a w) (h : wpOp Pg ops Q i K a w) : wpOpIn (FR ro) n Pg ops Q i K' a w := by
  unfold wpOp at h
  unfold wpOpIn
  cases hi : ops[i]? with
  | none => rw [hi] at h; exact hK _ _ h
  | some o =>
    rw [hi] at h
    simp only at h ⊢
    split
    · rename_i hw
      rw [if_pos hw] at h
      rcases h with h | h
      · exact opIn (ho o (by have := (Array.getElem?_eq_some_iff.1 hi).2; rw [← this]; simp)) hK h
      · exact absurd h.2 hlo
    · rename_i hw
      rw [if_neg hw] at h
      exact ⟨fun _ _ => trivial, hK _ _ h⟩
theorem opsIn (ho : ∀ o ∈ ops.toList, ∀ c, o.op ≠ .defer c) (hlo : ¬ LetsOut Q) : ∀ (is : List Nat) (a : Act) (w : World), wpOps Pg ops Q is a w → wpOpsIn (FR ro) n Pg ops Q is a w
  | [], a, w, h => h
  | i :: is, a, w, h => by
    rw [wpOps_cons] at h
    rw [wpOpsIn_cons]
    exact opInOp ho hlo (fun a w => opsIn ho hlo is a w) h
theorem anyIn {md : Region.Mode} (ho : ∀ o ∈ ops.toList, ∀ c, o.op ≠ .defer c) (hlo : ¬ LetsOut Q) : ∀ (fuel : Nat) (listed : Array Bool) (a : Act) (w : World), wpAny Pg md ops Q fuel listed a w → wpAnyIn (FR ro) n Pg md ops Q fuel listed a w
  | 0, listed, a, w, h => h
  | fuel + 1, listed, a, w, h => ⟨h.1, fun i hi => opInOp ho hlo (fun a w => anyIn ho hlo fuel _ a w) (h.2 i hi)⟩
end

/-! ### The law -/
omit [Globs] in
def P.lv : P → Value
  | .int k n => .int k n
  | .bool b => .bool b
  | .str s => .string s
  | _ => undef
def P.lit : P → Bool
  | .int _ _ => true
  | .bool _ => true
  | .str _ => true
  | _ => false
theorem P.lit_rep {w : World} {ok : Nat → Prop} {x : P} (h : x.lit = true) : RepP w ok x x.lv := by
  cases x <;> first | exact .int _ _ | exact .bool _ | exact .str _ | cases h
omit [Globs] in
/-- The function value v hands on these rows, one by one, wherever the blocks S are as they are in w; D: blocks of its own. -/
def IterOf (Pg : Program) (w : World) (S : List Nat) (rows : List (List P)) (v : Value) : Prop :=
  ∃ gf lb, v = .func (.func gf) #[] lb ∧ (∀ (args : Array Value) (w : World), (callFunc gf args).run Pg w = .ok (.enter gf args) w) ∧
    ∀ (l : Nat) (J : Nat → List Nat → World → Prop) (W : World), (∀ k D A, J k D A → ∀ b ∈ S, A.heap[b]? = w.heap[b]?) → (∀ k D A B D', J k D A → Grows A B → (∀ b ∈ D', b ∈ D ∨ (A.heap.size ≤ b ∧ b < B.heap.size)) → J k D' B) →
      (∀ k row D A, rows[k]? = some row → J k D A → YieldAt Fence.wide 0 Pg l (row.map P.lv).toArray A fun e B => e = .returned (.bool true) ∧ J (k + 1) D B ∧ ∀ b ∈ D, B.heap[b]? = A.heap[b]?) →
      J 0 [] W → Calls Pg gf (#[.func (.yield l) #[] #[]] ++ lb) W fun e B => (∃ v, e = .returned v) ∧ ∃ D, J rows.length D B
omit [Globs] in
theorem IterOf.mono {Pg : Program} {w w' : World} {S : List Nat} {rows : List (List P)} {v : Value} (h : ∀ b ∈ S, w'.heap[b]? = w.heap[b]?) (hi : IterOf Pg w S rows v) : IterOf Pg w' S rows v := by
  obtain ⟨gf, lb, h1, h2, h3⟩ := hi
  exact ⟨gf, lb, h1, h2, fun l J W hJ => h3 l J W fun k D A hA b hb => (hJ k D A hA b hb).trans (h b hb)⟩
section
variable {Pg : Program}
theorem wp_range {g : Operand} {ps : Array Tmp} {x y : Code} {Q : Exit → Act → World → Prop} {a : Act} {w : World} {S : List Nat} {rows : List (List P)} (hit : IterOf Pg w S rows (a.eval g)) (hlen : ∀ row ∈ rows, row.length = ps.size)
    (J : Nat → List Nat → World → Prop) (hS : ∀ k D A, J k D A → ∀ b ∈ S, A.heap[b]? = w.heap[b]?) (hgrow : ∀ k D A B D', J k D A → Grows A B → (∀ b ∈ D', b ∈ D ∨ (A.heap.size ≤ b ∧ b < B.heap.size)) → J k D' B)
    (hturn : ∀ k D A b o o', w.heap.size ≤ b → b ∉ D → J k D A → A.heap[b]? = some o → quiet o = true → J k D (A.putObj b o')) (h0 : J 0 [] w)
    (hround : ∀ k row D A, rows[k]? = some row → J k D A → ∀ l, ∃ a₁, (∀ (K : Act → World → Prop) W, K a₁ W → x.wpIn (FR (some l)) 0 Pg (Exit.then K (fun _ _ _ => False)) { tmps := (ps.zip (row.map P.lv).toArray).foldl (fun t (p, v) => t.setIfInBounds p v) a.tmps, defers := [] } W) ∧
      y.wpIn (FR (some l)) 0 Pg (fun e _ B => e = .normal ∧ J (k + 1) D B ∧ (∀ b ∈ D, B.heap[b]? = A.heap[b]?) ∧ ∀ b o, A.heap[b]? = some o → quiet o = true → w.heap.size ≤ b → B.heap[b]? = some o) a₁ A)
    (hdone : ∀ D B D', w.heap.size ≤ D → J rows.length D' B → B.heap[D]? = some (.deferred (some [])) → Q .normal { a with defers := { target := .collected D, args := #[] } :: a.defers } B) :
    (Code.rangeFunc g ps x y).wp Pg Q a w := by
  obtain ⟨gf, lb, hg, eg, hseq⟩ := hit
  rw [← wpIn_wide (n := 1)]
  refine wpIn_rangeFunc ?_
  intro fn hfn
  obtain ⟨rec, hrec⟩ : ∃ rec : LoopState → Option Code → Loop, rec = fun st pe => { state := st, pending := pe, fn, tmps := a.tmps, params := ps, assign := x, body := y, defers := w.heap.size } := ⟨_, rfl⟩
  obtain ⟨W1, hW1⟩ : ∃ W1, (w.alloc (.deferred (some []))).alloc (.loop (rec .ready none)) = W1 := ⟨_, rfl⟩
  have hL1 : W1.heap[w.heap.size + 1]? = some (.loop (rec .ready none)) := by
    rw [← hW1]; have := World.alloc_heap_new (w.alloc (.deferred (some []))) (.loop (rec .ready none)); rwa [World.size_alloc] at this
  have hK1 : W1.heap[w.heap.size]? = some (.deferred (some [])) := by
    rw [← hW1]; exact (Below.heap_alloc _ _ _ (by simp)).trans (World.alloc_heap_new w _)
  have hJ1 : J 0 [] W1 := by rw [← hW1]; exact hgrow _ _ _ _ [] (hgrow _ _ _ _ [] h0 (Grows.alloc _ _) (fun b hb => by cases hb)) (Grows.alloc _ _) (fun b hb => by cases hb)
  refine ⟨w.heap.size + 1, [{ target := .collected w.heap.size, args := #[] }], W1, { target := .fn (.func gf) lb, args := #[.func (.yield (w.heap.size + 1)) #[] #[]] }, W1, gf,
    #[.func (.yield (w.heap.size + 1)) #[] #[]] ++ lb, W1, ?_, ?_, fun _ _ => trivial, ?_, fun _ => Nat.le_refl _, ?_⟩
  · rw [← hW1, hrec]; exact run_enterLoop_outer _ _ _ _ _
  · simp only [resolve, hg]
    simp [go_sem]
  · simp [invoke, go_sem, eg]
  refine callsIn_wide.2 (Calls.mono (hseq (w.heap.size + 1)
      (fun k D A => J k D A ∧ A.heap[w.heap.size + 1]? = some (.loop (rec .ready none)) ∧ A.heap[w.heap.size]? = some (.deferred (some [])) ∧ ∀ b ∈ D, w.heap.size + 1 < b)
      W1 (fun k D A h => hS k D A h.1) (fun k D A B D' h hg hD => ?_) ?_ ⟨hJ1, hL1, hK1, fun b hb => by cases hb⟩) ?_)
  · have lt : ∀ {i o}, A.heap[i]? = some o → i < A.heap.size := fun h => (Array.getElem?_eq_some_iff.1 h).1
    refine ⟨hgrow k D A B D' h.1 hg hD, (hg.same _ (lt h.2.1)).trans h.2.1, (hg.same _ (lt h.2.2.1)).trans h.2.2.1, fun b hb => ?_⟩
    rcases hD b hb with hb | hb
    · exact h.2.2.2 b hb
    · exact Nat.lt_of_lt_of_le (lt h.2.1) hb.1
  · rintro k row D A hrow ⟨hj, hl, hk, hD⟩
    have hy := run_yield (P := Pg) (args := (row.map P.lv).toArray) hl (by rw [hrec]; simpa using hlen row (List.mem_of_getElem? hrow))
    rw [hrec] at hy
    have hlt : w.heap.size + 1 < A.heap.size := (Array.getElem?_eq_some_iff.1 hl).1
    have hnD : w.heap.size + 1 ∉ D := fun hm => Nat.lt_irrefl _ (hD _ hm)
    have hnD2 : ∀ b ∈ D, b ≠ w.heap.size + 1 := fun b hb e => hnD (e ▸ hb)
    have hj2 : J k D (A.putObj (w.heap.size + 1) (.loop { rec .ready none with state := .busy })) := hturn _ _ _ _ _ _ (by omega) hnD hj hl rfl
    obtain ⟨a₁, hx, hbody⟩ := hround k row D _ hrow hj2 (w.heap.size + 1)
    refine ⟨fn, _, x, y, hy, roundIn_of_wpIn hfn (hx _ _ ⟨_, run_beginRound hl (by rw [hrec]), wpIn_mono hbody ?_⟩)⟩
    rintro e a3 B ⟨rfl, hj3, hkD, hkeep⟩
    have hl2 : (A.putObj (w.heap.size + 1) (.loop { rec .ready none with state := .busy })).heap[w.heap.size + 1]? = some (.loop { rec .ready none with state := .busy }) := World.putObj_heap_same hlt
    have hk2 : (A.putObj (w.heap.size + 1) (.loop { rec .ready none with state := .busy })).heap[w.heap.size]? = some (.deferred (some [])) := (World.putObj_heap_other (by omega)).trans hk
    have hl3 := hkeep _ _ hl2 rfl (by omega)
    have hk3 := hkeep _ _ hk2 rfl (by omega)
    have hr := run_endRound (P := Pg) none hl3
    refine ⟨_, _, hr, rfl, ⟨hturn _ _ _ _ _ _ (by omega) hnD hj3 hl3 rfl, ?_, (World.putObj_heap_other (by omega)).trans hk3, hD⟩, fun b hb => ?_⟩
    · rw [World.putObj_heap_same (Array.getElem?_eq_some_iff.1 hl3).1, hrec]; rfl
    · rw [World.putObj_heap_other (hnD2 b hb), hkD b hb, World.putObj_heap_other (hnD2 b hb)]
  · rintro e B ⟨⟨v, rfl⟩, D, hj, hl, hk, hD⟩
    have hnD : w.heap.size + 1 ∉ D := fun hm => Nat.lt_irrefl _ (hD _ hm)
    refine ⟨none, _, by have := run_endLoop (P := Pg) hl (by rw [hrec]; simp); rw [hrec] at this; exact this, hdone _ _ D (Nat.le_refl _) (hturn _ _ _ _ _ _ (by omega) hnD hj hl rfl) ((World.putObj_heap_other (by omega)).trans hk)⟩
end
end Go.Fw

