/-
  What the functions of the seat compute, printed by a program (wip/gen).
-/
import Derived.Test.YtdddhnagekhihaaFgA
import Derived.Test.YtdddhnagekhihaaFgL
import Derived.Test.YtdddhnagekhihaaFgT
namespace Go.Fg.Ytdddhnagekhihaa
open Go.Fw Go.Proofs Go.Fw.Ytdddhnagekhihaa
set_option linter.unusedVariables false
set_option maxRecDepth 100000
def f26 : Int → Int → List Int → Option (List Int) := fDel
noncomputable def sp26 : TSpec := spDel
theorem sound26 : TSound Try.prog 26 sp26 := lsound26
def f30 : Int → List FetchS → Option (List (Int × Int)) := fTou
noncomputable def sp30 : TSpec := spTou
theorem sound30 : TSound Try.prog 30 sp30 := lsound30
def f33 : List Int → Option (List Int) := fCmp
noncomputable def sp33 : TSpec := spCmp
theorem sound33 : TSound Try.prog 33 sp33 := lsound33
def f27 : Int → List Int → List Int → Option (List Int) := fIns
noncomputable def sp27 : TSpec := spIns
theorem sound27 : TSound Try.prog 27 sp27 := lsound27
def f32 : List Int → Option (List Int) := fSrt
noncomputable def sp32 : TSpec := spSrt
theorem sound32 : TSound Try.prog 32 sp32 := lsound32
/-- warmpath/warmpathdraw.New -/
noncomputable def f8 (p0 : (List Int)) (p1 : Int) : Option ((List Int) × Int) :=
  let n0 : Int := ((List.length p0) : Int)
  let n1 : Bool := (decide (p1 < n0))
  Option.bind (
    bif n1 then
      ck (slOk (0 : Int) p1 (List.length p0)) <|
      let n2 : (List Int) := (List.drop (Int.toNat (0 : Int)) (List.take (Int.toNat p1) p0))
      some n2
    else
      some p0) fun (s3 : (List Int)) =>
  some (s3, (0 : Int))
noncomputable def sp8 : TSpec := ⟨sg8, fun x => f8 x.1 x.2⟩
theorem sound8 : TSound Try.prog 8 sp8 :=
  tsound_of (T := TTab.of []) (ety := ety) [.tmp 4] an8 Try.func8 rfl rfl rfl (show sg8.er.ok = true by decide +kernel) rfl (show sg8.nargs ≤ Try.f8.ntmps by decide +kernel) rfl (TAll.sound trivial) ttok mixed fun x => by kernel_rfl

/-- (*warmpath/warmpathdraw.Codes).Next -/
noncomputable def f9S (rec : Int → (List Int) → Int → Option (Int × ((List Int) × Int))) (p0 : Int) (p1 : (List Int)) (p2 : Int) : Option (Int × ((List Int) × Int)) :=
  Option.bind (
    let n0 : Int := ((List.length p1) : Int)
    let n1 : Bool := (decide (n0 ≤ p2))
    bif n1 then
      some true
    else
      let n2 : Bool := (decide (p0 < (1 : Int)))
      let n3 : Bool := n2
      some n3) fun (s4 : Bool) =>
  bif s4 then
    some ((0 : Int), (p1, p2))
  else
    ck (inB p2 (List.length p1)) <|
    let n5 : Int := (List.getD p1 (Int.toNat p2) (0 : Int))
    let n6 : Int := (w64 n5)
    let n7 : Int := (w64 (p2 + (1 : Int)))
    let n8 : Bool := (decide ((256 : Int) < p0))
    bif n8 then
      let n9 : Int := (w64 ((256 : Int) * n6))
      Option.bind (rec (256 : Int) p1 n7) fun (c10 : (Int × ((List Int) × Int))) =>
      let n11 : Int := (w64 (n9 + c10.1))
      ck (!(decide (p0 = (0 : Int)))) <|
      let n12 : Int := (Int.tmod n11 p0)
      some (n12, (c10.2.1, c10.2.2))
    else
      ck (!(decide (p0 = (0 : Int)))) <|
      let n13 : Int := (Int.tmod n6 p0)
      some (n13, (p1, n7))
noncomputable def f9N : Nat → Int → (List Int) → Int → Option (Int × ((List Int) × Int))
  | 0 => fun _ _ _ => none
  | n + 1 => f9S (f9N n)
noncomputable def sp9N (n : Nat) : TSpec := ⟨sg9, fun x => f9N n x.1 x.2.1 x.2.2⟩
theorem sound9N : ∀ n, TSound Try.prog 9 (sp9N n)
  | 0 => tsound_none Try.func9 rfl rfl (show sg9.er.ok = true by decide +kernel) fun x => rfl
  | n + 1 => tsound_of (T := TTab.of [(9, sp9N n)]) (ety := ety) [.tmp 4] an9 Try.func9 rfl rfl rfl (show sg9.er.ok = true by decide +kernel) rfl (show sg9.nargs ≤ Try.f9.ntmps by decide +kernel) rfl (TAll.sound ⟨sound9N n, trivial⟩) ttok mixed fun x => by kernel_rfl
/-- (*warmpath/warmpathdraw.Codes).Next -/
noncomputable def f9 (p0 : Int) (p1 : (List Int)) (p2 : Int) : Option (Int × ((List Int) × Int)) := f9N 1048576 p0 p1 p2
noncomputable def sp9 : TSpec := ⟨sg9, fun x => f9 x.1 x.2.1 x.2.2⟩
theorem sound9 : TSound Try.prog 9 sp9 := sound9N 1048576

/-- warmpath/warmpathref01.Ints -/
noncomputable def f12 (p0 : (List Int)) (p1 : (List Int)) : Option Bool :=
  let n0 : Int := ((List.length p0) : Int)
  let n1 : Int := ((List.length p1) : Int)
  let n2 : Bool := (!(decide (n0 = n1)))
  bif n2 then
    some false
  else
    bindE (
      loopM (fun (s3 : Int) =>
        let n4 : Int := ((List.length p0) : Int)
        let n5 : Bool := (decide (s3 < n4))
        bif n5 then
          ck (inB s3 (List.length p0)) <|
          let n6 : Int := (List.getD p0 (Int.toNat s3) (0 : Int))
          ck (inB s3 (List.length p1)) <|
          let n7 : Int := (List.getD p1 (Int.toNat s3) (0 : Int))
          let n8 : Bool := (!(decide (n6 = n7)))
          bif n8 then
            some (.inr (.inr false))
          else
            let n9 : Int := (w64 (s3 + (1 : Int)))
            some (.inl n9)
        else
          some (.inr (.inl ()))) (0 : Int)) fun (s10 : PUnit) =>
    some true
noncomputable def sp12 : TSpec := ⟨sg12, fun x => f12 x.1 x.2⟩
theorem sound12 : TSound Try.prog 12 sp12 :=
  tsound_of (T := TTab.of []) (ety := ety) [.tmp 4] an12 Try.func12 rfl rfl rfl (show sg12.er.ok = true by decide +kernel) rfl (show sg12.nargs ≤ Try.f12.ntmps by decide +kernel) rfl (TAll.sound trivial) ttok mixed fun x => by kernel_rfl

/-- (*warmpath/warmpathdraw.Codes).Trace -/
noncomputable def f13 (p0 : Int) (p1 : (List Int)) (p2 : Int) : Option ((List Int) × (Int × (List FetchS))) :=
  let n0 : Int := (w64 (p0 + (1 : Int)))
  Option.bind (f9 n0 p1 p2) fun (c1 : (Int × ((List Int) × Int))) =>
  Option.bind (
    loopM (fun (s2 : (Int × ((List Int) × (Int × (List FetchS))))) =>
      let n3 : Bool := (decide ((0 : Int) < s2.1))
      bif n3 then
        Option.bind (f9 (80 : Int) s2.2.1 s2.2.2.1) fun (c4 : (Int × ((List Int) × Int))) =>
        Option.bind (f9 (10 : Int) c4.2.1 c4.2.2) fun (c5 : (Int × ((List Int) × Int))) =>
        let n6 : Int := (w64 ((1 : Int) + c5.1))
        Option.bind (f9 (6 : Int) c5.2.1 c5.2.2) fun (c7 : (Int × ((List Int) × Int))) =>
        let n8 : (List FetchS) := [(FetchS.mk c4.1 n6 c7.1)]
        ck (true && (decide ((((List.length s2.2.2.2) + (List.length n8)) * (24 : Nat)) ≤ (140737488355328 : Nat)))) <|
        let n9 : (List FetchS) := (s2.2.2.2 ++ n8)
        let n10 : Int := (w64 (s2.1 - (1 : Int)))
        some (.inl (n10, (c7.2.1, (c7.2.2, n9))))
      else
        some (.inr (s2.2.1, (s2.2.2.1, s2.2.2.2)))) (c1.1, (c1.2.1, (c1.2.2, ([] : (List FetchS)))))) fun (s11 : ((List Int) × (Int × (List FetchS)))) =>
  some (s11.1, (s11.2.1, s11.2.2))
noncomputable def sp13 : TSpec := ⟨sg13, fun x => f13 x.1 x.2.1 x.2.2⟩
theorem sound13 : TSound Try.prog 13 sp13 :=
  tsound_of (T := TTab.of [(9, sp9)]) (ety := ety) [.tmp 4] an13 Try.func13 rfl rfl rfl (show sg13.er.ok = true by decide +kernel) rfl (show sg13.nargs ≤ Try.f13.ntmps by decide +kernel) rfl (TAll.sound ⟨sound9, trivial⟩) ttok mixed fun x => by kernel_rfl

/-- (*warmpath/warmpathdraw.Codes).Model -/
noncomputable def f15 (p0 : (List Int)) (p1 : Int) : Option (Int × (Int × (Int × (Int × (Int × (Int × (Int × (Int × (Int × (Int × (Int × (Int × ((List Int) × Int))))))))))))) :=
  Option.bind (f9 (2 : Int) p0 p1) fun (c0 : (Int × ((List Int) × Int))) =>
  let n1 : Int := (w64 ((1 : Int) + c0.1))
  Option.bind (f9 (20 : Int) c0.2.1 c0.2.2) fun (c2 : (Int × ((List Int) × Int))) =>
  Option.bind (f9 (30 : Int) c2.2.1 c2.2.2) fun (c3 : (Int × ((List Int) × Int))) =>
  Option.bind (f9 (100 : Int) c3.2.1 c3.2.2) fun (c4 : (Int × ((List Int) × Int))) =>
  Option.bind (f9 (6 : Int) c4.2.1 c4.2.2) fun (c5 : (Int × ((List Int) × Int))) =>
  Option.bind (f9 (6 : Int) c5.2.1 c5.2.2) fun (c6 : (Int × ((List Int) × Int))) =>
  Option.bind (f9 (4 : Int) c6.2.1 c6.2.2) fun (c7 : (Int × ((List Int) × Int))) =>
  let n8 : Bool := (decide ((0 : Int) < c7.1))
  Option.bind (
    bif n8 then
      let n9 : (List Int) := [(4 : Int), (8 : Int), (16 : Int), (7 : Int)]
      Option.bind (f9 (4 : Int) c7.2.1 c7.2.2) fun (c10 : (Int × ((List Int) × Int))) =>
      ck (inB c10.1 (List.length n9)) <|
      let n11 : Int := (List.getD n9 (Int.toNat ((Int.toNat c10.1) : Int)) (0 : Int))
      Option.bind (f9 (4 : Int) c10.2.1 c10.2.2) fun (c12 : (Int × ((List Int) × Int))) =>
      let n13 : Int := (w64 ((1 : Int) + c12.1))
      Option.bind (f9 (3 : Int) c12.2.1 c12.2.2) fun (c14 : (Int × ((List Int) × Int))) =>
      let n15 : Int := (w64 ((1 : Int) + c14.1))
      some (c14.2.1, (c14.2.2, (n1, (c2.1, (c3.1, (c4.1, (c5.1, (c6.1, (n11, (n13, (n15, ((0 : Int), ((0 : Int), (0 : Int))))))))))))))
    else
      some (c7.2.1, (c7.2.2, (n1, (c2.1, (c3.1, (c4.1, (c5.1, (c6.1, ((0 : Int), ((0 : Int), ((0 : Int), ((0 : Int), ((0 : Int), (0 : Int))))))))))))))) fun (s16 : ((List Int) × (Int × (Int × (Int × (Int × (Int × (Int × (Int × (Int × (Int × (Int × (Int × (Int × Int)))))))))))))) =>
  Option.bind (f9 (4 : Int) s16.1 s16.2.1) fun (c17 : (Int × ((List Int) × Int))) =>
  let n18 : Bool := (decide ((0 : Int) < c17.1))
  Option.bind (
    bif n18 then
      let n19 : (List Int) := [(16 : Int), (32 : Int), (64 : Int), (10 : Int)]
      Option.bind (f9 (4 : Int) c17.2.1 c17.2.2) fun (c20 : (Int × ((List Int) × Int))) =>
      ck (inB c20.1 (List.length n19)) <|
      let n21 : Int := (List.getD n19 (Int.toNat ((Int.toNat c20.1) : Int)) (0 : Int))
      Option.bind (f9 (4 : Int) c20.2.1 c20.2.2) fun (c22 : (Int × ((List Int) × Int))) =>
      let n23 : Int := (w64 ((1 : Int) + c22.1))
      some (c22.2.1, (c22.2.2, (s16.2.2.1, (s16.2.2.2.1, (s16.2.2.2.2.1, (s16.2.2.2.2.2.1, (s16.2.2.2.2.2.2.1, (s16.2.2.2.2.2.2.2.1, (s16.2.2.2.2.2.2.2.2.1, (s16.2.2.2.2.2.2.2.2.2.1, (s16.2.2.2.2.2.2.2.2.2.2.1, (n21, (n23, s16.2.2.2.2.2.2.2.2.2.2.2.2.2)))))))))))))
    else
      some (c17.2.1, (c17.2.2, (s16.2.2.1, (s16.2.2.2.1, (s16.2.2.2.2.1, (s16.2.2.2.2.2.1, (s16.2.2.2.2.2.2.1, (s16.2.2.2.2.2.2.2.1, (s16.2.2.2.2.2.2.2.2.1, (s16.2.2.2.2.2.2.2.2.2.1, (s16.2.2.2.2.2.2.2.2.2.2.1, (s16.2.2.2.2.2.2.2.2.2.2.2.1, (s16.2.2.2.2.2.2.2.2.2.2.2.2.1, s16.2.2.2.2.2.2.2.2.2.2.2.2.2)))))))))))))) fun (s24 : ((List Int) × (Int × (Int × (Int × (Int × (Int × (Int × (Int × (Int × (Int × (Int × (Int × (Int × Int)))))))))))))) =>
  Option.bind (f9 (4 : Int) s24.1 s24.2.1) fun (c25 : (Int × ((List Int) × Int))) =>
  let n26 : Bool := (decide ((0 : Int) < c25.1))
  Option.bind (
    bif n26 then
      Option.bind (f9 (16 : Int) c25.2.1 c25.2.2) fun (c27 : (Int × ((List Int) × Int))) =>
      let n28 : Int := (w64 ((1 : Int) + c27.1))
      some (c27.2.1, (c27.2.2, (s24.2.2.1, (s24.2.2.2.1, (s24.2.2.2.2.1, (s24.2.2.2.2.2.1, (s24.2.2.2.2.2.2.1, (s24.2.2.2.2.2.2.2.1, (s24.2.2.2.2.2.2.2.2.1, (s24.2.2.2.2.2.2.2.2.2.1, (s24.2.2.2.2.2.2.2.2.2.2.1, (s24.2.2.2.2.2.2.2.2.2.2.2.1, (s24.2.2.2.2.2.2.2.2.2.2.2.2.1, n28)))))))))))))
    else
      some (c25.2.1, (c25.2.2, (s24.2.2.1, (s24.2.2.2.1, (s24.2.2.2.2.1, (s24.2.2.2.2.2.1, (s24.2.2.2.2.2.2.1, (s24.2.2.2.2.2.2.2.1, (s24.2.2.2.2.2.2.2.2.1, (s24.2.2.2.2.2.2.2.2.2.1, (s24.2.2.2.2.2.2.2.2.2.2.1, (s24.2.2.2.2.2.2.2.2.2.2.2.1, (s24.2.2.2.2.2.2.2.2.2.2.2.2.1, s24.2.2.2.2.2.2.2.2.2.2.2.2.2)))))))))))))) fun (s29 : ((List Int) × (Int × (Int × (Int × (Int × (Int × (Int × (Int × (Int × (Int × (Int × (Int × (Int × Int)))))))))))))) =>
  some (s29.2.2.1, (s29.2.2.2.1, (s29.2.2.2.2.1, (s29.2.2.2.2.2.1, (s29.2.2.2.2.2.2.1, (s29.2.2.2.2.2.2.2.1, (s29.2.2.2.2.2.2.2.2.1, (s29.2.2.2.2.2.2.2.2.2.1, (s29.2.2.2.2.2.2.2.2.2.2.1, (s29.2.2.2.2.2.2.2.2.2.2.2.1, (s29.2.2.2.2.2.2.2.2.2.2.2.2.1, (s29.2.2.2.2.2.2.2.2.2.2.2.2.2, (s29.1, s29.2.1)))))))))))))
noncomputable def sp15 : TSpec := ⟨sg15, fun x => f15 x.1 x.2⟩
theorem sound15 : TSound Try.prog 15 sp15 :=
  tsound_of (T := TTab.of [(9, sp9)]) (ety := ety) [.cell 2 34] an15 Try.func15 rfl rfl rfl (show sg15.er.ok = true by decide +kernel) rfl (show sg15.nargs ≤ Try.f15.ntmps by decide +kernel) rfl (TAll.sound ⟨sound9, trivial⟩) ttok mixed fun x => by kernel_rfl

/-- slices.Index[[]int,int] -/
noncomputable def f24 (p0 : (List Int)) (p1 : Int) : Option Int :=
  let n0 : Int := ((List.length p0) : Int)
  bindE (
    loopM (fun (s1 : Int) =>
      let n2 : Bool := (decide (s1 < n0))
      bif n2 then
        ck (inB s1 (List.length p0)) <|
        let n3 : Int := (List.getD p0 (Int.toNat s1) (0 : Int))
        let n4 : Bool := (decide (p1 = n3))
        bif n4 then
          some (.inr (.inr s1))
        else
          let n5 : Int := (w64 (s1 + (1 : Int)))
          some (.inl n5)
      else
        some (.inr (.inl ()))) (0 : Int)) fun (s6 : PUnit) =>
  some (-1 : Int)
noncomputable def sp24 : TSpec := ⟨sg24, fun x => f24 x.1 x.2⟩
theorem sound24 : TSound Try.prog 24 sp24 :=
  tsound_of (T := TTab.of []) (ety := ety) [.tmp 4] an24 Try.func24 rfl rfl rfl (show sg24.er.ok = true by decide +kernel) rfl (show sg24.nargs ≤ Try.f24.ntmps by decide +kernel) rfl (TAll.sound trivial) ttok mixed fun x => by kernel_rfl

/-- slices.Clone[[]int,int] -/
noncomputable def f25 (p0 : (List Int)) : Option (List Int) :=
  bif (List.isEmpty p0) then
    both (
      some ([] : (List Int))) (
      ck (true && (decide ((((List.length ([] : (List Int))) + (List.length p0)) * (8 : Nat)) ≤ (140737488355328 : Nat)))) <|
      let n0 : (List Int) := (([] : (List Int)) ++ p0)
      some n0)
  else
    ck (true && (decide ((((List.length ([] : (List Int))) + (List.length p0)) * (8 : Nat)) ≤ (140737488355328 : Nat)))) <|
    let n1 : (List Int) := (([] : (List Int)) ++ p0)
    some n1
noncomputable def sp25 : TSpec := ⟨sg25, fun x => f25 x⟩
theorem sound25 : TSound Try.prog 25 sp25 :=
  tsound_of (T := TTab.of []) (ety := ety) [.tmp 2] an25 Try.func25 rfl rfl rfl (show sg25.er.ok = true by decide +kernel) rfl (show sg25.nargs ≤ Try.f25.ntmps by decide +kernel) rfl (TAll.sound trivial) ttok mixed fun x => by kernel_rfl

/-- warmpath/warmpathref17.First -/
noncomputable def f28 (p0 : (List Int)) (p1 : Int) (p2 : Int) : Option ((List Int) × Bool) :=
  let n0 : (List Int) := [p1]
  Option.bind (
    loopM (fun (s1 : (Bool × (Int × (List Int)))) =>
      let n2 : Int := ((List.length p0) : Int)
      let n3 : Bool := (decide (s1.2.1 < n2))
      bif n3 then
        ck (inB s1.2.1 (List.length p0)) <|
        let n4 : Int := (List.getD p0 (Int.toNat s1.2.1) (0 : Int))
        let n5 : Bool := (decide (n4 = p1))
        Option.bind (
          bif n5 then
            some (true, s1.2.2)
          else
            ck (inB s1.2.1 (List.length p0)) <|
            let n6 : Int := (List.getD p0 (Int.toNat s1.2.1) (0 : Int))
            let n7 : (List Int) := [n6]
            ck (true && (decide ((((List.length s1.2.2) + (List.length n7)) * (8 : Nat)) ≤ (140737488355328 : Nat)))) <|
            let n8 : (List Int) := (s1.2.2 ++ n7)
            some (s1.1, n8)) fun (s9 : (Bool × (List Int))) =>
        let n10 : Int := (w64 (s1.2.1 + (1 : Int)))
        some (.inl (s9.1, (n10, s9.2)))
      else
        some (.inr (s1.1, s1.2.2))) (false, ((0 : Int), n0))) fun (s11 : (Bool × (List Int))) =>
  let n12 : Int := ((List.length s11.2) : Int)
  let n13 : Bool := (decide (p2 < n12))
  Option.bind (
    bif n13 then
      ck (slOk (0 : Int) p2 (List.length s11.2)) <|
      some (List.drop (Int.toNat (0 : Int)) (List.take (Int.toNat p2) s11.2))
    else
      some s11.2) fun (s14 : (List Int)) =>
  some (s14, s11.1)
noncomputable def sp28 : TSpec := ⟨sg28, fun x => f28 x.1 x.2.1 x.2.2⟩
theorem sound28 : TSound Try.prog 28 sp28 :=
  tsound_of (T := TTab.of []) (ety := ety) [.tmp 6, .tmp 7] an28 Try.func28 rfl rfl rfl (show sg28.er.ok = true by decide +kernel) rfl (show sg28.nargs ≤ Try.f28.ntmps by decide +kernel) rfl (TAll.sound trivial) ttok mixed fun x => by kernel_rfl

/-- warmpath/warmpathref17.Total -/
noncomputable def f29 (p0 : (List Int)) : Option Int :=
  Option.bind (
    loopM (fun (s0 : (Int × Int)) =>
      let n1 : Int := ((List.length p0) : Int)
      let n2 : Bool := (decide (s0.2 < n1))
      bif n2 then
        ck (inB s0.2 (List.length p0)) <|
        let n3 : Int := (List.getD p0 (Int.toNat s0.2) (0 : Int))
        let n4 : Int := (w64 (s0.1 + n3))
        let n5 : Int := (w64 (s0.2 + (1 : Int)))
        some (.inl (n4, n5))
      else
        some (.inr s0.1)) ((0 : Int), (0 : Int))) fun (s6 : Int) =>
  some s6
noncomputable def sp29 : TSpec := ⟨sg29, fun x => f29 x⟩
theorem sound29 : TSound Try.prog 29 sp29 :=
  tsound_of (T := TTab.of []) (ety := ety) [.tmp 2] an29 Try.func29 rfl rfl rfl (show sg29.er.ok = true by decide +kernel) rfl (show sg29.nargs ≤ Try.f29.ntmps by decide +kernel) rfl (TAll.sound trivial) ttok mixed fun x => by kernel_rfl

/-- warmpath/warmpathref17.Parts -/
noncomputable def f31 (p0 : Int) (p1 : Int) (p2 : Int) (p3 : Int) : Option (List Int) :=
  Option.bind (
    let n0 : Bool := (decide (p2 < (1 : Int)))
    bif n0 then
      some true
    else
      let n1 : Bool := (decide ((1048576 : Int) < p2))
      let n2 : Bool := n1
      bif n2 then
        some true
      else
        let n3 : Bool := (decide (p1 < (0 : Int)))
        let n4 : Bool := n3
        bif n4 then
          some true
        else
          let n5 : Bool := (decide ((1048576 : Int) < p1))
          let n6 : Bool := n5
          some n6) fun (s7 : Bool) =>
  bif s7 then
    some ([] : (List Int))
  else
    ck (!(decide (p0 = (0 : Int)))) <|
    let n8 : Int := (w64 (Int.tdiv p1 p0))
    Option.bind (
      loopM (fun (s9 : (Int × (List Int))) =>
        let n10 : Int := (w64 (p1 + p2))
        let n11 : Int := (w64 (n10 - (1 : Int)))
        ck (!(decide (p0 = (0 : Int)))) <|
        let n12 : Int := (w64 (Int.tdiv n11 p0))
        let n13 : Bool := (decide (s9.1 ≤ n12))
        bif n13 then
          let n14 : (List Int) := [s9.1]
          ck (true && (decide ((((List.length s9.2) + (List.length n14)) * (8 : Nat)) ≤ (140737488355328 : Nat)))) <|
          let n15 : (List Int) := (s9.2 ++ n14)
          let n16 : Int := (w64 (s9.1 + (1 : Int)))
          some (.inl (n16, n15))
        else
          some (.inr s9.2)) (n8, ([] : (List Int)))) fun (s17 : (List Int)) =>
    some s17
noncomputable def sp31 : TSpec := ⟨sg31, fun x => f31 x.1 x.2.1 x.2.2.1 x.2.2.2⟩
theorem sound31 : TSound Try.prog 31 sp31 :=
  tsound_of (T := TTab.of []) (ety := ety) [.tmp 4] an31 Try.func31 rfl rfl rfl (show sg31.er.ok = true by decide +kernel) rfl (show sg31.nargs ≤ Try.f31.ntmps by decide +kernel) rfl (TAll.sound trivial) ttok mixed fun x => by kernel_rfl

/-- warmpath/warmpathref18.Touches -/
noncomputable def f34 (p0 : Int) (p1 : (List FetchS)) : Option (List Int) :=
  Option.bind (
    loopM (fun (s0 : (Int × (List Int))) =>
      let n1 : Int := ((List.length p1) : Int)
      let n2 : Bool := (decide (s0.1 < n1))
      bif n2 then
        ck (inB s0.1 (List.length p1)) <|
        let n3 : FetchS := (List.getD p1 (Int.toNat s0.1) (FetchS.mk (0 : Int) (0 : Int) (0 : Int)))
        Option.bind (f31 p0 n3.address n3.size n3.kind) fun (c4 : (List Int)) =>
        ck (true && (decide ((((List.length s0.2) + (List.length c4)) * (8 : Nat)) ≤ (140737488355328 : Nat)))) <|
        let n5 : (List Int) := (s0.2 ++ c4)
        let n6 : Int := (w64 (s0.1 + (1 : Int)))
        some (.inl (n6, n5))
      else
        some (.inr s0.2)) ((0 : Int), ([] : (List Int)))) fun (s7 : (List Int)) =>
  some s7
noncomputable def sp34 : TSpec := ⟨sg34, fun x => f34 x.1 x.2⟩
theorem sound34 : TSound Try.prog 34 sp34 :=
  tsound_of (T := TTab.of [(31, sp31)]) (ety := ety) [.tmp 4] an34 Try.func34 rfl rfl rfl (show sg34.er.ok = true by decide +kernel) rfl (show sg34.nargs ≤ Try.f34.ntmps by decide +kernel) rfl (TAll.sound ⟨sound31, trivial⟩) ttok mixed fun x => by kernel_rfl

/-- warmpath/warmpathref08.Has -/
noncomputable def f35 (p0 : (List Int)) (p1 : Int) : Option Bool :=
  bindE (
    loopM (fun (s0 : Int) =>
      let n1 : Int := ((List.length p0) : Int)
      let n2 : Bool := (decide (s0 < n1))
      bif n2 then
        ck (inB s0 (List.length p0)) <|
        let n3 : Int := (List.getD p0 (Int.toNat s0) (0 : Int))
        let n4 : Bool := (decide (n3 = p1))
        bif n4 then
          some (.inr (.inr true))
        else
          let n5 : Int := (w64 (s0 + (1 : Int)))
          some (.inl n5)
      else
        some (.inr (.inl ()))) (0 : Int)) fun (s6 : PUnit) =>
  some false
noncomputable def sp35 : TSpec := ⟨sg35, fun x => f35 x.1 x.2⟩
theorem sound35 : TSound Try.prog 35 sp35 :=
  tsound_of (T := TTab.of []) (ety := ety) [.tmp 4] an35 Try.func35 rfl rfl rfl (show sg35.er.ok = true by decide +kernel) rfl (show sg35.nargs ≤ Try.f35.ntmps by decide +kernel) rfl (TAll.sound trivial) ttok mixed fun x => by kernel_rfl

/-- warmpath/warmpathref18.Touch -/
noncomputable def f11 (p0 : (List Int)) (p1 : Int) (p2 : Int) : Option ((List Int) × Bool) :=
  Option.bind (f28 p0 p2 p1) fun (c0 : ((List Int) × Bool)) =>
  let n1 : Bool := (!c0.2)
  some (c0.1, n1)
noncomputable def sp11 : TSpec := ⟨sg11, fun x => f11 x.1 x.2.1 x.2.2⟩
theorem sound11 : TSound Try.prog 11 sp11 :=
  tsound_of (T := TTab.of [(28, sp28)]) (ety := ety) [.tmp 6, .tmp 7] an11 Try.func11 rfl rfl rfl (show sg11.er.ok = true by decide +kernel) rfl (show sg11.nargs ≤ Try.f11.ntmps by decide +kernel) rfl (TAll.sound ⟨sound28, trivial⟩) ttok mixed fun x => by kernel_rfl

/-- warmpath/warmpathlaw18.model -/
noncomputable def f14 (p0 : (List Int)) (p1 : Int) : Option (Int × (Int × (Int × (Int × (Int × (Int × (Int × (Int × (Int × (Int × (Int × (Int × ((List Int) × Int))))))))))))) :=
  Option.bind (f15 p0 p1) fun (c0 : (Int × (Int × (Int × (Int × (Int × (Int × (Int × (Int × (Int × (Int × (Int × (Int × ((List Int) × Int)))))))))))))) =>
  let n1 : (List Int) := [(1 : Int), (8 : Int), (16 : Int), (10 : Int)]
  Option.bind (f9 (4 : Int) c0.2.2.2.2.2.2.2.2.2.2.2.2.1 c0.2.2.2.2.2.2.2.2.2.2.2.2.2) fun (c2 : (Int × ((List Int) × Int))) =>
  ck (inB c2.1 (List.length n1)) <|
  let n3 : Int := (List.getD n1 (Int.toNat ((Int.toNat c2.1) : Int)) (0 : Int))
  Option.bind (f9 (5 : Int) c2.2.1 c2.2.2) fun (c4 : (Int × ((List Int) × Int))) =>
  let n5 : Int := (w64 ((1 : Int) + c4.1))
  some (c0.1, (c0.2.1, (c0.2.2.1, (c0.2.2.2.1, (c0.2.2.2.2.1, (c0.2.2.2.2.2.1, (c0.2.2.2.2.2.2.1, (c0.2.2.2.2.2.2.2.1, (c0.2.2.2.2.2.2.2.2.1, (n3, (n5, (c0.2.2.2.2.2.2.2.2.2.2.2.1, (c4.2.1, c4.2.2)))))))))))))
noncomputable def sp14 : TSpec := ⟨sg14, fun x => f14 x.1 x.2⟩
theorem sound14 : TSound Try.prog 14 sp14 :=
  tsound_of (T := TTab.of [(15, sp15), (9, sp9)]) (ety := ety) [.cell 2 34] an14 Try.func14 rfl rfl rfl (show sg14.er.ok = true by decide +kernel) rfl (show sg14.nargs ≤ Try.f14.ntmps by decide +kernel) rfl (TAll.sound ⟨sound15, sound9, trivial⟩) ttok mixed fun x => by kernel_rfl

/-- warmpath/warmpathref18.Each -/
noncomputable def f19 (p0 : Int) (p1 : Int) (p2 : Int) (p3 : Int) (p4 : Int) (p5 : Int) (p6 : Int) (p7 : Int) (p8 : Int) (p9 : Int) (p10 : Int) (p11 : Int) (p12 : (List FetchS)) : Option (List Int) :=
  let n0 : Int := ((List.length p12) : Int)
  ck (mkOk (8 : Nat) n0 n0) <|
  let n1 : (List Int) := (List.replicate (Int.toNat n0) (0 : Int))
  Option.bind (
    loopM (fun (s2 : ((List Int) × (Int × (List Int)))) =>
      Option.bind (
        let n3 : Int := ((List.length p12) : Int)
        let n4 : Bool := (decide (s2.2.1 < n3))
        bif n4 then
          let n5 : Bool := (decide ((0 : Int) < p10))
          let n6 : Bool := n5
          some n6
        else
          some false) fun (s7 : Bool) =>
      bif s7 then
        ck (inB s2.2.1 (List.length p12)) <|
        let n8 : FetchS := (List.getD p12 (Int.toNat s2.2.1) (FetchS.mk (0 : Int) (0 : Int) (0 : Int)))
        Option.bind (f31 p9 n8.address n8.size n8.kind) fun (c9 : (List Int)) =>
        Option.bind (
          loopM (fun (s10 : ((List Int) × (Int × (List Int)))) =>
            let n11 : Int := ((List.length c9) : Int)
            let n12 : Bool := (decide (s10.2.1 < n11))
            bif n12 then
              ck (inB s10.2.1 (List.length c9)) <|
              let n13 : Int := (List.getD c9 (Int.toNat ((Int.toNat s10.2.1) : Int)) (0 : Int))
              Option.bind (f11 s10.1 p10 n13) fun (c14 : ((List Int) × Bool)) =>
              Option.bind (
                bif c14.2 then
                  ck (inB s2.2.1 (List.length s10.2.2)) <|
                  let n15 : Int := (List.getD s10.2.2 (Int.toNat ((Int.toNat s2.2.1) : Int)) (0 : Int))
                  let n16 : Int := (w64 (n15 + (1 : Int)))
                  ck (inB s2.2.1 (List.length s10.2.2)) <|
                  let n17 : (List Int) := (List.set s10.2.2 (Int.toNat ((Int.toNat s2.2.1) : Int)) n16)
                  some n17
                else
                  some s10.2.2) fun (s18 : (List Int)) =>
              let n19 : Int := (w64 (s10.2.1 + (1 : Int)))
              some (.inl (c14.1, (n19, s18)))
            else
              some (.inr (s10.1, s10.2.2))) (s2.1, ((0 : Int), s2.2.2))) fun (s20 : ((List Int) × (List Int))) =>
        let n21 : Int := (w64 (s2.2.1 + (1 : Int)))
        some (.inl (s20.1, (n21, s20.2)))
      else
        some (.inr s2.2.2)) (([] : (List Int)), ((0 : Int), n1))) fun (s22 : (List Int)) =>
  some s22
noncomputable def sp19 : TSpec := ⟨sg19, fun x => f19 x.1 x.2.1 x.2.2.1 x.2.2.2.1 x.2.2.2.2.1 x.2.2.2.2.2.1 x.2.2.2.2.2.2.1 x.2.2.2.2.2.2.2.1 x.2.2.2.2.2.2.2.2.1 x.2.2.2.2.2.2.2.2.2.1 x.2.2.2.2.2.2.2.2.2.2.1 x.2.2.2.2.2.2.2.2.2.2.2.1 x.2.2.2.2.2.2.2.2.2.2.2.2⟩
theorem sound19 : TSound Try.prog 19 sp19 :=
  tsound_of (T := TTab.of [(31, sp31), (11, sp11)]) (ety := ety) [.tmp 4] an19 Try.func19 rfl rfl rfl (show sg19.er.ok = true by decide +kernel) rfl (show sg19.nargs ≤ Try.f19.ntmps by decide +kernel) rfl (TAll.sound ⟨sound31, sound11, trivial⟩) ttok mixed fun x => by kernel_rfl

/-- warmpath/warmpathref18.Pages -/
noncomputable def f21 (p0 : Int) (p1 : (List FetchS)) : Option (List Int) :=
  Option.bind (f34 p0 p1) fun (c0 : (List Int)) =>
  Option.bind (
    loopM (fun (s1 : (Int × (List Int))) =>
      let n2 : Int := ((List.length c0) : Int)
      let n3 : Bool := (decide (s1.1 < n2))
      bif n3 then
        Option.bind (
          loopM (fun (s4 : Int) =>
            Option.bind (
              let n5 : Int := ((List.length s1.2) : Int)
              let n6 : Bool := (decide (s4 < n5))
              bif n6 then
                ck (inB s4 (List.length s1.2)) <|
                let n7 : Int := (List.getD s1.2 (Int.toNat ((Int.toNat s4) : Int)) (0 : Int))
                ck (inB s1.1 (List.length c0)) <|
                let n8 : Int := (List.getD c0 (Int.toNat ((Int.toNat s1.1) : Int)) (0 : Int))
                let n9 : Bool := (decide (n7 < n8))
                let n10 : Bool := n9
                some n10
              else
                some false) fun (s11 : Bool) =>
            bif s11 then
              let n12 : Int := (w64 (s4 + (1 : Int)))
              some (.inl n12)
            else
              some (.inr s4)) (0 : Int)) fun (s13 : Int) =>
        Option.bind (
          let n14 : Int := ((List.length s1.2) : Int)
          let n15 : Bool := (decide (s13 = n14))
          bif n15 then
            some true
          else
            ck (inB s13 (List.length s1.2)) <|
            let n16 : Int := (List.getD s1.2 (Int.toNat ((Int.toNat s13) : Int)) (0 : Int))
            ck (inB s1.1 (List.length c0)) <|
            let n17 : Int := (List.getD c0 (Int.toNat ((Int.toNat s1.1) : Int)) (0 : Int))
            let n18 : Bool := (!(decide (n16 = n17)))
            let n19 : Bool := n18
            some n19) fun (s20 : Bool) =>
        Option.bind (
          bif s20 then
            ck (slOk (0 : Int) s13 (List.length s1.2)) <|
            ck (true && (decide ((((List.length ([] : (List Int))) + (List.length (List.drop (Int.toNat (0 : Int)) (List.take (Int.toNat s13) s1.2)))) * (8 : Nat)) ≤ (140737488355328 : Nat)))) <|
            let n21 : (List Int) := (([] : (List Int)) ++ (List.drop (Int.toNat (0 : Int)) (List.take (Int.toNat s13) s1.2)))
            ck (inB s1.1 (List.length c0)) <|
            let n22 : Int := (List.getD c0 (Int.toNat ((Int.toNat s1.1) : Int)) (0 : Int))
            let n23 : (List Int) := [n22]
            ck (true && (decide ((((List.length n21) + (List.length n23)) * (8 : Nat)) ≤ (140737488355328 : Nat)))) <|
            let n24 : (List Int) := (n21 ++ n23)
            ck (slOk s13 ((List.length s1.2) : Int) (List.length s1.2)) <|
            ck (true && (decide ((((List.length n24) + (List.length (List.drop (Int.toNat s13) (List.take (Int.toNat ((List.length s1.2) : Int)) s1.2)))) * (8 : Nat)) ≤ (140737488355328 : Nat)))) <|
            let n25 : (List Int) := (n24 ++ (List.drop (Int.toNat s13) (List.take (Int.toNat ((List.length s1.2) : Int)) s1.2)))
            some n25
          else
            some s1.2) fun (s26 : (List Int)) =>
        let n27 : Int := (w64 (s1.1 + (1 : Int)))
        some (.inl (n27, s26))
      else
        some (.inr s1.2)) ((0 : Int), ([] : (List Int)))) fun (s28 : (List Int)) =>
  some s28
noncomputable def sp21 : TSpec := ⟨sg21, fun x => f21 x.1 x.2⟩
theorem sound21 : TSound Try.prog 21 sp21 :=
  tsound_of (T := TTab.of [(34, sp34)]) (ety := ety) [.tmp 4] an21 Try.func21 rfl rfl rfl (show sg21.er.ok = true by decide +kernel) rfl (show sg21.nargs ≤ Try.f21.ntmps by decide +kernel) rfl (TAll.sound ⟨sound34, trivial⟩) ttok mixed fun x => by kernel_rfl

/-- warmpath/warmpathref18.Distance -/
noncomputable def f23 (p0 : Int) (p1 : (List FetchS)) : Option (List Int) :=
  Option.bind (f34 p0 p1) fun (c0 : (List Int)) =>
  Option.bind (
    loopM (fun (s1 : (Int × (List Int))) =>
      let n2 : Int := ((List.length c0) : Int)
      let n3 : Bool := (decide (s1.1 < n2))
      bif n3 then
        let n4 : Int := (w64 (s1.1 - (1 : Int)))
        Option.bind (
          loopM (fun (s5 : (Int × (List Int))) =>
            let n6 : Bool := (decide ((0 : Int) ≤ s5.1))
            bif n6 then
              ck (inB s5.1 (List.length c0)) <|
              let n7 : Int := (List.getD c0 (Int.toNat ((Int.toNat s5.1) : Int)) (0 : Int))
              Option.bind (f35 s5.2 n7) fun (c8 : Bool) =>
              let n9 : Bool := (!c8)
              Option.bind (
                bif n9 then
                  ck (inB s5.1 (List.length c0)) <|
                  let n10 : Int := (List.getD c0 (Int.toNat ((Int.toNat s5.1) : Int)) (0 : Int))
                  let n11 : (List Int) := [n10]
                  ck (true && (decide ((((List.length s5.2) + (List.length n11)) * (8 : Nat)) ≤ (140737488355328 : Nat)))) <|
                  let n12 : (List Int) := (s5.2 ++ n11)
                  some n12
                else
                  some s5.2) fun (s13 : (List Int)) =>
              ck (inB s5.1 (List.length c0)) <|
              let n14 : Int := (List.getD c0 (Int.toNat ((Int.toNat s5.1) : Int)) (0 : Int))
              ck (inB s1.1 (List.length c0)) <|
              let n15 : Int := (List.getD c0 (Int.toNat ((Int.toNat s1.1) : Int)) (0 : Int))
              let n16 : Bool := (decide (n14 = n15))
              bif n16 then
                let n17 : Int := ((List.length s13) : Int)
                some (.inr n17)
              else
                let n18 : Int := (w64 (s5.1 - (1 : Int)))
                some (.inl (n18, s13))
            else
              some (.inr (0 : Int))) (n4, ([] : (List Int)))) fun (s19 : Int) =>
        let n20 : (List Int) := [s19]
        ck (true && (decide ((((List.length s1.2) + (List.length n20)) * (8 : Nat)) ≤ (140737488355328 : Nat)))) <|
        let n21 : (List Int) := (s1.2 ++ n20)
        let n22 : Int := (w64 (s1.1 + (1 : Int)))
        some (.inl (n22, n21))
      else
        some (.inr s1.2)) ((0 : Int), ([] : (List Int)))) fun (s23 : (List Int)) =>
  some s23
noncomputable def sp23 : TSpec := ⟨sg23, fun x => f23 x.1 x.2⟩
theorem sound23 : TSound Try.prog 23 sp23 :=
  tsound_of (T := TTab.of [(34, sp34), (35, sp35)]) (ety := ety) [.tmp 4] an23 Try.func23 rfl rfl rfl (show sg23.er.ok = true by decide +kernel) rfl (show sg23.nargs ≤ Try.f23.ntmps by decide +kernel) rfl (TAll.sound ⟨sound34, sound35, trivial⟩) ttok mixed fun x => by kernel_rfl

/-- warmpath/warmpathref18.Faults -/
noncomputable def f17 (p0 : Int) (p1 : Int) (p2 : Int) (p3 : Int) (p4 : Int) (p5 : Int) (p6 : Int) (p7 : Int) (p8 : Int) (p9 : Int) (p10 : Int) (p11 : Int) (p12 : (List FetchS)) : Option Int :=
  Option.bind (f19 p0 p1 p2 p3 p4 p5 p6 p7 p8 p9 p10 p11 p12) fun (c0 : (List Int)) =>
  Option.bind (f29 c0) fun (c1 : Int) =>
  some c1
noncomputable def sp17 : TSpec := ⟨sg17, fun x => f17 x.1 x.2.1 x.2.2.1 x.2.2.2.1 x.2.2.2.2.1 x.2.2.2.2.2.1 x.2.2.2.2.2.2.1 x.2.2.2.2.2.2.2.1 x.2.2.2.2.2.2.2.2.1 x.2.2.2.2.2.2.2.2.2.1 x.2.2.2.2.2.2.2.2.2.2.1 x.2.2.2.2.2.2.2.2.2.2.2.1 x.2.2.2.2.2.2.2.2.2.2.2.2⟩
theorem sound17 : TSound Try.prog 17 sp17 :=
  tsound_of (T := TTab.of [(19, sp19), (29, sp29)]) (ety := ety) [.tmp 4] an17 Try.func17 rfl rfl rfl (show sg17.er.ok = true by decide +kernel) rfl (show sg17.nargs ≤ Try.f17.ntmps by decide +kernel) rfl (TAll.sound ⟨sound19, sound29, trivial⟩) ttok mixed fun x => by kernel_rfl

/-- warmpath/paging.Touch -/
noncomputable def f10 (p0 : (List Int)) (p1 : Int) (p2 : Int) : Option ((List Int) × Bool) :=
  Option.bind (f24 p0 p2) fun (c0 : Int) =>
  Option.bind (f25 p0) fun (c1 : (List Int)) =>
  let n2 : Bool := (decide ((0 : Int) ≤ c0))
  Option.bind (
    bif n2 then
      let n3 : Int := (w64 (c0 + (1 : Int)))
      Option.bind (f26 c0 n3 c1) fun (c4 : (List Int)) =>
      some c4
    else
      some c1) fun (s5 : (List Int)) =>
  let n6 : (List Int) := [p2]
  Option.bind (f27 (0 : Int) s5 n6) fun (c7 : (List Int)) =>
  let n8 : Int := ((List.length c7) : Int)
  let n9 : Int := (minI n8 p1)
  ck (slOk (0 : Int) n9 (List.length c7)) <|
  let n10 : Bool := (decide (c0 < (0 : Int)))
  some ((List.drop (Int.toNat (0 : Int)) (List.take (Int.toNat n9) c7)), n10)
noncomputable def sp10 : TSpec := ⟨sg10, fun x => f10 x.1 x.2.1 x.2.2⟩
theorem sound10 : TSound Try.prog 10 sp10 :=
  tsound_of (T := TTab.of [(24, sp24), (25, sp25), (26, sp26), (27, sp27)]) (ety := ety) [.tmp 6, .tmp 7] an10 Try.func10 rfl rfl rfl (show sg10.er.ok = true by decide +kernel) rfl (show sg10.nargs ≤ Try.f10.ntmps by decide +kernel) rfl (TAll.sound ⟨sound24, sound25, sound26, sound27, trivial⟩) ttok mixed fun x => by kernel_rfl

/-- warmpath/paging.Each -/
noncomputable def f18 (p0 : Int) (p1 : Int) (p2 : Int) (p3 : Int) (p4 : Int) (p5 : Int) (p6 : Int) (p7 : Int) (p8 : Int) (p9 : Int) (p10 : Int) (p11 : Int) (p12 : (List FetchS)) : Option (List Int) :=
  let n0 : Int := ((List.length p12) : Int)
  ck (mkOk (8 : Nat) n0 n0) <|
  let n1 : (List Int) := (List.replicate (Int.toNat n0) (0 : Int))
  let n2 : Bool := (decide (p10 < (1 : Int)))
  bif n2 then
    some n1
  else
    Option.bind (f30 p9 p12) fun (c3 : (List (Int × Int))) =>
    Option.bind (
      loopM (fun (s4 : ((Int × (Int × (Int × (Int × (Int × (Int × (Int × (Int × (Int × (Int × (Int × (Int × ((List Int) × (List Int)))))))))))))) × Nat)) =>
        bif (Nat.blt s4.2 (List.length c3)) then
          Option.bind (
            Option.bind (f10 s4.1.2.2.2.2.2.2.2.2.2.2.2.2.1 s4.1.2.2.2.2.2.2.2.2.2.2.1 (List.getD c3 s4.2 ((0 : Int), (0 : Int))).2) fun (c5 : ((List Int) × Bool)) =>
            Option.bind (
              bif c5.2 then
                ck (inB (List.getD c3 s4.2 ((0 : Int), (0 : Int))).1 (List.length s4.1.2.2.2.2.2.2.2.2.2.2.2.2.2)) <|
                let n6 : Int := (List.getD s4.1.2.2.2.2.2.2.2.2.2.2.2.2.2 (Int.toNat ((Int.toNat (List.getD c3 s4.2 ((0 : Int), (0 : Int))).1) : Int)) (0 : Int))
                let n7 : Int := (w64 (n6 + (1 : Int)))
                ck (inB (List.getD c3 s4.2 ((0 : Int), (0 : Int))).1 (List.length s4.1.2.2.2.2.2.2.2.2.2.2.2.2.2)) <|
                let n8 : (List Int) := (List.set s4.1.2.2.2.2.2.2.2.2.2.2.2.2.2 (Int.toNat ((Int.toNat (List.getD c3 s4.2 ((0 : Int), (0 : Int))).1) : Int)) n7)
                some n8
              else
                some s4.1.2.2.2.2.2.2.2.2.2.2.2.2.2) fun (s9 : (List Int)) =>
            some (c5.1, (s4.1.1, (s4.1.2.1, (s4.1.2.2.1, (s4.1.2.2.2.1, (s4.1.2.2.2.2.1, (s4.1.2.2.2.2.2.1, (s4.1.2.2.2.2.2.2.1, (s4.1.2.2.2.2.2.2.2.1, (s4.1.2.2.2.2.2.2.2.2.1, (s4.1.2.2.2.2.2.2.2.2.2.1, (s4.1.2.2.2.2.2.2.2.2.2.2.1, (s4.1.2.2.2.2.2.2.2.2.2.2.2.1, s9)))))))))))))) fun (s10 : ((List Int) × (Int × (Int × (Int × (Int × (Int × (Int × (Int × (Int × (Int × (Int × (Int × (Int × (List Int))))))))))))))) =>
          some (.inl ((s10.2.1, (s10.2.2.1, (s10.2.2.2.1, (s10.2.2.2.2.1, (s10.2.2.2.2.2.1, (s10.2.2.2.2.2.2.1, (s10.2.2.2.2.2.2.2.1, (s10.2.2.2.2.2.2.2.2.1, (s10.2.2.2.2.2.2.2.2.2.1, (s10.2.2.2.2.2.2.2.2.2.2.1, (s10.2.2.2.2.2.2.2.2.2.2.2.1, (s10.2.2.2.2.2.2.2.2.2.2.2.2.1, (s10.1, s10.2.2.2.2.2.2.2.2.2.2.2.2.2))))))))))))), (s4.2 + (1 : Nat))))
        else
          some (.inr s4.1.2.2.2.2.2.2.2.2.2.2.2.2.2)) ((p0, (p1, (p2, (p3, (p4, (p5, (p6, (p7, (p8, (p9, (p10, (p11, (([] : (List Int)), n1))))))))))))), (0 : Nat))) fun (s11 : (List Int)) =>
    some s11
noncomputable def sp18 : TSpec := ⟨sg18, fun x => f18 x.1 x.2.1 x.2.2.1 x.2.2.2.1 x.2.2.2.2.1 x.2.2.2.2.2.1 x.2.2.2.2.2.2.1 x.2.2.2.2.2.2.2.1 x.2.2.2.2.2.2.2.2.1 x.2.2.2.2.2.2.2.2.2.1 x.2.2.2.2.2.2.2.2.2.2.1 x.2.2.2.2.2.2.2.2.2.2.2.1 x.2.2.2.2.2.2.2.2.2.2.2.2⟩
theorem sound18 : TSound Try.prog 18 sp18 :=
  tsound_of (T := TTab.of [(30, sp30), (10, sp10)]) (ety := ety) [.tmp 4] an18 Try.func18 rfl rfl rfl (show sg18.er.ok = true by decide +kernel) rfl (show sg18.nargs ≤ Try.f18.ntmps by decide +kernel) rfl (TAll.sound ⟨sound30, sound10, trivial⟩) ttok mixed fun x => by kernel_rfl

/-- warmpath/paging.Distance -/
noncomputable def f22 (p0 : Int) (p1 : (List FetchS)) : Option (List Int) :=
  Option.bind (f30 p0 p1) fun (c0 : (List (Int × Int))) =>
  Option.bind (
    loopM (fun (s1 : (((List Int) × (List Int)) × Nat)) =>
      bif (Nat.blt s1.2 (List.length c0)) then
        Option.bind (
          Option.bind (f24 s1.1.1 (List.getD c0 s1.2 ((0 : Int), (0 : Int))).2) fun (c2 : Int) =>
          let n3 : Int := (w64 (c2 + (1 : Int)))
          let n4 : (List Int) := [n3]
          ck (true && (decide ((((List.length s1.1.2) + (List.length n4)) * (8 : Nat)) ≤ (140737488355328 : Nat)))) <|
          let n5 : (List Int) := (s1.1.2 ++ n4)
          let n6 : Bool := (decide ((0 : Int) ≤ c2))
          Option.bind (
            bif n6 then
              let n7 : Int := (w64 (c2 + (1 : Int)))
              Option.bind (f26 c2 n7 s1.1.1) fun (c8 : (List Int)) =>
              some c8
            else
              some s1.1.1) fun (s9 : (List Int)) =>
          let n10 : (List Int) := [(List.getD c0 s1.2 ((0 : Int), (0 : Int))).2]
          Option.bind (f27 (0 : Int) s9 n10) fun (c11 : (List Int)) =>
          some (c11, n5)) fun (s12 : ((List Int) × (List Int))) =>
        some (.inl ((s12.1, s12.2), (s1.2 + (1 : Nat))))
      else
        some (.inr s1.1.2)) ((([] : (List Int)), ([] : (List Int))), (0 : Nat))) fun (s13 : (List Int)) =>
  some s13
noncomputable def sp22 : TSpec := ⟨sg22, fun x => f22 x.1 x.2⟩
theorem sound22 : TSound Try.prog 22 sp22 :=
  tsound_of (T := TTab.of [(30, sp30), (24, sp24), (26, sp26), (27, sp27)]) (ety := ety) [.tmp 4] an22 Try.func22 rfl rfl rfl (show sg22.er.ok = true by decide +kernel) rfl (show sg22.nargs ≤ Try.f22.ntmps by decide +kernel) rfl (TAll.sound ⟨sound30, sound24, sound26, sound27, trivial⟩) ttok mixed fun x => by kernel_rfl

/-- warmpath/paging.Faults -/
noncomputable def f16 (p0 : Int) (p1 : Int) (p2 : Int) (p3 : Int) (p4 : Int) (p5 : Int) (p6 : Int) (p7 : Int) (p8 : Int) (p9 : Int) (p10 : Int) (p11 : Int) (p12 : (List FetchS)) : Option Int :=
  Option.bind (f18 p0 p1 p2 p3 p4 p5 p6 p7 p8 p9 p10 p11 p12) fun (c0 : (List Int)) =>
  let n1 : Int := ((List.length c0) : Int)
  Option.bind (
    loopM (fun (s2 : (Int × Int)) =>
      let n3 : Bool := (decide (s2.2 < n1))
      bif n3 then
        ck (inB s2.2 (List.length c0)) <|
        let n4 : Int := (List.getD c0 (Int.toNat ((Int.toNat s2.2) : Int)) (0 : Int))
        let n5 : Int := (w64 (s2.1 + n4))
        let n6 : Int := (w64 (s2.2 + (1 : Int)))
        some (.inl (n5, n6))
      else
        some (.inr s2.1)) ((0 : Int), (0 : Int))) fun (s7 : Int) =>
  some s7
noncomputable def sp16 : TSpec := ⟨sg16, fun x => f16 x.1 x.2.1 x.2.2.1 x.2.2.2.1 x.2.2.2.2.1 x.2.2.2.2.2.1 x.2.2.2.2.2.2.1 x.2.2.2.2.2.2.2.1 x.2.2.2.2.2.2.2.2.1 x.2.2.2.2.2.2.2.2.2.1 x.2.2.2.2.2.2.2.2.2.2.1 x.2.2.2.2.2.2.2.2.2.2.2.1 x.2.2.2.2.2.2.2.2.2.2.2.2⟩
theorem sound16 : TSound Try.prog 16 sp16 :=
  tsound_of (T := TTab.of [(18, sp18)]) (ety := ety) [.tmp 4] an16 Try.func16 rfl rfl rfl (show sg16.er.ok = true by decide +kernel) rfl (show sg16.nargs ≤ Try.f16.ntmps by decide +kernel) rfl (TAll.sound ⟨sound18, trivial⟩) ttok mixed fun x => by kernel_rfl

/-- warmpath/paging.Pages -/
noncomputable def f20 (p0 : Int) (p1 : (List FetchS)) : Option (List Int) :=
  Option.bind (f30 p0 p1) fun (c0 : (List (Int × Int))) =>
  Option.bind (
    loopM (fun (s1 : ((List Int) × Nat)) =>
      bif (Nat.blt s1.2 (List.length c0)) then
        Option.bind (
          let n2 : (List Int) := [(List.getD c0 s1.2 ((0 : Int), (0 : Int))).2]
          ck (true && (decide ((((List.length s1.1) + (List.length n2)) * (8 : Nat)) ≤ (140737488355328 : Nat)))) <|
          let n3 : (List Int) := (s1.1 ++ n2)
          some n3) fun (s4 : (List Int)) =>
        some (.inl (s4, (s1.2 + (1 : Nat))))
      else
        some (.inr s1.1)) (([] : (List Int)), (0 : Nat))) fun (s5 : (List Int)) =>
  Option.bind (f32 s5) fun (c6 : (List Int)) =>
  Option.bind (f33 c6) fun (c7 : (List Int)) =>
  some c7
noncomputable def sp20 : TSpec := ⟨sg20, fun x => f20 x.1 x.2⟩
theorem sound20 : TSound Try.prog 20 sp20 :=
  tsound_of (T := TTab.of [(30, sp30), (32, sp32), (33, sp33)]) (ety := ety) [.tmp 4] an20 Try.func20 rfl rfl rfl (show sg20.er.ok = true by decide +kernel) rfl (show sg20.nargs ≤ Try.f20.ntmps by decide +kernel) rfl (TAll.sound ⟨sound30, sound32, sound33, trivial⟩) ttok mixed fun x => by kernel_rfl

/-- warmpath/warmpathlaw18.awake -/
noncomputable def f7 : Option Bool :=
  let n0 : (List Int) := [(1 : Int), (2 : Int), (1 : Int), (3 : Int)]
  let n1 : Int := ((List.length n0) : Int)
  Option.bind (
    loopM (fun (s2 : (Int × (List FetchS))) =>
      let n3 : Bool := (decide (s2.1 < n1))
      bif n3 then
        ck (inB s2.1 (List.length n0)) <|
        let n4 : Int := (List.getD n0 (Int.toNat ((Int.toNat s2.1) : Int)) (0 : Int))
        let n5 : Int := (w64 ((10 : Int) * n4))
        let n6 : (List FetchS) := [(FetchS.mk n5 (1 : Int) (0 : Int))]
        ck (true && (decide ((((List.length s2.2) + (List.length n6)) * (24 : Nat)) ≤ (140737488355328 : Nat)))) <|
        let n7 : (List FetchS) := (s2.2 ++ n6)
        let n8 : Int := (w64 (s2.1 + (1 : Int)))
        some (.inl (n8, n7))
      else
        some (.inr s2.2)) ((0 : Int), ([] : (List FetchS)))) fun (s9 : (List FetchS)) =>
  Option.bind (
    Option.bind (f22 (10 : Int) s9) fun (c10 : (List Int)) =>
    let n11 : (List Int) := [(0 : Int), (0 : Int), (2 : Int), (0 : Int)]
    Option.bind (f12 c10 n11) fun (c12 : Bool) =>
    bif c12 then
      Option.bind (f20 (10 : Int) s9) fun (c13 : (List Int)) =>
      let n14 : Int := ((List.length c13) : Int)
      let n15 : Bool := (decide (n14 = (3 : Int)))
      let n16 : Bool := n15
      some n16
    else
      some false) fun (s17 : Bool) =>
  some s17
noncomputable def sp7 : TSpec := ⟨sg7, fun x => f7⟩
theorem sound7 : TSound Try.prog 7 sp7 :=
  tsound_of (T := TTab.of [(22, sp22), (12, sp12), (20, sp20)]) (ety := ety) [.tmp 0] an7 Try.func7 rfl rfl rfl (show sg7.er.ok = true by decide +kernel) rfl (show sg7.nargs ≤ Try.f7.ntmps by decide +kernel) rfl (TAll.sound ⟨sound22, sound12, sound20, trivial⟩) ttok mixed fun x => by kernel_rfl

/-- warmpath/warmpathlaw18.PagingExact -/
noncomputable def f3 (p0 : (List Int)) : Option Bool :=
  Option.bind (f7) fun (c0 : Bool) =>
  let n1 : Bool := (!c0)
  bif n1 then
    some false
  else
    Option.bind (f8 p0 (300 : Int)) fun (c2 : ((List Int) × Int)) =>
    Option.bind (f9 (5 : Int) c2.1 c2.2) fun (c3 : (Int × ((List Int) × Int))) =>
    let n4 : Int := (w64 ((1 : Int) + c3.1))
    Option.bind (f9 (30 : Int) c3.2.1 c3.2.2) fun (c5 : (Int × ((List Int) × Int))) =>
    bindE (
      loopM (fun (s6 : ((List Int) × (Int × ((List Int) × Int)))) =>
        let n7 : Bool := (decide ((0 : Int) < s6.2.1))
        bif n7 then
          Option.bind (f9 (12 : Int) s6.2.2.1 s6.2.2.2) fun (c8 : (Int × ((List Int) × Int))) =>
          Option.bind (f10 s6.1 n4 c8.1) fun (c9 : ((List Int) × Bool)) =>
          Option.bind (f11 s6.1 n4 c8.1) fun (c10 : ((List Int) × Bool)) =>
          Option.bind (
            let n11 : Bool := (c9.2 != c10.2)
            bif n11 then
              some true
            else
              Option.bind (f12 c9.1 c10.1) fun (c12 : Bool) =>
              let n13 : Bool := (!c12)
              let n14 : Bool := n13
              some n14) fun (s15 : Bool) =>
          bif s15 then
            some (.inr (.inr false))
          else
            let n16 : Int := (w64 (s6.2.1 - (1 : Int)))
            some (.inl (c10.1, (n16, (c8.2.1, c8.2.2))))
        else
          some (.inr (.inl (s6.2.2.1, s6.2.2.2)))) (([] : (List Int)), (c5.1, (c5.2.1, c5.2.2)))) fun (s17 : ((List Int) × Int)) =>
    Option.bind (f13 (40 : Int) s17.1 s17.2) fun (c18 : ((List Int) × (Int × (List FetchS)))) =>
    Option.bind (f14 c18.1 c18.2.1) fun (c19 : (Int × (Int × (Int × (Int × (Int × (Int × (Int × (Int × (Int × (Int × (Int × (Int × ((List Int) × Int)))))))))))))) =>
    Option.bind (f15 c19.2.2.2.2.2.2.2.2.2.2.2.2.1 c19.2.2.2.2.2.2.2.2.2.2.2.2.2) fun (c20 : (Int × (Int × (Int × (Int × (Int × (Int × (Int × (Int × (Int × (Int × (Int × (Int × ((List Int) × Int)))))))))))))) =>
    let n21 : (List ModelS) := [(ModelS.mk c19.1 c19.2.1 c19.2.2.1 c19.2.2.2.1 c19.2.2.2.2.1 c19.2.2.2.2.2.1 c19.2.2.2.2.2.2.1 c19.2.2.2.2.2.2.2.1 c19.2.2.2.2.2.2.2.2.1 c19.2.2.2.2.2.2.2.2.2.1 c19.2.2.2.2.2.2.2.2.2.2.1 c19.2.2.2.2.2.2.2.2.2.2.2.1), (ModelS.mk c20.1 c20.2.1 c20.2.2.1 c20.2.2.2.1 c20.2.2.2.2.1 c20.2.2.2.2.2.1 c20.2.2.2.2.2.2.1 c20.2.2.2.2.2.2.2.1 c20.2.2.2.2.2.2.2.2.1 c20.2.2.2.2.2.2.2.2.2.1 c20.2.2.2.2.2.2.2.2.2.2.1 c20.2.2.2.2.2.2.2.2.2.2.2.1)]
    let n22 : Int := ((List.length n21) : Int)
    bindE (
      loopM (fun (s23 : ((List FetchS) × Int)) =>
        let n24 : Bool := (decide (s23.2 < n22))
        bif n24 then
          ck (inB s23.2 (List.length n21)) <|
          let n25 : ModelS := (List.getD n21 (Int.toNat ((Int.toNat s23.2) : Int)) (ModelS.mk (0 : Int) (0 : Int) (0 : Int) (0 : Int) (0 : Int) (0 : Int) (0 : Int) (0 : Int) (0 : Int) (0 : Int) (0 : Int) (0 : Int)))
          Option.bind (
            Option.bind (f16 n25.step n25.mispredict n25.miss n25.fault n25.call n25.indirect n25.line n25.sets n25.ways n25.page n25.resident n25.predict s23.1) fun (c26 : Int) =>
            Option.bind (f17 n25.step n25.mispredict n25.miss n25.fault n25.call n25.indirect n25.line n25.sets n25.ways n25.page n25.resident n25.predict s23.1) fun (c27 : Int) =>
            let n28 : Bool := (!(decide (c26 = c27)))
            bif n28 then
              some true
            else
              Option.bind (f18 n25.step n25.mispredict n25.miss n25.fault n25.call n25.indirect n25.line n25.sets n25.ways n25.page n25.resident n25.predict s23.1) fun (c29 : (List Int)) =>
              Option.bind (f19 n25.step n25.mispredict n25.miss n25.fault n25.call n25.indirect n25.line n25.sets n25.ways n25.page n25.resident n25.predict s23.1) fun (c30 : (List Int)) =>
              Option.bind (f12 c29 c30) fun (c31 : Bool) =>
              let n32 : Bool := (!c31)
              let n33 : Bool := n32
              some n33) fun (s34 : Bool) =>
          bif s34 then
            some (.inr (.inr false))
          else
            Option.bind (
              let n35 : Bool := (decide ((0 : Int) < n25.page))
              bif n35 then
                Option.bind (f20 n25.page s23.1) fun (c36 : (List Int)) =>
                Option.bind (f21 n25.page s23.1) fun (c37 : (List Int)) =>
                Option.bind (f12 c36 c37) fun (c38 : Bool) =>
                let n39 : Bool := (!c38)
                bif n39 then
                  let n40 : Bool := true
                  some n40
                else
                  Option.bind (f22 n25.page s23.1) fun (c41 : (List Int)) =>
                  Option.bind (f23 n25.page s23.1) fun (c42 : (List Int)) =>
                  Option.bind (f12 c41 c42) fun (c43 : Bool) =>
                  let n44 : Bool := (!c43)
                  let n45 : Bool := n44
                  let n46 : Bool := n45
                  some n46
              else
                some false) fun (s47 : Bool) =>
            bif s47 then
              some (.inr (.inr false))
            else
              let n48 : Int := (w64 (s23.2 + (1 : Int)))
              some (.inl (s23.1, n48))
        else
          some (.inr (.inl ()))) (c18.2.2, (0 : Int))) fun (s49 : PUnit) =>
    some true
noncomputable def sp3 : TSpec := ⟨sg3, fun x => f3 x⟩
theorem sound3 : TSound Try.prog 3 sp3 :=
  tsound_of (T := TTab.of [(7, sp7), (8, sp8), (9, sp9), (10, sp10), (11, sp11), (12, sp12), (13, sp13), (14, sp14), (15, sp15), (16, sp16), (17, sp17), (18, sp18), (19, sp19), (20, sp20), (21, sp21), (22, sp22), (23, sp23)]) (ety := ety) [.tmp 2] an3 Try.func3 rfl rfl rfl (show sg3.er.ok = true by decide +kernel) rfl (show sg3.nargs ≤ Try.f3.ntmps by decide +kernel) rfl (TAll.sound ⟨sound7, sound8, sound9, sound10, sound11, sound12, sound13, sound14, sound15, sound16, sound17, sound18, sound19, sound20, sound21, sound22, sound23, trivial⟩) ttok mixed fun x => by kernel_rfl

/-- warmpath/warmpathlaw18.PagingDistances -/
noncomputable def f4 (p0 : (List Int)) : Option Bool :=
  Option.bind (f7) fun (c0 : Bool) =>
  let n1 : Bool := (!c0)
  bif n1 then
    some false
  else
    Option.bind (f8 p0 (300 : Int)) fun (c2 : ((List Int) × Int)) =>
    Option.bind (f14 c2.1 c2.2) fun (c3 : (Int × (Int × (Int × (Int × (Int × (Int × (Int × (Int × (Int × (Int × (Int × (Int × ((List Int) × Int)))))))))))))) =>
    Option.bind (f13 (60 : Int) c3.2.2.2.2.2.2.2.2.2.2.2.2.1 c3.2.2.2.2.2.2.2.2.2.2.2.2.2) fun (c4 : ((List Int) × (Int × (List FetchS)))) =>
    Option.bind (f22 c3.2.2.2.2.2.2.2.2.2.1 c4.2.2) fun (c5 : (List Int)) =>
    bindE (
      loopM (fun (s6 : (Int × Int)) =>
        let n7 : Int := ((List.length c5) : Int)
        let n8 : Bool := (decide (s6.2 < n7))
        bif n8 then
          ck (inB s6.2 (List.length c5)) <|
          let n9 : Int := (List.getD c5 (Int.toNat ((Int.toNat s6.2) : Int)) (0 : Int))
          let n10 : Bool := (decide (n9 < (0 : Int)))
          bif n10 then
            some (.inr (.inr false))
          else
            Option.bind (
              ck (inB s6.2 (List.length c5)) <|
              let n11 : Int := (List.getD c5 (Int.toNat ((Int.toNat s6.2) : Int)) (0 : Int))
              let n12 : Bool := (decide (n11 = (0 : Int)))
              bif n12 then
                some true
              else
                ck (inB s6.2 (List.length c5)) <|
                let n13 : Int := (List.getD c5 (Int.toNat ((Int.toNat s6.2) : Int)) (0 : Int))
                let n14 : Bool := (decide (c3.2.2.2.2.2.2.2.2.2.2.1 < n13))
                let n15 : Bool := n14
                some n15) fun (s16 : Bool) =>
            Option.bind (
              bif s16 then
                let n17 : Int := (w64 (s6.1 + (1 : Int)))
                some n17
              else
                some s6.1) fun (s18 : Int) =>
            let n19 : Int := (w64 (s6.2 + (1 : Int)))
            some (.inl (s18, n19))
        else
          some (.inr (.inl s6.1))) ((0 : Int), (0 : Int))) fun (s20 : Int) =>
    Option.bind (f16 c3.1 c3.2.1 c3.2.2.1 c3.2.2.2.1 c3.2.2.2.2.1 c3.2.2.2.2.2.1 c3.2.2.2.2.2.2.1 c3.2.2.2.2.2.2.2.1 c3.2.2.2.2.2.2.2.2.1 c3.2.2.2.2.2.2.2.2.2.1 c3.2.2.2.2.2.2.2.2.2.2.1 c3.2.2.2.2.2.2.2.2.2.2.2.1 c4.2.2) fun (c21 : Int) =>
    let n22 : Bool := (decide (s20 = c21))
    some n22
noncomputable def sp4 : TSpec := ⟨sg4, fun x => f4 x⟩
theorem sound4 : TSound Try.prog 4 sp4 :=
  tsound_of (T := TTab.of [(7, sp7), (8, sp8), (14, sp14), (13, sp13), (22, sp22), (16, sp16)]) (ety := ety) [.tmp 2] an4 Try.func4 rfl rfl rfl (show sg4.er.ok = true by decide +kernel) rfl (show sg4.nargs ≤ Try.f4.ntmps by decide +kernel) rfl (TAll.sound ⟨sound7, sound8, sound14, sound13, sound22, sound16, trivial⟩) ttok mixed fun x => by kernel_rfl

/-- warmpath/warmpathlaw18.PagingResident -/
noncomputable def f5 (p0 : (List Int)) (p1 : Int) : Option Bool :=
  Option.bind (f7) fun (c0 : Bool) =>
  let n1 : Bool := (!c0)
  bif n1 then
    some false
  else
    Option.bind (f8 p0 (300 : Int)) fun (c2 : ((List Int) × Int)) =>
    Option.bind (f14 c2.1 c2.2) fun (c3 : (Int × (Int × (Int × (Int × (Int × (Int × (Int × (Int × (Int × (Int × (Int × (Int × ((List Int) × Int)))))))))))))) =>
    Option.bind (f13 (60 : Int) c3.2.2.2.2.2.2.2.2.2.2.2.2.1 c3.2.2.2.2.2.2.2.2.2.2.2.2.2) fun (c4 : ((List Int) × (Int × (List FetchS)))) =>
    let n5 : Int := (w64 p1)
    let n6 : Int := (Int.tmod n5 (8 : Int))
    let n7 : Int := (w64 (c3.2.2.2.2.2.2.2.2.2.2.1 + n6))
    Option.bind (f20 c3.2.2.2.2.2.2.2.2.2.1 c4.2.2) fun (c8 : (List Int)) =>
    let n9 : Int := ((List.length c8) : Int)
    Option.bind (f16 c3.1 c3.2.1 c3.2.2.1 c3.2.2.2.1 c3.2.2.2.2.1 c3.2.2.2.2.2.1 c3.2.2.2.2.2.2.1 c3.2.2.2.2.2.2.2.1 c3.2.2.2.2.2.2.2.2.1 c3.2.2.2.2.2.2.2.2.2.1 c3.2.2.2.2.2.2.2.2.2.2.1 c3.2.2.2.2.2.2.2.2.2.2.2.1 c4.2.2) fun (c10 : Int) =>
    Option.bind (f16 c3.1 c3.2.1 c3.2.2.1 c3.2.2.2.1 c3.2.2.2.2.1 c3.2.2.2.2.2.1 c3.2.2.2.2.2.2.1 c3.2.2.2.2.2.2.2.1 c3.2.2.2.2.2.2.2.2.1 c3.2.2.2.2.2.2.2.2.2.1 n7 c3.2.2.2.2.2.2.2.2.2.2.2.1 c4.2.2) fun (c11 : Int) =>
    Option.bind (
      let n12 : Bool := (decide (c11 ≤ c10))
      bif n12 then
        let n13 : Bool := (decide (n9 ≤ c11))
        let n14 : Bool := n13
        bif n14 then
          Option.bind (f16 c3.1 c3.2.1 c3.2.2.1 c3.2.2.2.1 c3.2.2.2.2.1 c3.2.2.2.2.2.1 c3.2.2.2.2.2.2.1 c3.2.2.2.2.2.2.2.1 c3.2.2.2.2.2.2.2.2.1 c3.2.2.2.2.2.2.2.2.2.1 (1024 : Int) c3.2.2.2.2.2.2.2.2.2.2.2.1 c4.2.2) fun (c15 : Int) =>
          let n16 : Bool := (decide (c15 = n9))
          let n17 : Bool := n16
          some n17
        else
          some false
      else
        some false) fun (s18 : Bool) =>
    some s18
noncomputable def sp5 : TSpec := ⟨sg5, fun x => f5 x.1 x.2⟩
theorem sound5 : TSound Try.prog 5 sp5 :=
  tsound_of (T := TTab.of [(7, sp7), (8, sp8), (14, sp14), (13, sp13), (20, sp20), (16, sp16)]) (ety := ety) [.tmp 4] an5 Try.func5 rfl rfl rfl (show sg5.er.ok = true by decide +kernel) rfl (show sg5.nargs ≤ Try.f5.ntmps by decide +kernel) rfl (TAll.sound ⟨sound7, sound8, sound14, sound13, sound20, sound16, trivial⟩) ttok mixed fun x => by kernel_rfl

/-- warmpath/warmpathlaw18.PagingSteps -/
noncomputable def f6 (p0 : (List Int)) : Option Bool :=
  Option.bind (f7) fun (c0 : Bool) =>
  let n1 : Bool := (!c0)
  bif n1 then
    some false
  else
    Option.bind (f8 p0 (300 : Int)) fun (c2 : ((List Int) × Int)) =>
    Option.bind (f14 c2.1 c2.2) fun (c3 : (Int × (Int × (Int × (Int × (Int × (Int × (Int × (Int × (Int × (Int × (Int × (Int × ((List Int) × Int)))))))))))))) =>
    Option.bind (f13 (40 : Int) c3.2.2.2.2.2.2.2.2.2.2.2.2.1 c3.2.2.2.2.2.2.2.2.2.2.2.2.2) fun (c4 : ((List Int) × (Int × (List FetchS)))) =>
    bindE (
      loopM (fun (s5 : ((List Int) × (Int × Int))) =>
        let n6 : Int := ((List.length c4.2.2) : Int)
        let n7 : Bool := (decide (s5.2.2 < n6))
        bif n7 then
          ck (inB s5.2.2 (List.length c4.2.2)) <|
          let n8 : FetchS := (List.getD c4.2.2 (Int.toNat ((Int.toNat s5.2.2) : Int)) (FetchS.mk (0 : Int) (0 : Int) (0 : Int)))
          ck (!(decide (c3.2.2.2.2.2.2.2.2.2.1 = (0 : Int)))) <|
          let n9 : Int := (w64 (Int.tdiv n8.address c3.2.2.2.2.2.2.2.2.2.1))
          bindE (
            loopM (fun (s10 : ((List Int) × (Int × Int))) =>
              ck (inB s5.2.2 (List.length c4.2.2)) <|
              let n11 : FetchS := (List.getD c4.2.2 (Int.toNat ((Int.toNat s5.2.2) : Int)) (FetchS.mk (0 : Int) (0 : Int) (0 : Int)))
              ck (inB s5.2.2 (List.length c4.2.2)) <|
              let n12 : FetchS := (List.getD c4.2.2 (Int.toNat ((Int.toNat s5.2.2) : Int)) (FetchS.mk (0 : Int) (0 : Int) (0 : Int)))
              let n13 : Int := (w64 (n11.address + n12.size))
              let n14 : Int := (w64 (n13 - (1 : Int)))
              ck (!(decide (c3.2.2.2.2.2.2.2.2.2.1 = (0 : Int)))) <|
              let n15 : Int := (w64 (Int.tdiv n14 c3.2.2.2.2.2.2.2.2.2.1))
              let n16 : Bool := (decide (s10.2.2 ≤ n15))
              bif n16 then
                Option.bind (f10 s10.1 c3.2.2.2.2.2.2.2.2.2.2.1 s10.2.2) fun (c17 : ((List Int) × Bool)) =>
                Option.bind (
                  bif c17.2 then
                    let n18 : Int := (w64 (s10.2.1 + (1 : Int)))
                    some n18
                  else
                    some s10.2.1) fun (s19 : Int) =>
                Option.bind (
                  let n20 : Int := ((List.length c17.1) : Int)
                  let n21 : Bool := (decide (n20 = (0 : Int)))
                  bif n21 then
                    some true
                  else
                    let n22 : Int := ((List.length c17.1) : Int)
                    let n23 : Bool := (decide (c3.2.2.2.2.2.2.2.2.2.2.1 < n22))
                    let n24 : Bool := n23
                    bif n24 then
                      some true
                    else
                      ck (inB (0 : Int) (List.length c17.1)) <|
                      let n25 : Int := (List.getD c17.1 (Int.toNat (0 : Int)) (0 : Int))
                      let n26 : Bool := (!(decide (n25 = s10.2.2)))
                      let n27 : Bool := n26
                      some n27) fun (s28 : Bool) =>
                bif s28 then
                  some (.inr (.inr (.inr (.inr false))))
                else
                  let n29 : Int := (w64 (s10.2.2 + (1 : Int)))
                  some (.inl (c17.1, (s19, n29)))
              else
                some (.inr (.inl (s10.1, s10.2.1)))) (s5.1, (s5.2.1, n9))) fun (s30 : ((List Int) × Int)) =>
          let n31 : Int := (w64 (s5.2.2 + (1 : Int)))
          some (.inl (s30.1, (s30.2, n31)))
        else
          some (.inr (.inl s5.2.1))) (([] : (List Int)), ((0 : Int), (0 : Int)))) fun (s32 : Int) =>
    Option.bind (f16 c3.1 c3.2.1 c3.2.2.1 c3.2.2.2.1 c3.2.2.2.2.1 c3.2.2.2.2.2.1 c3.2.2.2.2.2.2.1 c3.2.2.2.2.2.2.2.1 c3.2.2.2.2.2.2.2.2.1 c3.2.2.2.2.2.2.2.2.2.1 c3.2.2.2.2.2.2.2.2.2.2.1 c3.2.2.2.2.2.2.2.2.2.2.2.1 c4.2.2) fun (c33 : Int) =>
    let n34 : Bool := (decide (s32 = c33))
    some n34
noncomputable def sp6 : TSpec := ⟨sg6, fun x => f6 x⟩
theorem sound6 : TSound Try.prog 6 sp6 :=
  tsound_of (T := TTab.of [(7, sp7), (8, sp8), (14, sp14), (13, sp13), (10, sp10), (16, sp16)]) (ety := ety) [.tmp 2] an6 Try.func6 rfl rfl rfl (show sg6.er.ok = true by decide +kernel) rfl (show sg6.nargs ≤ Try.f6.ntmps by decide +kernel) rfl (TAll.sound ⟨sound7, sound8, sound14, sound13, sound10, sound16, trivial⟩) ttok mixed fun x => by kernel_rfl

end Go.Fg.Ytdddhnagekhihaa
