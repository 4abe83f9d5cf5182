/-
  What the functions of the seat compute, printed by a program (wip/gen).
-/
import Derived.Test.YtdioheaklahnnaaFgA
import Derived.Test.YtdioheaklahnnaaFgL
namespace Go.Fg.Ytdioheaklahnnaa
open Go.Fw Go.Proofs Go.Fw.Ytdioheaklahnnaa
set_option linter.unusedVariables false
set_option maxRecDepth 100000
def f32 : Int → Int → List Int → Option (List Int) := fDel
noncomputable def sp32 : TSpec := spDel
theorem sound32 : TSound Try.prog 32 sp32 := lsound32
def f33 : Int → List Int → List Int → Option (List Int) := fIns
noncomputable def sp33 : TSpec := spIns
theorem sound33 : TSound Try.prog 33 sp33 := lsound33
/-- warmpath/warmpathdraw.New -/
noncomputable def f9 (p0 : (List Int)) (p1 : Int) : Option ((List Int) × Int) :=
  let n0 : Int := ((List.length p0) : Int)
  let n1 : Bool := (decide (p1 < n0))
  Option.bind (
    bif n1 then
      ck (slOk (0 : Int) p1 (List.length p0)) <|
      let n2 : (List Int) := (List.drop (Int.toNat (0 : Int)) (List.take (Int.toNat p1) p0))
      some n2
    else
      some p0) fun (s3 : (List Int)) =>
  some (s3, (0 : Int))
noncomputable def sp9 : TSpec := ⟨sg9, fun x => f9 x.1 x.2⟩
theorem sound9 : TSound Try.prog 9 sp9 :=
  tsound_of (T := TTab.of []) (ety := ety) [.tmp 4] an9 Try.func9 rfl rfl rfl (show sg9.er.ok = true by decide +kernel) rfl (show sg9.nargs ≤ Try.f9.ntmps by decide +kernel) rfl (TAll.sound trivial) ttok mixed fun x => by kernel_rfl

/-- warmpath/cache.New -/
noncomputable def f10 (p0 : Int) : Option (List (List Int)) :=
  Option.bind (
    let n0 : Bool := (decide (p0 < (1 : Int)))
    bif n0 then
      some true
    else
      let n1 : Bool := (decide ((1024 : Int) < p0))
      let n2 : Bool := n1
      some n2) fun (s3 : Bool) =>
  bif s3 then
    some ([] : (List (List Int)))
  else
    ck (mkOk (24 : Nat) p0 p0) <|
    let n4 : (List (List Int)) := (List.replicate (Int.toNat p0) ([] : (List Int)))
    some n4
noncomputable def sp10 : TSpec := ⟨sg10, fun x => f10 x⟩
theorem sound10 : TSound Try.prog 10 sp10 :=
  tsound_of (T := TTab.of []) (ety := ety) [.cell 2 28] an10 Try.func10 rfl rfl rfl (show sg10.er.ok = true by decide +kernel) rfl (show sg10.nargs ≤ Try.f10.ntmps by decide +kernel) rfl (TAll.sound trivial) ttok mixed fun x => by kernel_rfl

/-- (*warmpath/warmpathdraw.Codes).Next -/
noncomputable def f11S (rec : Int → (List Int) → Int → Option (Int × ((List Int) × Int))) (p0 : Int) (p1 : (List Int)) (p2 : Int) : Option (Int × ((List Int) × Int)) :=
  Option.bind (
    let n0 : Int := ((List.length p1) : Int)
    let n1 : Bool := (decide (n0 ≤ p2))
    bif n1 then
      some true
    else
      let n2 : Bool := (decide (p0 < (1 : Int)))
      let n3 : Bool := n2
      some n3) fun (s4 : Bool) =>
  bif s4 then
    some ((0 : Int), (p1, p2))
  else
    ck (inB p2 (List.length p1)) <|
    let n5 : Int := (List.getD p1 (Int.toNat p2) (0 : Int))
    let n6 : Int := (w64 n5)
    let n7 : Int := (w64 (p2 + (1 : Int)))
    let n8 : Bool := (decide ((256 : Int) < p0))
    bif n8 then
      let n9 : Int := (w64 ((256 : Int) * n6))
      Option.bind (rec (256 : Int) p1 n7) fun (c10 : (Int × ((List Int) × Int))) =>
      let n11 : Int := (w64 (n9 + c10.1))
      ck (!(decide (p0 = (0 : Int)))) <|
      let n12 : Int := (Int.tmod n11 p0)
      some (n12, (c10.2.1, c10.2.2))
    else
      ck (!(decide (p0 = (0 : Int)))) <|
      let n13 : Int := (Int.tmod n6 p0)
      some (n13, (p1, n7))
noncomputable def f11N : Nat → Int → (List Int) → Int → Option (Int × ((List Int) × Int))
  | 0 => fun _ _ _ => none
  | n + 1 => f11S (f11N n)
noncomputable def sp11N (n : Nat) : TSpec := ⟨sg11, fun x => f11N n x.1 x.2.1 x.2.2⟩
theorem sound11N : ∀ n, TSound Try.prog 11 (sp11N n)
  | 0 => tsound_none Try.func11 rfl rfl (show sg11.er.ok = true by decide +kernel) fun x => rfl
  | n + 1 => tsound_of (T := TTab.of [(11, sp11N n)]) (ety := ety) [.tmp 4] an11 Try.func11 rfl rfl rfl (show sg11.er.ok = true by decide +kernel) rfl (show sg11.nargs ≤ Try.f11.ntmps by decide +kernel) rfl (TAll.sound ⟨sound11N n, trivial⟩) ttok mixed fun x => by kernel_rfl
/-- (*warmpath/warmpathdraw.Codes).Next -/
noncomputable def f11 (p0 : Int) (p1 : (List Int)) (p2 : Int) : Option (Int × ((List Int) × Int)) := f11N 1048576 p0 p1 p2
noncomputable def sp11 : TSpec := ⟨sg11, fun x => f11 x.1 x.2.1 x.2.2⟩
theorem sound11 : TSound Try.prog 11 sp11 := sound11N 1048576

/-- warmpath/warmpathref17.New -/
noncomputable def f14 (p0 : Int) : Option (List (List Int)) :=
  Option.bind (
    let n0 : Bool := (decide (p0 < (1 : Int)))
    bif n0 then
      some true
    else
      let n1 : Bool := (decide ((1024 : Int) < p0))
      let n2 : Bool := n1
      some n2) fun (s3 : Bool) =>
  bif s3 then
    some ([] : (List (List Int)))
  else
    ck (mkOk (24 : Nat) p0 p0) <|
    let n4 : (List (List Int)) := (List.replicate (Int.toNat p0) ([] : (List Int)))
    some n4
noncomputable def sp14 : TSpec := ⟨sg14, fun x => f14 x⟩
theorem sound14 : TSound Try.prog 14 sp14 :=
  tsound_of (T := TTab.of []) (ety := ety) [.cell 2 28] an14 Try.func14 rfl rfl rfl (show sg14.er.ok = true by decide +kernel) rfl (show sg14.nargs ≤ Try.f14.ntmps by decide +kernel) rfl (TAll.sound trivial) ttok mixed fun x => by kernel_rfl

/-- warmpath/warmpathref01.Ints -/
noncomputable def f15 (p0 : (List Int)) (p1 : (List Int)) : Option Bool :=
  let n0 : Int := ((List.length p0) : Int)
  let n1 : Int := ((List.length p1) : Int)
  let n2 : Bool := (!(decide (n0 = n1)))
  bif n2 then
    some false
  else
    bindE (
      loopM (fun (s3 : Int) =>
        let n4 : Int := ((List.length p0) : Int)
        let n5 : Bool := (decide (s3 < n4))
        bif n5 then
          ck (inB s3 (List.length p0)) <|
          let n6 : Int := (List.getD p0 (Int.toNat s3) (0 : Int))
          ck (inB s3 (List.length p1)) <|
          let n7 : Int := (List.getD p1 (Int.toNat s3) (0 : Int))
          let n8 : Bool := (!(decide (n6 = n7)))
          bif n8 then
            some (.inr (.inr false))
          else
            let n9 : Int := (w64 (s3 + (1 : Int)))
            some (.inl n9)
        else
          some (.inr (.inl ()))) (0 : Int)) fun (s10 : PUnit) =>
    some true
noncomputable def sp15 : TSpec := ⟨sg15, fun x => f15 x.1 x.2⟩
theorem sound15 : TSound Try.prog 15 sp15 :=
  tsound_of (T := TTab.of []) (ety := ety) [.tmp 4] an15 Try.func15 rfl rfl rfl (show sg15.er.ok = true by decide +kernel) rfl (show sg15.nargs ≤ Try.f15.ntmps by decide +kernel) rfl (TAll.sound trivial) ttok mixed fun x => by kernel_rfl

/-- warmpath/cache.Touched -/
noncomputable def f16 (p0 : Int) (p1 : Int) (p2 : Int) (p3 : Int) : Option (List Int) :=
  Option.bind (
    let n0 : Bool := (decide (p0 < (1 : Int)))
    bif n0 then
      some true
    else
      let n1 : Bool := (decide ((4096 : Int) < p0))
      let n2 : Bool := n1
      bif n2 then
        some true
      else
        let n3 : Bool := (decide (p2 < (1 : Int)))
        let n4 : Bool := n3
        bif n4 then
          some true
        else
          let n5 : Bool := (decide ((1048576 : Int) < p2))
          let n6 : Bool := n5
          bif n6 then
            some true
          else
            let n7 : Bool := (decide (p1 < (0 : Int)))
            let n8 : Bool := n7
            bif n8 then
              some true
            else
              let n9 : Bool := (decide ((1048576 : Int) < p1))
              let n10 : Bool := n9
              some n10) fun (s11 : Bool) =>
  bif s11 then
    some ([] : (List Int))
  else
    ck (!(decide (p0 = (0 : Int)))) <|
    let n12 : Int := (w64 (Int.tdiv p1 p0))
    Option.bind (
      loopM (fun (s13 : (Int × (List Int))) =>
        let n14 : Int := (w64 (p1 + p2))
        let n15 : Int := (w64 (n14 - (1 : Int)))
        ck (!(decide (p0 = (0 : Int)))) <|
        let n16 : Int := (w64 (Int.tdiv n15 p0))
        let n17 : Bool := (decide (s13.1 ≤ n16))
        bif n17 then
          let n18 : (List Int) := [s13.1]
          ck (true && (decide ((((List.length s13.2) + (List.length n18)) * (8 : Nat)) ≤ (140737488355328 : Nat)))) <|
          let n19 : (List Int) := (s13.2 ++ n18)
          let n20 : Int := (w64 (s13.1 + (1 : Int)))
          some (.inl (n20, n19))
        else
          some (.inr s13.2)) (n12, ([] : (List Int)))) fun (s21 : (List Int)) =>
    some s21
noncomputable def sp16 : TSpec := ⟨sg16, fun x => f16 x.1 x.2.1 x.2.2.1 x.2.2.2⟩
theorem sound16 : TSound Try.prog 16 sp16 :=
  tsound_of (T := TTab.of []) (ety := ety) [.tmp 4] an16 Try.func16 rfl rfl rfl (show sg16.er.ok = true by decide +kernel) rfl (show sg16.nargs ≤ Try.f16.ntmps by decide +kernel) rfl (TAll.sound trivial) ttok mixed fun x => by kernel_rfl

/-- (*warmpath/warmpathdraw.Codes).Trace -/
noncomputable def f19 (p0 : Int) (p1 : (List Int)) (p2 : Int) : Option ((List Int) × (Int × (List FetchS))) :=
  let n0 : Int := (w64 (p0 + (1 : Int)))
  Option.bind (f11 n0 p1 p2) fun (c1 : (Int × ((List Int) × Int))) =>
  Option.bind (
    loopM (fun (s2 : (Int × ((List Int) × (Int × (List FetchS))))) =>
      let n3 : Bool := (decide ((0 : Int) < s2.1))
      bif n3 then
        Option.bind (f11 (80 : Int) s2.2.1 s2.2.2.1) fun (c4 : (Int × ((List Int) × Int))) =>
        Option.bind (f11 (10 : Int) c4.2.1 c4.2.2) fun (c5 : (Int × ((List Int) × Int))) =>
        let n6 : Int := (w64 ((1 : Int) + c5.1))
        Option.bind (f11 (6 : Int) c5.2.1 c5.2.2) fun (c7 : (Int × ((List Int) × Int))) =>
        let n8 : (List FetchS) := [(FetchS.mk c4.1 n6 c7.1)]
        ck (true && (decide ((((List.length s2.2.2.2) + (List.length n8)) * (24 : Nat)) ≤ (140737488355328 : Nat)))) <|
        let n9 : (List FetchS) := (s2.2.2.2 ++ n8)
        let n10 : Int := (w64 (s2.1 - (1 : Int)))
        some (.inl (n10, (c7.2.1, (c7.2.2, n9))))
      else
        some (.inr (s2.2.1, (s2.2.2.1, s2.2.2.2)))) (c1.1, (c1.2.1, (c1.2.2, ([] : (List FetchS)))))) fun (s11 : ((List Int) × (Int × (List FetchS)))) =>
  some (s11.1, (s11.2.1, s11.2.2))
noncomputable def sp19 : TSpec := ⟨sg19, fun x => f19 x.1 x.2.1 x.2.2⟩
theorem sound19 : TSound Try.prog 19 sp19 :=
  tsound_of (T := TTab.of [(11, sp11)]) (ety := ety) [.tmp 4] an19 Try.func19 rfl rfl rfl (show sg19.er.ok = true by decide +kernel) rfl (show sg19.nargs ≤ Try.f19.ntmps by decide +kernel) rfl (TAll.sound ⟨sound11, trivial⟩) ttok mixed fun x => by kernel_rfl

/-- (*warmpath/warmpathdraw.Codes).Model -/
noncomputable def f21 (p0 : (List Int)) (p1 : Int) : Option (Int × (Int × (Int × (Int × (Int × (Int × (Int × (Int × (Int × (Int × (Int × (Int × ((List Int) × Int))))))))))))) :=
  Option.bind (f11 (2 : Int) p0 p1) fun (c0 : (Int × ((List Int) × Int))) =>
  let n1 : Int := (w64 ((1 : Int) + c0.1))
  Option.bind (f11 (20 : Int) c0.2.1 c0.2.2) fun (c2 : (Int × ((List Int) × Int))) =>
  Option.bind (f11 (30 : Int) c2.2.1 c2.2.2) fun (c3 : (Int × ((List Int) × Int))) =>
  Option.bind (f11 (100 : Int) c3.2.1 c3.2.2) fun (c4 : (Int × ((List Int) × Int))) =>
  Option.bind (f11 (6 : Int) c4.2.1 c4.2.2) fun (c5 : (Int × ((List Int) × Int))) =>
  Option.bind (f11 (6 : Int) c5.2.1 c5.2.2) fun (c6 : (Int × ((List Int) × Int))) =>
  Option.bind (f11 (4 : Int) c6.2.1 c6.2.2) fun (c7 : (Int × ((List Int) × Int))) =>
  let n8 : Bool := (decide ((0 : Int) < c7.1))
  Option.bind (
    bif n8 then
      let n9 : (List Int) := [(4 : Int), (8 : Int), (16 : Int), (7 : Int)]
      Option.bind (f11 (4 : Int) c7.2.1 c7.2.2) fun (c10 : (Int × ((List Int) × Int))) =>
      ck (inB c10.1 (List.length n9)) <|
      let n11 : Int := (List.getD n9 (Int.toNat ((Int.toNat c10.1) : Int)) (0 : Int))
      Option.bind (f11 (4 : Int) c10.2.1 c10.2.2) fun (c12 : (Int × ((List Int) × Int))) =>
      let n13 : Int := (w64 ((1 : Int) + c12.1))
      Option.bind (f11 (3 : Int) c12.2.1 c12.2.2) fun (c14 : (Int × ((List Int) × Int))) =>
      let n15 : Int := (w64 ((1 : Int) + c14.1))
      some (c14.2.1, (c14.2.2, (n1, (c2.1, (c3.1, (c4.1, (c5.1, (c6.1, (n11, (n13, (n15, ((0 : Int), ((0 : Int), (0 : Int))))))))))))))
    else
      some (c7.2.1, (c7.2.2, (n1, (c2.1, (c3.1, (c4.1, (c5.1, (c6.1, ((0 : Int), ((0 : Int), ((0 : Int), ((0 : Int), ((0 : Int), (0 : Int))))))))))))))) fun (s16 : ((List Int) × (Int × (Int × (Int × (Int × (Int × (Int × (Int × (Int × (Int × (Int × (Int × (Int × Int)))))))))))))) =>
  Option.bind (f11 (4 : Int) s16.1 s16.2.1) fun (c17 : (Int × ((List Int) × Int))) =>
  let n18 : Bool := (decide ((0 : Int) < c17.1))
  Option.bind (
    bif n18 then
      let n19 : (List Int) := [(16 : Int), (32 : Int), (64 : Int), (10 : Int)]
      Option.bind (f11 (4 : Int) c17.2.1 c17.2.2) fun (c20 : (Int × ((List Int) × Int))) =>
      ck (inB c20.1 (List.length n19)) <|
      let n21 : Int := (List.getD n19 (Int.toNat ((Int.toNat c20.1) : Int)) (0 : Int))
      Option.bind (f11 (4 : Int) c20.2.1 c20.2.2) fun (c22 : (Int × ((List Int) × Int))) =>
      let n23 : Int := (w64 ((1 : Int) + c22.1))
      some (c22.2.1, (c22.2.2, (s16.2.2.1, (s16.2.2.2.1, (s16.2.2.2.2.1, (s16.2.2.2.2.2.1, (s16.2.2.2.2.2.2.1, (s16.2.2.2.2.2.2.2.1, (s16.2.2.2.2.2.2.2.2.1, (s16.2.2.2.2.2.2.2.2.2.1, (s16.2.2.2.2.2.2.2.2.2.2.1, (n21, (n23, s16.2.2.2.2.2.2.2.2.2.2.2.2.2)))))))))))))
    else
      some (c17.2.1, (c17.2.2, (s16.2.2.1, (s16.2.2.2.1, (s16.2.2.2.2.1, (s16.2.2.2.2.2.1, (s16.2.2.2.2.2.2.1, (s16.2.2.2.2.2.2.2.1, (s16.2.2.2.2.2.2.2.2.1, (s16.2.2.2.2.2.2.2.2.2.1, (s16.2.2.2.2.2.2.2.2.2.2.1, (s16.2.2.2.2.2.2.2.2.2.2.2.1, (s16.2.2.2.2.2.2.2.2.2.2.2.2.1, s16.2.2.2.2.2.2.2.2.2.2.2.2.2)))))))))))))) fun (s24 : ((List Int) × (Int × (Int × (Int × (Int × (Int × (Int × (Int × (Int × (Int × (Int × (Int × (Int × Int)))))))))))))) =>
  Option.bind (f11 (4 : Int) s24.1 s24.2.1) fun (c25 : (Int × ((List Int) × Int))) =>
  let n26 : Bool := (decide ((0 : Int) < c25.1))
  Option.bind (
    bif n26 then
      Option.bind (f11 (16 : Int) c25.2.1 c25.2.2) fun (c27 : (Int × ((List Int) × Int))) =>
      let n28 : Int := (w64 ((1 : Int) + c27.1))
      some (c27.2.1, (c27.2.2, (s24.2.2.1, (s24.2.2.2.1, (s24.2.2.2.2.1, (s24.2.2.2.2.2.1, (s24.2.2.2.2.2.2.1, (s24.2.2.2.2.2.2.2.1, (s24.2.2.2.2.2.2.2.2.1, (s24.2.2.2.2.2.2.2.2.2.1, (s24.2.2.2.2.2.2.2.2.2.2.1, (s24.2.2.2.2.2.2.2.2.2.2.2.1, (s24.2.2.2.2.2.2.2.2.2.2.2.2.1, n28)))))))))))))
    else
      some (c25.2.1, (c25.2.2, (s24.2.2.1, (s24.2.2.2.1, (s24.2.2.2.2.1, (s24.2.2.2.2.2.1, (s24.2.2.2.2.2.2.1, (s24.2.2.2.2.2.2.2.1, (s24.2.2.2.2.2.2.2.2.1, (s24.2.2.2.2.2.2.2.2.2.1, (s24.2.2.2.2.2.2.2.2.2.2.1, (s24.2.2.2.2.2.2.2.2.2.2.2.1, (s24.2.2.2.2.2.2.2.2.2.2.2.2.1, s24.2.2.2.2.2.2.2.2.2.2.2.2.2)))))))))))))) fun (s29 : ((List Int) × (Int × (Int × (Int × (Int × (Int × (Int × (Int × (Int × (Int × (Int × (Int × (Int × Int)))))))))))))) =>
  some (s29.2.2.1, (s29.2.2.2.1, (s29.2.2.2.2.1, (s29.2.2.2.2.2.1, (s29.2.2.2.2.2.2.1, (s29.2.2.2.2.2.2.2.1, (s29.2.2.2.2.2.2.2.2.1, (s29.2.2.2.2.2.2.2.2.2.1, (s29.2.2.2.2.2.2.2.2.2.2.1, (s29.2.2.2.2.2.2.2.2.2.2.2.1, (s29.2.2.2.2.2.2.2.2.2.2.2.2.1, (s29.2.2.2.2.2.2.2.2.2.2.2.2.2, (s29.1, s29.2.1)))))))))))))
noncomputable def sp21 : TSpec := ⟨sg21, fun x => f21 x.1 x.2⟩
theorem sound21 : TSound Try.prog 21 sp21 :=
  tsound_of (T := TTab.of [(11, sp11)]) (ety := ety) [.cell 2 43] an21 Try.func21 rfl rfl rfl (show sg21.er.ok = true by decide +kernel) rfl (show sg21.nargs ≤ Try.f21.ntmps by decide +kernel) rfl (TAll.sound ⟨sound11, trivial⟩) ttok mixed fun x => by kernel_rfl

/-- slices.Clone[[]int,int] -/
noncomputable def f26 (p0 : (List Int)) : Option (List Int) :=
  bif (List.isEmpty p0) then
    both (
      some ([] : (List Int))) (
      ck (true && (decide ((((List.length ([] : (List Int))) + (List.length p0)) * (8 : Nat)) ≤ (140737488355328 : Nat)))) <|
      let n0 : (List Int) := (([] : (List Int)) ++ p0)
      some n0)
  else
    ck (true && (decide ((((List.length ([] : (List Int))) + (List.length p0)) * (8 : Nat)) ≤ (140737488355328 : Nat)))) <|
    let n1 : (List Int) := (([] : (List Int)) ++ p0)
    some n1
noncomputable def sp26 : TSpec := ⟨sg26, fun x => f26 x⟩
theorem sound26 : TSound Try.prog 26 sp26 :=
  tsound_of (T := TTab.of []) (ety := ety) [.tmp 2] an26 Try.func26 rfl rfl rfl (show sg26.er.ok = true by decide +kernel) rfl (show sg26.nargs ≤ Try.f26.ntmps by decide +kernel) rfl (TAll.sound trivial) ttok mixed fun x => by kernel_rfl

/-- warmpath/warmpathref17.Parts -/
noncomputable def f28 (p0 : Int) (p1 : Int) (p2 : Int) (p3 : Int) : Option (List Int) :=
  Option.bind (
    let n0 : Bool := (decide (p2 < (1 : Int)))
    bif n0 then
      some true
    else
      let n1 : Bool := (decide ((1048576 : Int) < p2))
      let n2 : Bool := n1
      bif n2 then
        some true
      else
        let n3 : Bool := (decide (p1 < (0 : Int)))
        let n4 : Bool := n3
        bif n4 then
          some true
        else
          let n5 : Bool := (decide ((1048576 : Int) < p1))
          let n6 : Bool := n5
          some n6) fun (s7 : Bool) =>
  bif s7 then
    some ([] : (List Int))
  else
    ck (!(decide (p0 = (0 : Int)))) <|
    let n8 : Int := (w64 (Int.tdiv p1 p0))
    Option.bind (
      loopM (fun (s9 : (Int × (List Int))) =>
        let n10 : Int := (w64 (p1 + p2))
        let n11 : Int := (w64 (n10 - (1 : Int)))
        ck (!(decide (p0 = (0 : Int)))) <|
        let n12 : Int := (w64 (Int.tdiv n11 p0))
        let n13 : Bool := (decide (s9.1 ≤ n12))
        bif n13 then
          let n14 : (List Int) := [s9.1]
          ck (true && (decide ((((List.length s9.2) + (List.length n14)) * (8 : Nat)) ≤ (140737488355328 : Nat)))) <|
          let n15 : (List Int) := (s9.2 ++ n14)
          let n16 : Int := (w64 (s9.1 + (1 : Int)))
          some (.inl (n16, n15))
        else
          some (.inr s9.2)) (n8, ([] : (List Int)))) fun (s17 : (List Int)) =>
    some s17
noncomputable def sp28 : TSpec := ⟨sg28, fun x => f28 x.1 x.2.1 x.2.2.1 x.2.2.2⟩
theorem sound28 : TSound Try.prog 28 sp28 :=
  tsound_of (T := TTab.of []) (ety := ety) [.tmp 4] an28 Try.func28 rfl rfl rfl (show sg28.er.ok = true by decide +kernel) rfl (show sg28.nargs ≤ Try.f28.ntmps by decide +kernel) rfl (TAll.sound trivial) ttok mixed fun x => by kernel_rfl

/-- warmpath/warmpathref17.First -/
noncomputable def f29 (p0 : (List Int)) (p1 : Int) (p2 : Int) : Option ((List Int) × Bool) :=
  let n0 : (List Int) := [p1]
  Option.bind (
    loopM (fun (s1 : (Bool × (Int × (List Int)))) =>
      let n2 : Int := ((List.length p0) : Int)
      let n3 : Bool := (decide (s1.2.1 < n2))
      bif n3 then
        ck (inB s1.2.1 (List.length p0)) <|
        let n4 : Int := (List.getD p0 (Int.toNat s1.2.1) (0 : Int))
        let n5 : Bool := (decide (n4 = p1))
        Option.bind (
          bif n5 then
            some (true, s1.2.2)
          else
            ck (inB s1.2.1 (List.length p0)) <|
            let n6 : Int := (List.getD p0 (Int.toNat s1.2.1) (0 : Int))
            let n7 : (List Int) := [n6]
            ck (true && (decide ((((List.length s1.2.2) + (List.length n7)) * (8 : Nat)) ≤ (140737488355328 : Nat)))) <|
            let n8 : (List Int) := (s1.2.2 ++ n7)
            some (s1.1, n8)) fun (s9 : (Bool × (List Int))) =>
        let n10 : Int := (w64 (s1.2.1 + (1 : Int)))
        some (.inl (s9.1, (n10, s9.2)))
      else
        some (.inr (s1.1, s1.2.2))) (false, ((0 : Int), n0))) fun (s11 : (Bool × (List Int))) =>
  let n12 : Int := ((List.length s11.2) : Int)
  let n13 : Bool := (decide (p2 < n12))
  Option.bind (
    bif n13 then
      ck (slOk (0 : Int) p2 (List.length s11.2)) <|
      some (List.drop (Int.toNat (0 : Int)) (List.take (Int.toNat p2) s11.2))
    else
      some s11.2) fun (s14 : (List Int)) =>
  some (s14, s11.1)
noncomputable def sp29 : TSpec := ⟨sg29, fun x => f29 x.1 x.2.1 x.2.2⟩
theorem sound29 : TSound Try.prog 29 sp29 :=
  tsound_of (T := TTab.of []) (ety := ety) [.tmp 6, .tmp 7] an29 Try.func29 rfl rfl rfl (show sg29.er.ok = true by decide +kernel) rfl (show sg29.nargs ≤ Try.f29.ntmps by decide +kernel) rfl (TAll.sound trivial) ttok mixed fun x => by kernel_rfl

/-- warmpath/warmpathref17.Total -/
noncomputable def f30 (p0 : (List Int)) : Option Int :=
  Option.bind (
    loopM (fun (s0 : (Int × Int)) =>
      let n1 : Int := ((List.length p0) : Int)
      let n2 : Bool := (decide (s0.2 < n1))
      bif n2 then
        ck (inB s0.2 (List.length p0)) <|
        let n3 : Int := (List.getD p0 (Int.toNat s0.2) (0 : Int))
        let n4 : Int := (w64 (s0.1 + n3))
        let n5 : Int := (w64 (s0.2 + (1 : Int)))
        some (.inl (n4, n5))
      else
        some (.inr s0.1)) ((0 : Int), (0 : Int))) fun (s6 : Int) =>
  some s6
noncomputable def sp30 : TSpec := ⟨sg30, fun x => f30 x⟩
theorem sound30 : TSound Try.prog 30 sp30 :=
  tsound_of (T := TTab.of []) (ety := ety) [.tmp 2] an30 Try.func30 rfl rfl rfl (show sg30.er.ok = true by decide +kernel) rfl (show sg30.nargs ≤ Try.f30.ntmps by decide +kernel) rfl (TAll.sound trivial) ttok mixed fun x => by kernel_rfl

/-- slices.Index[[]int,int] -/
noncomputable def f31 (p0 : (List Int)) (p1 : Int) : Option Int :=
  let n0 : Int := ((List.length p0) : Int)
  bindE (
    loopM (fun (s1 : Int) =>
      let n2 : Bool := (decide (s1 < n0))
      bif n2 then
        ck (inB s1 (List.length p0)) <|
        let n3 : Int := (List.getD p0 (Int.toNat s1) (0 : Int))
        let n4 : Bool := (decide (p1 = n3))
        bif n4 then
          some (.inr (.inr s1))
        else
          let n5 : Int := (w64 (s1 + (1 : Int)))
          some (.inl n5)
      else
        some (.inr (.inl ()))) (0 : Int)) fun (s6 : PUnit) =>
  some (-1 : Int)
noncomputable def sp31 : TSpec := ⟨sg31, fun x => f31 x.1 x.2⟩
theorem sound31 : TSound Try.prog 31 sp31 :=
  tsound_of (T := TTab.of []) (ety := ety) [.tmp 4] an31 Try.func31 rfl rfl rfl (show sg31.er.ok = true by decide +kernel) rfl (show sg31.nargs ≤ Try.f31.ntmps by decide +kernel) rfl (TAll.sound trivial) ttok mixed fun x => by kernel_rfl

/-- warmpath/warmpathref17.Same -/
noncomputable def f13 (p0 : (List (List Int))) (p1 : (List (List Int))) : Option Bool :=
  let n0 : Int := ((List.length p0) : Int)
  let n1 : Int := ((List.length p1) : Int)
  let n2 : Bool := (!(decide (n0 = n1)))
  bif n2 then
    some false
  else
    bindE (
      loopM (fun (s3 : Int) =>
        let n4 : Int := ((List.length p0) : Int)
        let n5 : Bool := (decide (s3 < n4))
        bif n5 then
          ck (inB s3 (List.length p0)) <|
          let n6 : (List Int) := (List.getD p0 (Int.toNat s3) ([] : (List Int)))
          ck (inB s3 (List.length p1)) <|
          let n7 : (List Int) := (List.getD p1 (Int.toNat s3) ([] : (List Int)))
          Option.bind (f15 n6 n7) fun (c8 : Bool) =>
          let n9 : Bool := (!c8)
          bif n9 then
            some (.inr (.inr false))
          else
            let n10 : Int := (w64 (s3 + (1 : Int)))
            some (.inl n10)
        else
          some (.inr (.inl ()))) (0 : Int)) fun (s11 : PUnit) =>
    some true
noncomputable def sp13 : TSpec := ⟨sg13, fun x => f13 x.1 x.2⟩
theorem sound13 : TSound Try.prog 13 sp13 :=
  tsound_of (T := TTab.of [(15, sp15)]) (ety := ety) [.tmp 4] an13 Try.func13 rfl rfl rfl (show sg13.er.ok = true by decide +kernel) rfl (show sg13.nargs ≤ Try.f13.ntmps by decide +kernel) rfl (TAll.sound ⟨sound15, trivial⟩) ttok mixed fun x => by kernel_rfl

/-- warmpath/warmpathref17.Touched -/
noncomputable def f17 (p0 : Int) (p1 : Int) (p2 : Int) (p3 : Int) : Option (List Int) :=
  Option.bind (
    let n0 : Bool := (decide (p0 < (1 : Int)))
    bif n0 then
      some true
    else
      let n1 : Bool := (decide ((4096 : Int) < p0))
      let n2 : Bool := n1
      some n2) fun (s3 : Bool) =>
  bif s3 then
    some ([] : (List Int))
  else
    Option.bind (f28 p0 p1 p2 p3) fun (c4 : (List Int)) =>
    some c4
noncomputable def sp17 : TSpec := ⟨sg17, fun x => f17 x.1 x.2.1 x.2.2.1 x.2.2.2⟩
theorem sound17 : TSound Try.prog 17 sp17 :=
  tsound_of (T := TTab.of [(28, sp28)]) (ety := ety) [.tmp 4] an17 Try.func17 rfl rfl rfl (show sg17.er.ok = true by decide +kernel) rfl (show sg17.nargs ≤ Try.f17.ntmps by decide +kernel) rfl (TAll.sound ⟨sound28, trivial⟩) ttok mixed fun x => by kernel_rfl

/-- warmpath/warmpathref17.Access -/
noncomputable def f18 (p0 : (List (List Int))) (p1 : Int) (p2 : Int) : Option (Bool × (List (List Int))) :=
  Option.bind (
    loopM (fun (s0 : (Int × (List (List Int)))) =>
      let n1 : Int := ((List.length p0) : Int)
      let n2 : Bool := (decide (s0.1 < n1))
      bif n2 then
        ck (inB s0.1 (List.length p0)) <|
        let n3 : (List Int) := (List.getD p0 (Int.toNat s0.1) ([] : (List Int)))
        ck (true && (decide ((((List.length ([] : (List Int))) + (List.length n3)) * (8 : Nat)) ≤ (140737488355328 : Nat)))) <|
        let n4 : (List Int) := (([] : (List Int)) ++ n3)
        let n5 : (List (List Int)) := [n4]
        ck (true && (decide ((((List.length s0.2) + (List.length n5)) * (24 : Nat)) ≤ (140737488355328 : Nat)))) <|
        let n6 : (List (List Int)) := (s0.2 ++ n5)
        let n7 : Int := (w64 (s0.1 + (1 : Int)))
        some (.inl (n7, n6))
      else
        some (.inr s0.2)) ((0 : Int), ([] : (List (List Int))))) fun (s8 : (List (List Int))) =>
  let n9 : Int := ((List.length p0) : Int)
  ck (!(decide (n9 = (0 : Int)))) <|
  let n10 : Int := (Int.tmod p2 n9)
  ck (inB n10 (List.length p0)) <|
  let n11 : (List Int) := (List.getD p0 (Int.toNat n10) ([] : (List Int)))
  Option.bind (f29 n11 p2 p1) fun (c12 : ((List Int) × Bool)) =>
  ck (inB n10 (List.length s8)) <|
  let n13 : (List (List Int)) := (List.set s8 (Int.toNat ((Int.toNat n10) : Int)) c12.1)
  some (c12.2, n13)
noncomputable def sp18 : TSpec := ⟨sg18, fun x => f18 x.1 x.2.1 x.2.2⟩
theorem sound18 : TSound Try.prog 18 sp18 :=
  tsound_of (T := TTab.of [(29, sp29)]) (ety := ety) [.cell 6 28, .tmp 7] an18 Try.func18 rfl rfl rfl (show sg18.er.ok = true by decide +kernel) rfl (show sg18.nargs ≤ Try.f18.ntmps by decide +kernel) rfl (TAll.sound ⟨sound29, trivial⟩) ttok mixed fun x => by kernel_rfl

/-- warmpath/warmpathlaw17.model -/
noncomputable def f20 (p0 : (List Int)) (p1 : Int) : Option (Int × (Int × (Int × (Int × (Int × (Int × (Int × (Int × (Int × (Int × (Int × (Int × ((List Int) × Int))))))))))))) :=
  Option.bind (f21 p0 p1) fun (c0 : (Int × (Int × (Int × (Int × (Int × (Int × (Int × (Int × (Int × (Int × (Int × (Int × ((List Int) × Int)))))))))))))) =>
  let n1 : (List Int) := [(1 : Int), (4 : Int), (8 : Int), (7 : Int)]
  Option.bind (f11 (4 : Int) c0.2.2.2.2.2.2.2.2.2.2.2.2.1 c0.2.2.2.2.2.2.2.2.2.2.2.2.2) fun (c2 : (Int × ((List Int) × Int))) =>
  ck (inB c2.1 (List.length n1)) <|
  let n3 : Int := (List.getD n1 (Int.toNat ((Int.toNat c2.1) : Int)) (0 : Int))
  Option.bind (f11 (4 : Int) c2.2.1 c2.2.2) fun (c4 : (Int × ((List Int) × Int))) =>
  let n5 : Int := (w64 ((1 : Int) + c4.1))
  Option.bind (f11 (4 : Int) c4.2.1 c4.2.2) fun (c6 : (Int × ((List Int) × Int))) =>
  let n7 : Int := (w64 ((1 : Int) + c6.1))
  some (c0.1, (c0.2.1, (c0.2.2.1, (c0.2.2.2.1, (c0.2.2.2.2.1, (c0.2.2.2.2.2.1, (n3, (n5, (n7, (c0.2.2.2.2.2.2.2.2.2.1, (c0.2.2.2.2.2.2.2.2.2.2.1, (c0.2.2.2.2.2.2.2.2.2.2.2.1, (c6.2.1, c6.2.2)))))))))))))
noncomputable def sp20 : TSpec := ⟨sg20, fun x => f20 x.1 x.2⟩
theorem sound20 : TSound Try.prog 20 sp20 :=
  tsound_of (T := TTab.of [(21, sp21), (11, sp11)]) (ety := ety) [.cell 2 43] an20 Try.func20 rfl rfl rfl (show sg20.er.ok = true by decide +kernel) rfl (show sg20.nargs ≤ Try.f20.ntmps by decide +kernel) rfl (TAll.sound ⟨sound21, sound11, trivial⟩) ttok mixed fun x => by kernel_rfl

/-- warmpath/warmpathref17.Each -/
noncomputable def f25 (p0 : Int) (p1 : Int) (p2 : Int) (p3 : Int) (p4 : Int) (p5 : Int) (p6 : Int) (p7 : Int) (p8 : Int) (p9 : Int) (p10 : Int) (p11 : Int) (p12 : (List FetchS)) : Option (List Int) :=
  let n0 : Int := ((List.length p12) : Int)
  ck (mkOk (8 : Nat) n0 n0) <|
  let n1 : (List Int) := (List.replicate (Int.toNat n0) (0 : Int))
  let n2 : Bool := (decide (p7 = (0 : Int)))
  bif n2 then
    some n1
  else
    Option.bind (f14 p7) fun (c3 : (List (List Int))) =>
    Option.bind (
      loopM (fun (s4 : (Int × ((List Int) × (List (List Int))))) =>
        let n5 : Int := ((List.length p12) : Int)
        let n6 : Bool := (decide (s4.1 < n5))
        bif n6 then
          ck (inB s4.1 (List.length p12)) <|
          let n7 : FetchS := (List.getD p12 (Int.toNat s4.1) (FetchS.mk (0 : Int) (0 : Int) (0 : Int)))
          Option.bind (f17 p6 n7.address n7.size n7.kind) fun (c8 : (List Int)) =>
          Option.bind (
            loopM (fun (s9 : (Int × ((List Int) × (List (List Int))))) =>
              let n10 : Int := ((List.length c8) : Int)
              let n11 : Bool := (decide (s9.1 < n10))
              bif n11 then
                ck (inB s9.1 (List.length c8)) <|
                let n12 : Int := (List.getD c8 (Int.toNat ((Int.toNat s9.1) : Int)) (0 : Int))
                ck (!(decide (p7 = (0 : Int)))) <|
                let n13 : Int := (Int.tmod n12 p7)
                ck (inB n13 (List.length s9.2.2)) <|
                let n14 : (List Int) := (List.getD s9.2.2 (Int.toNat ((Int.toNat n13) : Int)) ([] : (List Int)))
                ck (inB s9.1 (List.length c8)) <|
                let n15 : Int := (List.getD c8 (Int.toNat ((Int.toNat s9.1) : Int)) (0 : Int))
                Option.bind (f29 n14 n15 p8) fun (c16 : ((List Int) × Bool)) =>
                ck (inB n13 (List.length s9.2.2)) <|
                let n17 : (List (List Int)) := (List.set s9.2.2 (Int.toNat ((Int.toNat n13) : Int)) c16.1)
                let n18 : Bool := (!c16.2)
                Option.bind (
                  bif n18 then
                    ck (inB s4.1 (List.length s9.2.1)) <|
                    let n19 : Int := (List.getD s9.2.1 (Int.toNat ((Int.toNat s4.1) : Int)) (0 : Int))
                    let n20 : Int := (w64 (n19 + (1 : Int)))
                    ck (inB s4.1 (List.length s9.2.1)) <|
                    let n21 : (List Int) := (List.set s9.2.1 (Int.toNat ((Int.toNat s4.1) : Int)) n20)
                    some n21
                  else
                    some s9.2.1) fun (s22 : (List Int)) =>
                let n23 : Int := (w64 (s9.1 + (1 : Int)))
                some (.inl (n23, (s22, n17)))
              else
                some (.inr (s9.2.1, s9.2.2))) ((0 : Int), (s4.2.1, s4.2.2))) fun (s24 : ((List Int) × (List (List Int)))) =>
          let n25 : Int := (w64 (s4.1 + (1 : Int)))
          some (.inl (n25, (s24.1, s24.2)))
        else
          some (.inr s4.2.1)) ((0 : Int), (n1, c3))) fun (s26 : (List Int)) =>
    some s26
noncomputable def sp25 : TSpec := ⟨sg25, fun x => f25 x.1 x.2.1 x.2.2.1 x.2.2.2.1 x.2.2.2.2.1 x.2.2.2.2.2.1 x.2.2.2.2.2.2.1 x.2.2.2.2.2.2.2.1 x.2.2.2.2.2.2.2.2.1 x.2.2.2.2.2.2.2.2.2.1 x.2.2.2.2.2.2.2.2.2.2.1 x.2.2.2.2.2.2.2.2.2.2.2.1 x.2.2.2.2.2.2.2.2.2.2.2.2⟩
theorem sound25 : TSound Try.prog 25 sp25 :=
  tsound_of (T := TTab.of [(14, sp14), (17, sp17), (29, sp29)]) (ety := ety) [.tmp 4] an25 Try.func25 rfl rfl rfl (show sg25.er.ok = true by decide +kernel) rfl (show sg25.nargs ≤ Try.f25.ntmps by decide +kernel) rfl (TAll.sound ⟨sound14, sound17, sound29, trivial⟩) ttok mixed fun x => by kernel_rfl

/-- warmpath/warmpathref17.Misses -/
noncomputable def f23 (p0 : Int) (p1 : Int) (p2 : Int) (p3 : Int) (p4 : Int) (p5 : Int) (p6 : Int) (p7 : Int) (p8 : Int) (p9 : Int) (p10 : Int) (p11 : Int) (p12 : (List FetchS)) : Option Int :=
  Option.bind (f25 p0 p1 p2 p3 p4 p5 p6 p7 p8 p9 p10 p11 p12) fun (c0 : (List Int)) =>
  Option.bind (f30 c0) fun (c1 : Int) =>
  some c1
noncomputable def sp23 : TSpec := ⟨sg23, fun x => f23 x.1 x.2.1 x.2.2.1 x.2.2.2.1 x.2.2.2.2.1 x.2.2.2.2.2.1 x.2.2.2.2.2.2.1 x.2.2.2.2.2.2.2.1 x.2.2.2.2.2.2.2.2.1 x.2.2.2.2.2.2.2.2.2.1 x.2.2.2.2.2.2.2.2.2.2.1 x.2.2.2.2.2.2.2.2.2.2.2.1 x.2.2.2.2.2.2.2.2.2.2.2.2⟩
theorem sound23 : TSound Try.prog 23 sp23 :=
  tsound_of (T := TTab.of [(25, sp25), (30, sp30)]) (ety := ety) [.tmp 4] an23 Try.func23 rfl rfl rfl (show sg23.er.ok = true by decide +kernel) rfl (show sg23.nargs ≤ Try.f23.ntmps by decide +kernel) rfl (TAll.sound ⟨sound25, sound30, trivial⟩) ttok mixed fun x => by kernel_rfl

/-- warmpath/cache.use -/
noncomputable def f27 (p0 : (List Int)) (p1 : Int) (p2 : Int) : Option ((List Int) × Bool) :=
  Option.bind (f31 p0 p2) fun (c0 : Int) =>
  Option.bind (f26 p0) fun (c1 : (List Int)) =>
  let n2 : Bool := (decide ((0 : Int) ≤ c0))
  Option.bind (
    bif n2 then
      let n3 : Int := (w64 (c0 + (1 : Int)))
      Option.bind (f32 c0 n3 c1) fun (c4 : (List Int)) =>
      some c4
    else
      some c1) fun (s5 : (List Int)) =>
  let n6 : (List Int) := [p2]
  Option.bind (f33 (0 : Int) s5 n6) fun (c7 : (List Int)) =>
  let n8 : Int := ((List.length c7) : Int)
  let n9 : Int := (minI n8 p1)
  ck (slOk (0 : Int) n9 (List.length c7)) <|
  let n10 : Bool := (decide ((0 : Int) ≤ c0))
  some ((List.drop (Int.toNat (0 : Int)) (List.take (Int.toNat n9) c7)), n10)
noncomputable def sp27 : TSpec := ⟨sg27, fun x => f27 x.1 x.2.1 x.2.2⟩
theorem sound27 : TSound Try.prog 27 sp27 :=
  tsound_of (T := TTab.of [(31, sp31), (26, sp26), (32, sp32), (33, sp33)]) (ety := ety) [.tmp 6, .tmp 7] an27 Try.func27 rfl rfl rfl (show sg27.er.ok = true by decide +kernel) rfl (show sg27.nargs ≤ Try.f27.ntmps by decide +kernel) rfl (TAll.sound ⟨sound31, sound26, sound32, sound33, trivial⟩) ttok mixed fun x => by kernel_rfl

/-- warmpath/cache.Access -/
noncomputable def f12 (p0 : (List (List Int))) (p1 : Int) (p2 : Int) : Option (Bool × (List (List Int))) :=
  let n0 : Int := ((List.length p0) : Int)
  Option.bind (
    loopM (fun (s1 : (Int × (List (List Int)))) =>
      let n2 : Bool := (decide (s1.1 < n0))
      bif n2 then
        ck (inB s1.1 (List.length p0)) <|
        let n3 : (List Int) := (List.getD p0 (Int.toNat s1.1) ([] : (List Int)))
        Option.bind (f26 n3) fun (c4 : (List Int)) =>
        let n5 : (List (List Int)) := [c4]
        ck (true && (decide ((((List.length s1.2) + (List.length n5)) * (24 : Nat)) ≤ (140737488355328 : Nat)))) <|
        let n6 : (List (List Int)) := (s1.2 ++ n5)
        let n7 : Int := (w64 (s1.1 + (1 : Int)))
        some (.inl (n7, n6))
      else
        some (.inr s1.2)) ((0 : Int), ([] : (List (List Int))))) fun (s8 : (List (List Int))) =>
  let n9 : Int := ((List.length p0) : Int)
  ck (!(decide (n9 = (0 : Int)))) <|
  let n10 : Int := (Int.tmod p2 n9)
  ck (inB n10 (List.length p0)) <|
  let n11 : (List Int) := (List.getD p0 (Int.toNat n10) ([] : (List Int)))
  Option.bind (f27 n11 p1 p2) fun (c12 : ((List Int) × Bool)) =>
  ck (inB n10 (List.length s8)) <|
  let n13 : (List (List Int)) := (List.set s8 (Int.toNat ((Int.toNat n10) : Int)) c12.1)
  some (c12.2, n13)
noncomputable def sp12 : TSpec := ⟨sg12, fun x => f12 x.1 x.2.1 x.2.2⟩
theorem sound12 : TSound Try.prog 12 sp12 :=
  tsound_of (T := TTab.of [(26, sp26), (27, sp27)]) (ety := ety) [.cell 6 28, .tmp 7] an12 Try.func12 rfl rfl rfl (show sg12.er.ok = true by decide +kernel) rfl (show sg12.nargs ≤ Try.f12.ntmps by decide +kernel) rfl (TAll.sound ⟨sound26, sound27, trivial⟩) ttok mixed fun x => by kernel_rfl

/-- warmpath/cache.Each -/
noncomputable def f24 (p0 : Int) (p1 : Int) (p2 : Int) (p3 : Int) (p4 : Int) (p5 : Int) (p6 : Int) (p7 : Int) (p8 : Int) (p9 : Int) (p10 : Int) (p11 : Int) (p12 : (List FetchS)) : Option (List Int) :=
  Option.bind (f10 p7) fun (c0 : (List (List Int))) =>
  let n1 : Int := ((List.length p12) : Int)
  Option.bind (
    loopM (fun (s2 : (Int × ((List (List Int)) × (List Int)))) =>
      let n3 : Bool := (decide (s2.1 < n1))
      bif n3 then
        ck (inB s2.1 (List.length p12)) <|
        let n4 : FetchS := (List.getD p12 (Int.toNat s2.1) (FetchS.mk (0 : Int) (0 : Int) (0 : Int)))
        let n5 : Int := ((List.length s2.2.1) : Int)
        let n6 : Bool := (decide ((0 : Int) < n5))
        Option.bind (
          bif n6 then
            Option.bind (f16 p6 n4.address n4.size n4.kind) fun (c7 : (List Int)) =>
            let n8 : Int := ((List.length c7) : Int)
            Option.bind (
              loopM (fun (s9 : (Int × (Int × (List (List Int))))) =>
                let n10 : Bool := (decide (s9.2.1 < n8))
                bif n10 then
                  ck (inB s9.2.1 (List.length c7)) <|
                  let n11 : Int := (List.getD c7 (Int.toNat ((Int.toNat s9.2.1) : Int)) (0 : Int))
                  let n12 : Int := ((List.length s9.2.2) : Int)
                  ck (!(decide (n12 = (0 : Int)))) <|
                  let n13 : Int := (Int.tmod n11 n12)
                  ck (inB n13 (List.length s9.2.2)) <|
                  let n14 : (List Int) := (List.getD s9.2.2 (Int.toNat ((Int.toNat n13) : Int)) ([] : (List Int)))
                  Option.bind (f27 n14 p8 n11) fun (c15 : ((List Int) × Bool)) =>
                  ck (inB n13 (List.length s9.2.2)) <|
                  let n16 : (List (List Int)) := (List.set s9.2.2 (Int.toNat ((Int.toNat n13) : Int)) c15.1)
                  let n17 : Bool := (!c15.2)
                  Option.bind (
                    bif n17 then
                      let n18 : Int := (w64 (s9.1 + (1 : Int)))
                      some n18
                    else
                      some s9.1) fun (s19 : Int) =>
                  let n20 : Int := (w64 (s9.2.1 + (1 : Int)))
                  some (.inl (s19, (n20, n16)))
                else
                  some (.inr (s9.1, s9.2.2))) ((0 : Int), ((0 : Int), s2.2.1))) fun (s21 : (Int × (List (List Int)))) =>
            some (s21.1, s21.2)
          else
            some ((0 : Int), s2.2.1)) fun (s22 : (Int × (List (List Int)))) =>
        let n23 : (List Int) := [s22.1]
        ck (true && (decide ((((List.length s2.2.2) + (List.length n23)) * (8 : Nat)) ≤ (140737488355328 : Nat)))) <|
        let n24 : (List Int) := (s2.2.2 ++ n23)
        let n25 : Int := (w64 (s2.1 + (1 : Int)))
        some (.inl (n25, (s22.2, n24)))
      else
        some (.inr s2.2.2)) ((0 : Int), (c0, ([] : (List Int))))) fun (s26 : (List Int)) =>
  some s26
noncomputable def sp24 : TSpec := ⟨sg24, fun x => f24 x.1 x.2.1 x.2.2.1 x.2.2.2.1 x.2.2.2.2.1 x.2.2.2.2.2.1 x.2.2.2.2.2.2.1 x.2.2.2.2.2.2.2.1 x.2.2.2.2.2.2.2.2.1 x.2.2.2.2.2.2.2.2.2.1 x.2.2.2.2.2.2.2.2.2.2.1 x.2.2.2.2.2.2.2.2.2.2.2.1 x.2.2.2.2.2.2.2.2.2.2.2.2⟩
theorem sound24 : TSound Try.prog 24 sp24 :=
  tsound_of (T := TTab.of [(10, sp10), (16, sp16), (27, sp27)]) (ety := ety) [.tmp 4] an24 Try.func24 rfl rfl rfl (show sg24.er.ok = true by decide +kernel) rfl (show sg24.nargs ≤ Try.f24.ntmps by decide +kernel) rfl (TAll.sound ⟨sound10, sound16, sound27, trivial⟩) ttok mixed fun x => by kernel_rfl

/-- warmpath/warmpathlaw17.awake -/
noncomputable def f8 : Option Bool :=
  Option.bind (f10 (1 : Int)) fun (c0 : (List (List Int))) =>
  let n1 : (List Int) := [(1 : Int), (1 : Int), (2 : Int), (1 : Int)]
  let n2 : Int := ((List.length n1) : Int)
  bindE (
    loopM (fun (s3 : (Int × (Int × (List (List Int))))) =>
      let n4 : Bool := (decide (s3.2.1 < n2))
      bif n4 then
        ck (inB s3.2.1 (List.length n1)) <|
        let n5 : Int := (List.getD n1 (Int.toNat ((Int.toNat s3.2.1) : Int)) (0 : Int))
        let n6 : Int := ((List.length s3.2.2) : Int)
        let n7 : Bool := (!(decide (n6 = (1 : Int))))
        bif n7 then
          some (.inr (.inr false))
        else
          Option.bind (f12 s3.2.2 (1 : Int) n5) fun (c8 : (Bool × (List (List Int)))) =>
          let n9 : Bool := (!c8.1)
          Option.bind (
            bif n9 then
              let n10 : Int := (w64 (s3.1 + (1 : Int)))
              some n10
            else
              some s3.1) fun (s11 : Int) =>
          let n12 : Int := (w64 (s3.2.1 + (1 : Int)))
          some (.inl (s11, (n12, c8.2)))
      else
        some (.inr (.inl s3.1))) ((0 : Int), ((0 : Int), c0))) fun (s13 : Int) =>
  let n14 : Bool := (decide (s13 = (3 : Int)))
  some n14
noncomputable def sp8 : TSpec := ⟨sg8, fun x => f8⟩
theorem sound8 : TSound Try.prog 8 sp8 :=
  tsound_of (T := TTab.of [(10, sp10), (12, sp12)]) (ety := ety) [.tmp 0] an8 Try.func8 rfl rfl rfl (show sg8.er.ok = true by decide +kernel) rfl (show sg8.nargs ≤ Try.f8.ntmps by decide +kernel) rfl (TAll.sound ⟨sound10, sound12, trivial⟩) ttok mixed fun x => by kernel_rfl

/-- warmpath/cache.Misses -/
noncomputable def f22 (p0 : Int) (p1 : Int) (p2 : Int) (p3 : Int) (p4 : Int) (p5 : Int) (p6 : Int) (p7 : Int) (p8 : Int) (p9 : Int) (p10 : Int) (p11 : Int) (p12 : (List FetchS)) : Option Int :=
  Option.bind (f24 p0 p1 p2 p3 p4 p5 p6 p7 p8 p9 p10 p11 p12) fun (c0 : (List Int)) =>
  let n1 : Int := ((List.length c0) : Int)
  Option.bind (
    loopM (fun (s2 : (Int × Int)) =>
      let n3 : Bool := (decide (s2.2 < n1))
      bif n3 then
        ck (inB s2.2 (List.length c0)) <|
        let n4 : Int := (List.getD c0 (Int.toNat ((Int.toNat s2.2) : Int)) (0 : Int))
        let n5 : Int := (w64 (s2.1 + n4))
        let n6 : Int := (w64 (s2.2 + (1 : Int)))
        some (.inl (n5, n6))
      else
        some (.inr s2.1)) ((0 : Int), (0 : Int))) fun (s7 : Int) =>
  some s7
noncomputable def sp22 : TSpec := ⟨sg22, fun x => f22 x.1 x.2.1 x.2.2.1 x.2.2.2.1 x.2.2.2.2.1 x.2.2.2.2.2.1 x.2.2.2.2.2.2.1 x.2.2.2.2.2.2.2.1 x.2.2.2.2.2.2.2.2.1 x.2.2.2.2.2.2.2.2.2.1 x.2.2.2.2.2.2.2.2.2.2.1 x.2.2.2.2.2.2.2.2.2.2.2.1 x.2.2.2.2.2.2.2.2.2.2.2.2⟩
theorem sound22 : TSound Try.prog 22 sp22 :=
  tsound_of (T := TTab.of [(24, sp24)]) (ety := ety) [.tmp 4] an22 Try.func22 rfl rfl rfl (show sg22.er.ok = true by decide +kernel) rfl (show sg22.nargs ≤ Try.f22.ntmps by decide +kernel) rfl (TAll.sound ⟨sound24, trivial⟩) ttok mixed fun x => by kernel_rfl

/-- warmpath/warmpathlaw17.CacheRecent -/
noncomputable def f3 (p0 : (List Int)) : Option Bool :=
  Option.bind (f8) fun (c0 : Bool) =>
  let n1 : Bool := (!c0)
  bif n1 then
    some false
  else
    Option.bind (f9 p0 (300 : Int)) fun (c2 : ((List Int) × Int)) =>
    Option.bind (f11 (4 : Int) c2.1 c2.2) fun (c3 : (Int × ((List Int) × Int))) =>
    let n4 : Int := (w64 ((1 : Int) + c3.1))
    Option.bind (f10 n4) fun (c5 : (List (List Int))) =>
    Option.bind (f11 (4 : Int) c3.2.1 c3.2.2) fun (c6 : (Int × ((List Int) × Int))) =>
    let n7 : Int := (w64 ((1 : Int) + c6.1))
    Option.bind (f11 (40 : Int) c6.2.1 c6.2.2) fun (c8 : (Int × ((List Int) × Int))) =>
    bindE (
      loopM (fun (s9 : (Int × ((List Int) × (Int × (List (List Int)))))) =>
        let n10 : Bool := (decide ((0 : Int) < s9.1))
        bif n10 then
          Option.bind (f11 (20 : Int) s9.2.1 s9.2.2.1) fun (c11 : (Int × ((List Int) × Int))) =>
          let n12 : Int := ((List.length s9.2.2.2) : Int)
          let n13 : Bool := (decide (n12 = (0 : Int)))
          bif n13 then
            some (.inr (.inr false))
          else
            Option.bind (f12 s9.2.2.2 n7 c11.1) fun (c14 : (Bool × (List (List Int)))) =>
            Option.bind (f12 c14.2 n7 c11.1) fun (c15 : (Bool × (List (List Int)))) =>
            let n16 : Bool := (!c15.1)
            bif n16 then
              some (.inr (.inr false))
            else
              bindE (
                loopM (fun (s17 : Int) =>
                  let n18 : Int := ((List.length c14.2) : Int)
                  let n19 : Bool := (decide (s17 < n18))
                  bif n19 then
                    ck (inB s17 (List.length c14.2)) <|
                    let n20 : (List Int) := (List.getD c14.2 (Int.toNat ((Int.toNat s17) : Int)) ([] : (List Int)))
                    bindE (
                      loopM (fun (s21 : Int) =>
                        let n22 : Int := ((List.length n20) : Int)
                        let n23 : Bool := (decide (s21 < n22))
                        bif n23 then
                          ck (inB s21 (List.length n20)) <|
                          let n24 : Int := (List.getD n20 (Int.toNat s21) (0 : Int))
                          let n25 : Int := ((List.length c14.2) : Int)
                          ck (!(decide (n25 = (0 : Int)))) <|
                          let n26 : Int := (Int.tmod n24 n25)
                          let n27 : Bool := (!(decide (n26 = s17)))
                          bif n27 then
                            some (.inr (.inr (.inr (.inr (.inr (.inr false))))))
                          else
                            bindE (
                              loopM (fun (s28 : Int) =>
                                let n29 : Bool := (decide (s28 < s21))
                                bif n29 then
                                  ck (inB s21 (List.length n20)) <|
                                  let n30 : Int := (List.getD n20 (Int.toNat s21) (0 : Int))
                                  ck (inB s28 (List.length n20)) <|
                                  let n31 : Int := (List.getD n20 (Int.toNat s28) (0 : Int))
                                  let n32 : Bool := (decide (n30 = n31))
                                  bif n32 then
                                    some (.inr (.inr (.inr (.inr (.inr (.inr (.inr (.inr false))))))))
                                  else
                                    let n33 : Int := (w64 (s28 + (1 : Int)))
                                    some (.inl n33)
                                else
                                  some (.inr (.inl ()))) (0 : Int)) fun (s34 : PUnit) =>
                            let n35 : Int := (w64 (s21 + (1 : Int)))
                            some (.inl n35)
                        else
                          some (.inr (.inl ()))) (0 : Int)) fun (s36 : PUnit) =>
                    let n37 : Int := ((List.length n20) : Int)
                    let n38 : Bool := (decide (n7 < n37))
                    bif n38 then
                      some (.inr (.inr (.inr (.inr false))))
                    else
                      let n39 : Int := (w64 (s17 + (1 : Int)))
                      some (.inl n39)
                  else
                    some (.inr (.inl ()))) (0 : Int)) fun (s40 : PUnit) =>
              let n41 : Int := (w64 (s9.1 - (1 : Int)))
              some (.inl (n41, (c11.2.1, (c11.2.2, c14.2))))
        else
          some (.inr (.inl ()))) (c8.1, (c8.2.1, (c8.2.2, c5)))) fun (s42 : PUnit) =>
    some true
noncomputable def sp3 : TSpec := ⟨sg3, fun x => f3 x⟩
theorem sound3 : TSound Try.prog 3 sp3 :=
  tsound_of (T := TTab.of [(8, sp8), (9, sp9), (11, sp11), (10, sp10), (12, sp12)]) (ety := ety) [.tmp 2] an3 Try.func3 rfl rfl rfl (show sg3.er.ok = true by decide +kernel) rfl (show sg3.nargs ≤ Try.f3.ntmps by decide +kernel) rfl (TAll.sound ⟨sound8, sound9, sound11, sound10, sound12, trivial⟩) ttok mixed fun x => by kernel_rfl

/-- warmpath/warmpathlaw17.CacheExact -/
noncomputable def f4 (p0 : (List Int)) (p1 : Int) (p2 : Int) (p3 : Int) (p4 : Int) (p5 : Int) : Option Bool :=
  Option.bind (f8) fun (c0 : Bool) =>
  let n1 : Bool := (!c0)
  bif n1 then
    some false
  else
    Option.bind (f9 p0 (300 : Int)) fun (c2 : ((List Int) × Int)) =>
    Option.bind (
      Option.bind (f10 p1) fun (c3 : (List (List Int))) =>
      Option.bind (f14 p1) fun (c4 : (List (List Int))) =>
      Option.bind (f13 c3 c4) fun (c5 : Bool) =>
      let n6 : Bool := (!c5)
      bif n6 then
        some true
      else
        let n7 : Bool := (decide (p4 < (5000 : Int)))
        bif n7 then
          Option.bind (f16 p2 p3 p4 p5) fun (c8 : (List Int)) =>
          Option.bind (f17 p2 p3 p4 p5) fun (c9 : (List Int)) =>
          Option.bind (f15 c8 c9) fun (c10 : Bool) =>
          let n11 : Bool := (!c10)
          let n12 : Bool := n11
          let n13 : Bool := n12
          some n13
        else
          let n14 : Bool := false
          some n14) fun (s15 : Bool) =>
    bif s15 then
      some false
    else
      Option.bind (f11 (5 : Int) c2.1 c2.2) fun (c16 : (Int × ((List Int) × Int))) =>
      let n17 : Int := (w64 ((1 : Int) + c16.1))
      Option.bind (f14 n17) fun (c18 : (List (List Int))) =>
      Option.bind (f11 (4 : Int) c16.2.1 c16.2.2) fun (c19 : (Int × ((List Int) × Int))) =>
      let n20 : Int := (w64 ((1 : Int) + c19.1))
      Option.bind (f11 (30 : Int) c19.2.1 c19.2.2) fun (c21 : (Int × ((List Int) × Int))) =>
      bindE (
        loopM (fun (s22 : (Int × ((List Int) × (Int × (List (List Int)))))) =>
          let n23 : Bool := (decide ((0 : Int) < s22.1))
          bif n23 then
            Option.bind (f11 (14 : Int) s22.2.1 s22.2.2.1) fun (c24 : (Int × ((List Int) × Int))) =>
            Option.bind (f12 s22.2.2.2 n20 c24.1) fun (c25 : (Bool × (List (List Int)))) =>
            Option.bind (f18 s22.2.2.2 n20 c24.1) fun (c26 : (Bool × (List (List Int)))) =>
            Option.bind (
              let n27 : Bool := (c25.1 != c26.1)
              bif n27 then
                some true
              else
                Option.bind (f13 c25.2 c26.2) fun (c28 : Bool) =>
                let n29 : Bool := (!c28)
                let n30 : Bool := n29
                some n30) fun (s31 : Bool) =>
            bif s31 then
              some (.inr (.inr false))
            else
              let n32 : Int := (w64 (s22.1 - (1 : Int)))
              some (.inl (n32, (c24.2.1, (c24.2.2, c26.2))))
          else
            some (.inr (.inl (s22.2.1, s22.2.2.1)))) (c21.1, (c21.2.1, (c21.2.2, c18)))) fun (s33 : ((List Int) × Int)) =>
      Option.bind (f19 (40 : Int) s33.1 s33.2) fun (c34 : ((List Int) × (Int × (List FetchS)))) =>
      Option.bind (f20 c34.1 c34.2.1) fun (c35 : (Int × (Int × (Int × (Int × (Int × (Int × (Int × (Int × (Int × (Int × (Int × (Int × ((List Int) × Int)))))))))))))) =>
      Option.bind (f21 c35.2.2.2.2.2.2.2.2.2.2.2.2.1 c35.2.2.2.2.2.2.2.2.2.2.2.2.2) fun (c36 : (Int × (Int × (Int × (Int × (Int × (Int × (Int × (Int × (Int × (Int × (Int × (Int × ((List Int) × Int)))))))))))))) =>
      let n37 : (List ModelS) := [(ModelS.mk c35.1 c35.2.1 c35.2.2.1 c35.2.2.2.1 c35.2.2.2.2.1 c35.2.2.2.2.2.1 c35.2.2.2.2.2.2.1 c35.2.2.2.2.2.2.2.1 c35.2.2.2.2.2.2.2.2.1 c35.2.2.2.2.2.2.2.2.2.1 c35.2.2.2.2.2.2.2.2.2.2.1 c35.2.2.2.2.2.2.2.2.2.2.2.1), (ModelS.mk c36.1 c36.2.1 c36.2.2.1 c36.2.2.2.1 c36.2.2.2.2.1 c36.2.2.2.2.2.1 c36.2.2.2.2.2.2.1 c36.2.2.2.2.2.2.2.1 c36.2.2.2.2.2.2.2.2.1 c36.2.2.2.2.2.2.2.2.2.1 c36.2.2.2.2.2.2.2.2.2.2.1 c36.2.2.2.2.2.2.2.2.2.2.2.1)]
      let n38 : Int := ((List.length n37) : Int)
      bindE (
        loopM (fun (s39 : Int) =>
          let n40 : Bool := (decide (s39 < n38))
          bif n40 then
            ck (inB s39 (List.length n37)) <|
            let n41 : ModelS := (List.getD n37 (Int.toNat ((Int.toNat s39) : Int)) (ModelS.mk (0 : Int) (0 : Int) (0 : Int) (0 : Int) (0 : Int) (0 : Int) (0 : Int) (0 : Int) (0 : Int) (0 : Int) (0 : Int) (0 : Int)))
            Option.bind (
              Option.bind (f22 n41.step n41.mispredict n41.miss n41.fault n41.call n41.indirect n41.line n41.sets n41.ways n41.page n41.resident n41.predict c34.2.2) fun (c42 : Int) =>
              Option.bind (f23 n41.step n41.mispredict n41.miss n41.fault n41.call n41.indirect n41.line n41.sets n41.ways n41.page n41.resident n41.predict c34.2.2) fun (c43 : Int) =>
              let n44 : Bool := (!(decide (c42 = c43)))
              bif n44 then
                some true
              else
                Option.bind (f24 n41.step n41.mispredict n41.miss n41.fault n41.call n41.indirect n41.line n41.sets n41.ways n41.page n41.resident n41.predict c34.2.2) fun (c45 : (List Int)) =>
                Option.bind (f25 n41.step n41.mispredict n41.miss n41.fault n41.call n41.indirect n41.line n41.sets n41.ways n41.page n41.resident n41.predict c34.2.2) fun (c46 : (List Int)) =>
                Option.bind (f15 c45 c46) fun (c47 : Bool) =>
                let n48 : Bool := (!c47)
                let n49 : Bool := n48
                some n49) fun (s50 : Bool) =>
            bif s50 then
              some (.inr (.inr false))
            else
              bindE (
                loopM (fun (s51 : Int) =>
                  let n52 : Int := ((List.length c34.2.2) : Int)
                  let n53 : Bool := (decide (s51 < n52))
                  bif n53 then
                    ck (inB s51 (List.length c34.2.2)) <|
                    let n54 : FetchS := (List.getD c34.2.2 (Int.toNat ((Int.toNat s51) : Int)) (FetchS.mk (0 : Int) (0 : Int) (0 : Int)))
                    Option.bind (f16 n41.line n54.address n54.size n54.kind) fun (c55 : (List Int)) =>
                    ck (inB s51 (List.length c34.2.2)) <|
                    let n56 : FetchS := (List.getD c34.2.2 (Int.toNat ((Int.toNat s51) : Int)) (FetchS.mk (0 : Int) (0 : Int) (0 : Int)))
                    Option.bind (f17 n41.line n56.address n56.size n56.kind) fun (c57 : (List Int)) =>
                    Option.bind (f15 c55 c57) fun (c58 : Bool) =>
                    let n59 : Bool := (!c58)
                    bif n59 then
                      some (.inr (.inr (.inr (.inr false))))
                    else
                      let n60 : Int := (w64 (s51 + (1 : Int)))
                      some (.inl n60)
                  else
                    some (.inr (.inl ()))) (0 : Int)) fun (s61 : PUnit) =>
              let n62 : Int := (w64 (s39 + (1 : Int)))
              some (.inl n62)
          else
            some (.inr (.inl ()))) (0 : Int)) fun (s63 : PUnit) =>
      some true
noncomputable def sp4 : TSpec := ⟨sg4, fun x => f4 x.1 x.2.1 x.2.2.1 x.2.2.2.1 x.2.2.2.2.1 x.2.2.2.2.2⟩
theorem sound4 : TSound Try.prog 4 sp4 :=
  tsound_of (T := TTab.of [(8, sp8), (9, sp9), (10, sp10), (14, sp14), (13, sp13), (16, sp16), (17, sp17), (15, sp15), (11, sp11), (12, sp12), (18, sp18), (19, sp19), (20, sp20), (21, sp21), (22, sp22), (23, sp23), (24, sp24), (25, sp25)]) (ety := ety) [.tmp 8] an4 Try.func4 rfl rfl rfl (show sg4.er.ok = true by decide +kernel) rfl (show sg4.nargs ≤ Try.f4.ntmps by decide +kernel) rfl (TAll.sound ⟨sound8, sound9, sound10, sound14, sound13, sound16, sound17, sound15, sound11, sound12, sound18, sound19, sound20, sound21, sound22, sound23, sound24, sound25, trivial⟩) ttok mixed fun x => by kernel_rfl

/-- warmpath/warmpathlaw17.CacheWays -/
noncomputable def f5 (p0 : (List Int)) (p1 : Int) : Option Bool :=
  Option.bind (f8) fun (c0 : Bool) =>
  let n1 : Bool := (!c0)
  bif n1 then
    some false
  else
    Option.bind (f9 p0 (300 : Int)) fun (c2 : ((List Int) × Int)) =>
    Option.bind (f20 c2.1 c2.2) fun (c3 : (Int × (Int × (Int × (Int × (Int × (Int × (Int × (Int × (Int × (Int × (Int × (Int × ((List Int) × Int)))))))))))))) =>
    Option.bind (f19 (60 : Int) c3.2.2.2.2.2.2.2.2.2.2.2.2.1 c3.2.2.2.2.2.2.2.2.2.2.2.2.2) fun (c4 : ((List Int) × (Int × (List FetchS)))) =>
    let n5 : Int := (w64 p1)
    let n6 : Int := (Int.tmod n5 (6 : Int))
    let n7 : Int := (w64 (c3.2.2.2.2.2.2.2.2.1 + n6))
    let n8 : Int := (minI n7 (16 : Int))
    Option.bind (f24 c3.1 c3.2.1 c3.2.2.1 c3.2.2.2.1 c3.2.2.2.2.1 c3.2.2.2.2.2.1 c3.2.2.2.2.2.2.1 c3.2.2.2.2.2.2.2.1 c3.2.2.2.2.2.2.2.2.1 c3.2.2.2.2.2.2.2.2.2.1 c3.2.2.2.2.2.2.2.2.2.2.1 c3.2.2.2.2.2.2.2.2.2.2.2.1 c4.2.2) fun (c9 : (List Int)) =>
    Option.bind (f24 c3.1 c3.2.1 c3.2.2.1 c3.2.2.2.1 c3.2.2.2.2.1 c3.2.2.2.2.2.1 c3.2.2.2.2.2.2.1 c3.2.2.2.2.2.2.2.1 n8 c3.2.2.2.2.2.2.2.2.2.1 c3.2.2.2.2.2.2.2.2.2.2.1 c3.2.2.2.2.2.2.2.2.2.2.2.1 c4.2.2) fun (c10 : (List Int)) =>
    bindE (
      loopM (fun (s11 : Int) =>
        let n12 : Int := ((List.length c4.2.2) : Int)
        let n13 : Bool := (decide (s11 < n12))
        bif n13 then
          Option.bind (
            let n14 : Int := ((List.length c9) : Int)
            let n15 : Bool := (decide (n14 ≤ s11))
            bif n15 then
              some true
            else
              let n16 : Int := ((List.length c10) : Int)
              let n17 : Bool := (decide (n16 ≤ s11))
              let n18 : Bool := n17
              bif n18 then
                some true
              else
                ck (inB s11 (List.length c10)) <|
                let n19 : Int := (List.getD c10 (Int.toNat ((Int.toNat s11) : Int)) (0 : Int))
                ck (inB s11 (List.length c9)) <|
                let n20 : Int := (List.getD c9 (Int.toNat ((Int.toNat s11) : Int)) (0 : Int))
                let n21 : Bool := (decide (n20 < n19))
                let n22 : Bool := n21
                some n22) fun (s23 : Bool) =>
          bif s23 then
            some (.inr (.inr false))
          else
            let n24 : Int := (w64 (s11 + (1 : Int)))
            some (.inl n24)
        else
          some (.inr (.inl ()))) (0 : Int)) fun (s25 : PUnit) =>
    Option.bind (f22 c3.1 c3.2.1 c3.2.2.1 c3.2.2.2.1 c3.2.2.2.2.1 c3.2.2.2.2.2.1 c3.2.2.2.2.2.2.1 c3.2.2.2.2.2.2.2.1 n8 c3.2.2.2.2.2.2.2.2.2.1 c3.2.2.2.2.2.2.2.2.2.2.1 c3.2.2.2.2.2.2.2.2.2.2.2.1 c4.2.2) fun (c26 : Int) =>
    Option.bind (f22 c3.1 c3.2.1 c3.2.2.1 c3.2.2.2.1 c3.2.2.2.2.1 c3.2.2.2.2.2.1 c3.2.2.2.2.2.2.1 c3.2.2.2.2.2.2.2.1 c3.2.2.2.2.2.2.2.2.1 c3.2.2.2.2.2.2.2.2.2.1 c3.2.2.2.2.2.2.2.2.2.2.1 c3.2.2.2.2.2.2.2.2.2.2.2.1 c4.2.2) fun (c27 : Int) =>
    let n28 : Bool := (decide (c26 ≤ c27))
    some n28
noncomputable def sp5 : TSpec := ⟨sg5, fun x => f5 x.1 x.2⟩
theorem sound5 : TSound Try.prog 5 sp5 :=
  tsound_of (T := TTab.of [(8, sp8), (9, sp9), (20, sp20), (19, sp19), (24, sp24), (22, sp22)]) (ety := ety) [.tmp 4] an5 Try.func5 rfl rfl rfl (show sg5.er.ok = true by decide +kernel) rfl (show sg5.nargs ≤ Try.f5.ntmps by decide +kernel) rfl (TAll.sound ⟨sound8, sound9, sound20, sound19, sound24, sound22, trivial⟩) ttok mixed fun x => by kernel_rfl

/-- warmpath/warmpathlaw17.CacheEnough -/
noncomputable def f6 (p0 : (List Int)) : Option Bool :=
  Option.bind (f8) fun (c0 : Bool) =>
  let n1 : Bool := (!c0)
  bif n1 then
    some false
  else
    Option.bind (f9 p0 (300 : Int)) fun (c2 : ((List Int) × Int)) =>
    Option.bind (f20 c2.1 c2.2) fun (c3 : (Int × (Int × (Int × (Int × (Int × (Int × (Int × (Int × (Int × (Int × (Int × (Int × ((List Int) × Int)))))))))))))) =>
    Option.bind (f19 (60 : Int) c3.2.2.2.2.2.2.2.2.2.2.2.2.1 c3.2.2.2.2.2.2.2.2.2.2.2.2.2) fun (c4 : ((List Int) × (Int × (List FetchS)))) =>
    let n5 : (List Bool) := (List.replicate (Int.toNat (40 : Int)) false)
    bindE (
      loopM (fun (s6 : (Int × (Int × (List Bool)))) =>
        let n7 : Int := ((List.length c4.2.2) : Int)
        let n8 : Bool := (decide (s6.2.1 < n7))
        bif n8 then
          ck (inB s6.2.1 (List.length c4.2.2)) <|
          let n9 : FetchS := (List.getD c4.2.2 (Int.toNat ((Int.toNat s6.2.1) : Int)) (FetchS.mk (0 : Int) (0 : Int) (0 : Int)))
          Option.bind (f16 (8 : Int) n9.address n9.size n9.kind) fun (c10 : (List Int)) =>
          bindE (
            loopM (fun (s11 : (Int × (Int × (List Bool)))) =>
              let n12 : Int := ((List.length c10) : Int)
              let n13 : Bool := (decide (s11.2.1 < n12))
              bif n13 then
                Option.bind (
                  ck (inB s11.2.1 (List.length c10)) <|
                  let n14 : Int := (List.getD c10 (Int.toNat ((Int.toNat s11.2.1) : Int)) (0 : Int))
                  let n15 : Bool := (decide (n14 < (0 : Int)))
                  bif n15 then
                    some true
                  else
                    ck (inB s11.2.1 (List.length c10)) <|
                    let n16 : Int := (List.getD c10 (Int.toNat ((Int.toNat s11.2.1) : Int)) (0 : Int))
                    let n17 : Int := ((List.length s11.2.2) : Int)
                    let n18 : Bool := (decide (n17 ≤ n16))
                    let n19 : Bool := n18
                    some n19) fun (s20 : Bool) =>
                bif s20 then
                  some (.inr (.inr (.inr (.inr false))))
                else
                  ck (inB s11.2.1 (List.length c10)) <|
                  let n21 : Int := (List.getD c10 (Int.toNat ((Int.toNat s11.2.1) : Int)) (0 : Int))
                  ck (inB n21 (List.length s11.2.2)) <|
                  let n22 : Bool := (List.getD s11.2.2 (Int.toNat ((Int.toNat n21) : Int)) false)
                  let n23 : Bool := (!n22)
                  Option.bind (
                    bif n23 then
                      ck (inB s11.2.1 (List.length c10)) <|
                      let n24 : Int := (List.getD c10 (Int.toNat ((Int.toNat s11.2.1) : Int)) (0 : Int))
                      ck (inB n24 (List.length s11.2.2)) <|
                      let n25 : (List Bool) := (List.set s11.2.2 (Int.toNat ((Int.toNat n24) : Int)) true)
                      let n26 : Int := (w64 (s11.1 + (1 : Int)))
                      some (n26, n25)
                    else
                      some (s11.1, s11.2.2)) fun (s27 : (Int × (List Bool))) =>
                  let n28 : Int := (w64 (s11.2.1 + (1 : Int)))
                  some (.inl (s27.1, (n28, s27.2)))
              else
                some (.inr (.inl (s11.1, s11.2.2)))) (s6.1, ((0 : Int), s6.2.2))) fun (s29 : (Int × (List Bool))) =>
          let n30 : Int := (w64 (s6.2.1 + (1 : Int)))
          some (.inl (s29.1, (n30, s29.2)))
        else
          some (.inr (.inl s6.1))) ((0 : Int), ((0 : Int), n5))) fun (s31 : Int) =>
    Option.bind (
      Option.bind (f22 c3.1 c3.2.1 c3.2.2.1 c3.2.2.2.1 c3.2.2.2.2.1 c3.2.2.2.2.2.1 (8 : Int) c3.2.2.2.2.2.2.2.1 (16 : Int) c3.2.2.2.2.2.2.2.2.2.1 c3.2.2.2.2.2.2.2.2.2.2.1 c3.2.2.2.2.2.2.2.2.2.2.2.1 c4.2.2) fun (c32 : Int) =>
      let n33 : Bool := (decide (c32 = s31))
      bif n33 then
        Option.bind (f22 c3.1 c3.2.1 c3.2.2.1 c3.2.2.2.1 c3.2.2.2.2.1 c3.2.2.2.2.2.1 (8 : Int) c3.2.2.2.2.2.2.2.1 c3.2.2.2.2.2.2.2.2.1 c3.2.2.2.2.2.2.2.2.2.1 c3.2.2.2.2.2.2.2.2.2.2.1 c3.2.2.2.2.2.2.2.2.2.2.2.1 c4.2.2) fun (c34 : Int) =>
        let n35 : Bool := (decide (s31 ≤ c34))
        let n36 : Bool := n35
        some n36
      else
        some false) fun (s37 : Bool) =>
    some s37
noncomputable def sp6 : TSpec := ⟨sg6, fun x => f6 x⟩
theorem sound6 : TSound Try.prog 6 sp6 :=
  tsound_of (T := TTab.of [(8, sp8), (9, sp9), (20, sp20), (19, sp19), (16, sp16), (22, sp22)]) (ety := ety) [.tmp 2] an6 Try.func6 rfl rfl rfl (show sg6.er.ok = true by decide +kernel) rfl (show sg6.nargs ≤ Try.f6.ntmps by decide +kernel) rfl (TAll.sound ⟨sound8, sound9, sound20, sound19, sound16, sound22, trivial⟩) ttok mixed fun x => by kernel_rfl

/-- warmpath/warmpathlaw17.CacheSets -/
noncomputable def f7 (p0 : (List Int)) : Option Bool :=
  Option.bind (f8) fun (c0 : Bool) =>
  let n1 : Bool := (!c0)
  bif n1 then
    some false
  else
    Option.bind (f9 p0 (300 : Int)) fun (c2 : ((List Int) × Int)) =>
    Option.bind (f20 c2.1 c2.2) fun (c3 : (Int × (Int × (Int × (Int × (Int × (Int × (Int × (Int × (Int × (Int × (Int × (Int × ((List Int) × Int)))))))))))))) =>
    Option.bind (f19 (60 : Int) c3.2.2.2.2.2.2.2.2.2.2.2.2.1 c3.2.2.2.2.2.2.2.2.2.2.2.2.2) fun (c4 : ((List Int) × (Int × (List FetchS)))) =>
    bindE (
      loopM (fun (s5 : (Int × Int)) =>
        let n6 : Bool := (decide (s5.2 < c3.2.2.2.2.2.2.2.1))
        bif n6 then
          Option.bind (f10 (1 : Int)) fun (c7 : (List (List Int))) =>
          let n8 : Int := ((List.length c7) : Int)
          let n9 : Bool := (!(decide (n8 = (1 : Int))))
          bif n9 then
            some (.inr (.inr false))
          else
            Option.bind (
              loopM (fun (s10 : (Int × (Int × (List (List Int))))) =>
                let n11 : Int := ((List.length c4.2.2) : Int)
                let n12 : Bool := (decide (s10.2.1 < n11))
                bif n12 then
                  ck (inB s10.2.1 (List.length c4.2.2)) <|
                  let n13 : FetchS := (List.getD c4.2.2 (Int.toNat ((Int.toNat s10.2.1) : Int)) (FetchS.mk (0 : Int) (0 : Int) (0 : Int)))
                  Option.bind (f16 c3.2.2.2.2.2.2.1 n13.address n13.size n13.kind) fun (c14 : (List Int)) =>
                  Option.bind (
                    loopM (fun (s15 : (Int × (Int × (List (List Int))))) =>
                      let n16 : Int := ((List.length c14) : Int)
                      let n17 : Bool := (decide (s15.2.1 < n16))
                      bif n17 then
                        Option.bind (
                          ck (inB s15.2.1 (List.length c14)) <|
                          let n18 : Int := (List.getD c14 (Int.toNat ((Int.toNat s15.2.1) : Int)) (0 : Int))
                          ck (!(decide (c3.2.2.2.2.2.2.2.1 = (0 : Int)))) <|
                          let n19 : Int := (Int.tmod n18 c3.2.2.2.2.2.2.2.1)
                          let n20 : Bool := (!(decide (n19 = s5.2)))
                          bif n20 then
                            some (s15.1, s15.2.2)
                          else
                            ck (inB s15.2.1 (List.length c14)) <|
                            let n21 : Int := (List.getD c14 (Int.toNat ((Int.toNat s15.2.1) : Int)) (0 : Int))
                            Option.bind (f12 s15.2.2 c3.2.2.2.2.2.2.2.2.1 n21) fun (c22 : (Bool × (List (List Int)))) =>
                            let n23 : Bool := (!c22.1)
                            Option.bind (
                              bif n23 then
                                let n24 : Int := (w64 (s15.1 + (1 : Int)))
                                some n24
                              else
                                some s15.1) fun (s25 : Int) =>
                            some (s25, c22.2)) fun (s26 : (Int × (List (List Int)))) =>
                        let n27 : Int := (w64 (s15.2.1 + (1 : Int)))
                        some (.inl (s26.1, (n27, s26.2)))
                      else
                        some (.inr (s15.1, s15.2.2))) (s10.1, ((0 : Int), s10.2.2))) fun (s28 : (Int × (List (List Int)))) =>
                  let n29 : Int := (w64 (s10.2.1 + (1 : Int)))
                  some (.inl (s28.1, (n29, s28.2)))
                else
                  some (.inr s10.1)) (s5.1, ((0 : Int), c7))) fun (s30 : Int) =>
            let n31 : Int := (w64 (s5.2 + (1 : Int)))
            some (.inl (s30, n31))
        else
          some (.inr (.inl s5.1))) ((0 : Int), (0 : Int))) fun (s32 : Int) =>
    Option.bind (f22 c3.1 c3.2.1 c3.2.2.1 c3.2.2.2.1 c3.2.2.2.2.1 c3.2.2.2.2.2.1 c3.2.2.2.2.2.2.1 c3.2.2.2.2.2.2.2.1 c3.2.2.2.2.2.2.2.2.1 c3.2.2.2.2.2.2.2.2.2.1 c3.2.2.2.2.2.2.2.2.2.2.1 c3.2.2.2.2.2.2.2.2.2.2.2.1 c4.2.2) fun (c33 : Int) =>
    let n34 : Bool := (decide (s32 = c33))
    some n34
noncomputable def sp7 : TSpec := ⟨sg7, fun x => f7 x⟩
theorem sound7 : TSound Try.prog 7 sp7 :=
  tsound_of (T := TTab.of [(8, sp8), (9, sp9), (20, sp20), (19, sp19), (10, sp10), (16, sp16), (12, sp12), (22, sp22)]) (ety := ety) [.tmp 2] an7 Try.func7 rfl rfl rfl (show sg7.er.ok = true by decide +kernel) rfl (show sg7.nargs ≤ Try.f7.ntmps by decide +kernel) rfl (TAll.sound ⟨sound8, sound9, sound20, sound19, sound10, sound16, sound12, sound22, trivial⟩) ttok mixed fun x => by kernel_rfl

end Go.Fg.Ytdioheaklahnnaa
