/-
  What the functions of the seat compute, printed by a program (wip/gen).
-/
import Derived.Test.YtcehajipaclnlaaDoorFgA
namespace Go.Fg.YtcehajipaclnlaaDoor
open Go.Fw Go.Proofs Go.Fw.YtcehajipaclnlaaDoor
set_option linter.unusedVariables false
set_option maxRecDepth 100000
/-- warmpath/warmpathdraw.New -/
noncomputable def f7 (p0 : (List Int)) (p1 : Int) : Option ((List Int) × Int) :=
  let n0 : Int := ((List.length p0) : Int)
  let n1 : Bool := (decide (p1 < n0))
  Option.bind (
    bif n1 then
      ck (slOk (0 : Int) p1 (List.length p0)) <|
      let n2 : (List Int) := (List.drop (Int.toNat (0 : Int)) (List.take (Int.toNat p1) p0))
      some n2
    else
      some p0) fun (s3 : (List Int)) =>
  some (s3, (0 : Int))
noncomputable def sp7 : TSpec := ⟨sg7, fun x => f7 x.1 x.2⟩
theorem sound7 : TSound Tryd.prog 7 sp7 :=
  tsound_of (T := TTab.of []) (ety := ety) [.tmp 4] an7 Tryd.func7 rfl rfl rfl (show sg7.er.ok = true by decide +kernel) rfl (show sg7.nargs ≤ Tryd.f7.ntmps by decide +kernel) rfl (TAll.sound trivial) ttok mixed fun x => by kernel_rfl

/-- (*warmpath/warmpathdraw.Codes).Next -/
noncomputable def f11S (rec : Int → (List Int) → Int → Option (Int × ((List Int) × Int))) (p0 : Int) (p1 : (List Int)) (p2 : Int) : Option (Int × ((List Int) × Int)) :=
  Option.bind (
    let n0 : Int := ((List.length p1) : Int)
    let n1 : Bool := (decide (n0 ≤ p2))
    bif n1 then
      some true
    else
      let n2 : Bool := (decide (p0 < (1 : Int)))
      let n3 : Bool := n2
      some n3) fun (s4 : Bool) =>
  bif s4 then
    some ((0 : Int), (p1, p2))
  else
    ck (inB p2 (List.length p1)) <|
    let n5 : Int := (List.getD p1 (Int.toNat p2) (0 : Int))
    let n6 : Int := (w64 n5)
    let n7 : Int := (w64 (p2 + (1 : Int)))
    let n8 : Bool := (decide ((256 : Int) < p0))
    bif n8 then
      let n9 : Int := (w64 ((256 : Int) * n6))
      Option.bind (rec (256 : Int) p1 n7) fun (c10 : (Int × ((List Int) × Int))) =>
      let n11 : Int := (w64 (n9 + c10.1))
      ck (!(decide (p0 = (0 : Int)))) <|
      let n12 : Int := (Int.tmod n11 p0)
      some (n12, (c10.2.1, c10.2.2))
    else
      ck (!(decide (p0 = (0 : Int)))) <|
      let n13 : Int := (Int.tmod n6 p0)
      some (n13, (p1, n7))
noncomputable def f11N : Nat → Int → (List Int) → Int → Option (Int × ((List Int) × Int))
  | 0 => fun _ _ _ => none
  | n + 1 => f11S (f11N n)
noncomputable def sp11N (n : Nat) : TSpec := ⟨sg11, fun x => f11N n x.1 x.2.1 x.2.2⟩
theorem sound11N : ∀ n, TSound Tryd.prog 11 (sp11N n)
  | 0 => tsound_none Tryd.func11 rfl rfl (show sg11.er.ok = true by decide +kernel) fun x => rfl
  | n + 1 => tsound_of (T := TTab.of [(11, sp11N n)]) (ety := ety) [.tmp 4] an11 Tryd.func11 rfl rfl rfl (show sg11.er.ok = true by decide +kernel) rfl (show sg11.nargs ≤ Tryd.f11.ntmps by decide +kernel) rfl (TAll.sound ⟨sound11N n, trivial⟩) ttok mixed fun x => by kernel_rfl
/-- (*warmpath/warmpathdraw.Codes).Next -/
noncomputable def f11 (p0 : Int) (p1 : (List Int)) (p2 : Int) : Option (Int × ((List Int) × Int)) := f11N 1048576 p0 p1 p2
noncomputable def sp11 : TSpec := ⟨sg11, fun x => f11 x.1 x.2.1 x.2.2⟩
theorem sound11 : TSound Tryd.prog 11 sp11 := sound11N 1048576

/-- warmpath/warmpathref01.Equal -/
noncomputable def f14 (p0 : (List Int)) (p1 : (List Int)) : Option Bool :=
  let n0 : Int := ((List.length p0) : Int)
  let n1 : Int := ((List.length p1) : Int)
  let n2 : Bool := (!(decide (n0 = n1)))
  bif n2 then
    some false
  else
    bindE (
      loopM (fun (s3 : Int) =>
        let n4 : Int := ((List.length p0) : Int)
        let n5 : Bool := (decide (s3 < n4))
        bif n5 then
          ck (inB s3 (List.length p0)) <|
          let n6 : Int := (List.getD p0 (Int.toNat s3) (0 : Int))
          ck (inB s3 (List.length p1)) <|
          let n7 : Int := (List.getD p1 (Int.toNat s3) (0 : Int))
          let n8 : Bool := (!(decide (n6 = n7)))
          bif n8 then
            some (.inr (.inr false))
          else
            let n9 : Int := (w64 (s3 + (1 : Int)))
            some (.inl n9)
        else
          some (.inr (.inl ()))) (0 : Int)) fun (s10 : PUnit) =>
    some true
noncomputable def sp14 : TSpec := ⟨sg14, fun x => f14 x.1 x.2⟩
theorem sound14 : TSound Tryd.prog 14 sp14 :=
  tsound_of (T := TTab.of []) (ety := ety) [.tmp 4] an14 Tryd.func14 rfl rfl rfl (show sg14.er.ok = true by decide +kernel) rfl (show sg14.nargs ≤ Tryd.f14.ntmps by decide +kernel) rfl (TAll.sound trivial) ttok mixed fun x => by kernel_rfl

/-- (*warmpath/warmpathdraw.Codes).Int -/
noncomputable def f15 (p0 : (List Int)) (p1 : Int) : Option (Int × ((List Int) × Int)) :=
  Option.bind (f11 (10 : Int) p0 p1) fun (c0 : (Int × ((List Int) × Int))) =>
  let n1 : Bool := (decide (c0.1 = (0 : Int)))
  bif n1 then
    Option.bind (f11 (3 : Int) c0.2.1 c0.2.2) fun (c2 : (Int × ((List Int) × Int))) =>
    let n3 : Int := (w64 ((-1 : Int) - c2.1))
    some (n3, (c2.2.1, c2.2.2))
  else
    let n4 : Bool := (decide (c0.1 = (1 : Int)))
    bif n4 then
      let n5 : (List Int) := [(9223372036854775807 : Int), (-9223372036854775808 : Int), (1048576 : Int), (1048577 : Int), (65535 : Int), (65536 : Int), (255 : Int), (256 : Int), (250 : Int), (249 : Int), (1099511627776 : Int), (1099511627777 : Int), (4294967296 : Int), (1073741824 : Int), (128 : Int), (127 : Int)]
      Option.bind (f11 (16 : Int) c0.2.1 c0.2.2) fun (c6 : (Int × ((List Int) × Int))) =>
      ck (inB c6.1 (List.length n5)) <|
      let n7 : Int := (List.getD n5 (Int.toNat ((Int.toNat c6.1) : Int)) (0 : Int))
      some (n7, (c6.2.1, c6.2.2))
    else
      let n8 : Bool := (decide (c0.1 = (2 : Int)))
      bif n8 then
        Option.bind (f11 (256 : Int) c0.2.1 c0.2.2) fun (c9 : (Int × ((List Int) × Int))) =>
        let n10 : Int := (w64 ((256 : Int) * c9.1))
        Option.bind (f11 (256 : Int) c9.2.1 c9.2.2) fun (c11 : (Int × ((List Int) × Int))) =>
        let n12 : Int := (w64 (n10 + c11.1))
        some (n12, (c11.2.1, c11.2.2))
      else
        Option.bind (f11 (40 : Int) c0.2.1 c0.2.2) fun (c13 : (Int × ((List Int) × Int))) =>
        some (c13.1, (c13.2.1, c13.2.2))
noncomputable def sp15 : TSpec := ⟨sg15, fun x => f15 x.1 x.2⟩
theorem sound15 : TSound Tryd.prog 15 sp15 :=
  tsound_of (T := TTab.of [(11, sp11)]) (ety := ety) [.tmp 2] an15 Tryd.func15 rfl rfl rfl (show sg15.er.ok = true by decide +kernel) rfl (show sg15.nargs ≤ Tryd.f15.ntmps by decide +kernel) rfl (TAll.sound ⟨sound11, trivial⟩) ttok mixed fun x => by kernel_rfl

/-- warmpath/machine.slots -/
noncomputable def f17 (p0 : Int) (p1 : Int) (p2 : Int) (p3 : Int) (p4 : Int) (p5 : Int) (p6 : Bool) (p7 : (List Int)) : Option (List Int) :=
  ck (inB p0 (19 : Nat)) <|
  let n0 : (List UInt8) := (List.getD tbl0 (Int.toNat p0) ([] : (List UInt8)))
  Option.bind (
    loopM (fun (s1 : ((List Int) × ((List UInt8) × Int))) =>
      bif (strN s1.2.1 s1.2.2) then
        let n2 : Bool := (decide ((runeAt s1.2.1 s1.2.2) = (100 : Int)))
        Option.bind (
          bif n2 then
            let n3 : (List Int) := [p2]
            ck (true && (decide ((((List.length s1.1) + (List.length n3)) * (8 : Nat)) ≤ (140737488355328 : Nat)))) <|
            let n4 : (List Int) := (s1.1 ++ n3)
            some n4
          else
            let n5 : Bool := (decide ((runeAt s1.2.1 s1.2.2) = (97 : Int)))
            Option.bind (
              bif n5 then
                let n6 : (List Int) := [p3]
                ck (true && (decide ((((List.length s1.1) + (List.length n6)) * (8 : Nat)) ≤ (140737488355328 : Nat)))) <|
                let n7 : (List Int) := (s1.1 ++ n6)
                some n7
              else
                let n8 : Bool := (decide ((runeAt s1.2.1 s1.2.2) = (98 : Int)))
                Option.bind (
                  bif n8 then
                    let n9 : (List Int) := [p4]
                    ck (true && (decide ((((List.length s1.1) + (List.length n9)) * (8 : Nat)) ≤ (140737488355328 : Nat)))) <|
                    let n10 : (List Int) := (s1.1 ++ n9)
                    some n10
                  else
                    let n11 : Bool := (decide ((runeAt s1.2.1 s1.2.2) = (110 : Int)))
                    Option.bind (
                      bif n11 then
                        ck (true && (decide ((((List.length s1.1) + (List.length p7)) * (8 : Nat)) ≤ (140737488355328 : Nat)))) <|
                        let n12 : (List Int) := (s1.1 ++ p7)
                        some n12
                      else
                        some s1.1) fun (s13 : (List Int)) =>
                    some s13) fun (s14 : (List Int)) =>
                some s14) fun (s15 : (List Int)) =>
            some s15) fun (s16 : (List Int)) =>
        some (.inl (s16, (s1.2.1, (afterRune s1.2.1 s1.2.2))))
      else
        some (.inr s1.1)) (([] : (List Int)), (n0, (0 : Int)))) fun (s17 : (List Int)) =>
  some s17
noncomputable def sp17 : TSpec := ⟨sg17, fun x => f17 x.1 x.2.1 x.2.2.1 x.2.2.2.1 x.2.2.2.2.1 x.2.2.2.2.2.1 x.2.2.2.2.2.2.1 x.2.2.2.2.2.2.2⟩
theorem sound17 : TSound Tryd.prog 17 sp17 :=
  tsound_of (T := TTab.of []) (ety := ety) [.tmp 2] an17 Tryd.func17 rfl rfl rfl (show sg17.er.ok = true by decide +kernel) rfl (show sg17.nargs ≤ Tryd.f17.ntmps by decide +kernel) rfl (TAll.sound trivial) ttok mixed fun x => by kernel_rfl

/-- warmpath/machine.within -/
noncomputable def f20 (p0 : Int) (p1 : Int) (p2 : Int) : Option Bool :=
  Option.bind (
    let n0 : Bool := (decide (p1 ≤ p0))
    bif n0 then
      let n1 : Bool := (decide (p0 ≤ p2))
      let n2 : Bool := n1
      some n2
    else
      some false) fun (s3 : Bool) =>
  some s3
noncomputable def sp20 : TSpec := ⟨sg20, fun x => f20 x.1 x.2.1 x.2.2⟩
theorem sound20 : TSound Tryd.prog 20 sp20 :=
  tsound_of (T := TTab.of []) (ety := ety) [.tmp 6] an20 Tryd.func20 rfl rfl rfl (show sg20.er.ok = true by decide +kernel) rfl (show sg20.nargs ≤ Tryd.f20.ntmps by decide +kernel) rfl (TAll.sound trivial) ttok mixed fun x => by kernel_rfl

/-- warmpath/machine.value -/
noncomputable def f21 (p0 : Int) (p1 : Int) (p2 : Int) (p3 : Int) (p4 : Int) (p5 : Int) (p6 : Bool) (p7 : (List Int)) : Option Bool :=
  let n0 : Bool := (decide (p0 = (5 : Int)))
  Option.bind (
    bif n0 then
      some true
    else
      let n1 : Bool := (decide (p0 = (6 : Int)))
      Option.bind (
        bif n1 then
          some true
        else
          let n2 : Bool := (decide (p0 = (7 : Int)))
          Option.bind (
            bif n2 then
              some true
            else
              let n3 : Bool := (decide (p0 = (8 : Int)))
              some n3) fun (s4 : Bool) =>
          some s4) fun (s5 : Bool) =>
      some s5) fun (s6 : Bool) =>
  bindE (
    bif s6 then
      some (.inl ((0 : Int), (31 : Int)))
    else
      let n7 : Bool := (decide (p0 = (11 : Int)))
      bindE (
        bif n7 then
          some (.inl ((0 : Int), (1048576 : Int)))
        else
          let n8 : Bool := (decide (p0 = (17 : Int)))
          bindE (
            bif n8 then
              some (.inl ((0 : Int), (4095 : Int)))
            else
              let n9 : Bool := (decide (p0 = (18 : Int)))
              bindE (
                bif n9 then
                  some (.inl ((0 : Int), (63 : Int)))
                else
                  let n10 : Bool := (decide (p0 = (13 : Int)))
                  Option.bind (
                    bif n10 then
                      some true
                    else
                      let n11 : Bool := (decide (p0 = (14 : Int)))
                      Option.bind (
                        bif n11 then
                          some true
                        else
                          let n12 : Bool := (decide (p0 = (15 : Int)))
                          some n12) fun (s13 : Bool) =>
                      some s13) fun (s14 : Bool) =>
                  bif s14 then
                    Option.bind (
                      bif p6 then
                        some ((-2147483648 : Int), (2147483647 : Int))
                      else
                        some ((-128 : Int), (127 : Int))) fun (s15 : (Int × Int)) =>
                    some (.inl (s15.1, s15.2))
                  else
                    some (.inr (.inr (.inr (.inr true))))) fun (s16 : (Int × Int)) =>
              some (.inl (s16.1, s16.2))) fun (s17 : (Int × Int)) =>
          some (.inl (s17.1, s17.2))) fun (s18 : (Int × Int)) =>
      some (.inl (s18.1, s18.2))) fun (s19 : (Int × Int)) =>
  Option.bind (f20 p5 s19.1 s19.2) fun (c20 : Bool) =>
  some c20
noncomputable def sp21 : TSpec := ⟨sg21, fun x => f21 x.1 x.2.1 x.2.2.1 x.2.2.2.1 x.2.2.2.2.1 x.2.2.2.2.2.1 x.2.2.2.2.2.2.1 x.2.2.2.2.2.2.2⟩
theorem sound21 : TSound Tryd.prog 21 sp21 :=
  tsound_of (T := TTab.of [(20, sp20)]) (ety := ety) [.tmp 2] an21 Tryd.func21 rfl rfl rfl (show sg21.er.ok = true by decide +kernel) rfl (show sg21.nargs ≤ Tryd.f21.ntmps by decide +kernel) rfl (TAll.sound ⟨sound20, trivial⟩) ttok mixed fun x => by kernel_rfl

/-- warmpath/machine.put -/
noncomputable def f22 (p0 : Int) (p1 : Int) (p2 : (List Int)) : Option (List Int) :=
  Option.bind (
    loopM (fun (s0 : (Int × (List Int))) =>
      let n1 : Bool := (decide (s0.1 < p1))
      bif n1 then
        let n2 : Int := (Go.IntKind.wrap .u64 p0)
        let n3 : Int := (w64 ((8 : Int) * s0.1))
        ck (decide ((0 : Int) ≤ n3)) <|
        let n4 : Int := (Int.fdiv n2 ((2 : Int) ^ (min (Int.toNat n3) (64 : Nat))))
        let n5 : Int := (Go.IntKind.wrap .u8 n4)
        let n6 : (List Int) := [n5]
        ck (true && (decide ((((List.length s0.2) + (List.length n6)) * (1 : Nat)) ≤ (140737488355328 : Nat)))) <|
        let n7 : (List Int) := (s0.2 ++ n6)
        let n8 : Int := (w64 (s0.1 + (1 : Int)))
        some (.inl (n8, n7))
      else
        some (.inr s0.2)) ((0 : Int), p2)) fun (s9 : (List Int)) =>
  some s9
noncomputable def sp22 : TSpec := ⟨sg22, fun x => f22 x.1 x.2.1 x.2.2⟩
theorem sound22 : TSound Tryd.prog 22 sp22 :=
  tsound_of (T := TTab.of []) (ety := ety) [.tmp 6] an22 Tryd.func22 rfl rfl rfl (show sg22.er.ok = true by decide +kernel) rfl (show sg22.nargs ≤ Tryd.f22.ntmps by decide +kernel) rfl (TAll.sound trivial) ttok mixed fun x => by kernel_rfl

/-- warmpath/machine.distance -/
noncomputable def f23 (p0 : Bool) : Option Int :=
  bif p0 then
    some (4 : Int)
  else
    some (1 : Int)
noncomputable def sp23 : TSpec := ⟨sg23, fun x => f23 x⟩
theorem sound23 : TSound Tryd.prog 23 sp23 :=
  tsound_of (T := TTab.of []) (ety := ety) [.tmp 2] an23 Tryd.func23 rfl rfl rfl (show sg23.er.ok = true by decide +kernel) rfl (show sg23.nargs ≤ Tryd.f23.ntmps by decide +kernel) rfl (TAll.sound trivial) ttok mixed fun x => by kernel_rfl

/-- warmpath/machine.jumps -/
noncomputable def f24 (p0 : Int) : Option Bool :=
  Option.bind (f20 p0 (13 : Int) (15 : Int)) fun (c0 : Bool) =>
  some c0
noncomputable def sp24 : TSpec := ⟨sg24, fun x => f24 x⟩
theorem sound24 : TSound Tryd.prog 24 sp24 :=
  tsound_of (T := TTab.of [(20, sp20)]) (ety := ety) [.tmp 2] an24 Tryd.func24 rfl rfl rfl (show sg24.er.ok = true by decide +kernel) rfl (show sg24.nargs ≤ Tryd.f24.ntmps by decide +kernel) rfl (TAll.sound ⟨sound20, trivial⟩) ttok mixed fun x => by kernel_rfl

/-- (*warmpath/machine.reader).get -/
noncomputable def f25 (p0 : Int) (p1 : (List Int)) (p2 : Int) (p3 : Bool) : Option (Int × ((List Int) × (Int × Bool))) :=
  Option.bind (
    bif p3 then
      some (p1, (p2, true))
    else
      let n0 : Int := ((List.length p1) : Int)
      let n1 : Int := (w64 (n0 - p2))
      let n2 : Bool := (decide (n1 < p0))
      let n3 : Bool := n2
      some (p1, (p2, n3))) fun (s4 : ((List Int) × (Int × Bool))) =>
  bif s4.2.2 then
    some ((0 : Int), (s4.1, (s4.2.1, s4.2.2)))
  else
    Option.bind (
      loopM (fun (s5 : (Int × Int)) =>
        let n6 : Bool := (decide (s5.2 < p0))
        bif n6 then
          let n7 : Int := (w64 (s4.2.1 + s5.2))
          ck (inB n7 (List.length s4.1)) <|
          let n8 : Int := (List.getD s4.1 (Int.toNat n7) (0 : Int))
          let n9 : Int := (Go.IntKind.wrap .u64 n8)
          let n10 : Int := (w64 ((8 : Int) * s5.2))
          ck (decide ((0 : Int) ≤ n10)) <|
          let n11 : Int := (Go.IntKind.wrap .u64 (n9 * ((2 : Int) ^ (min (Int.toNat n10) (64 : Nat)))))
          let n12 : Int := (Go.bits .or .u64 s5.1 n11)
          let n13 : Int := (w64 (s5.2 + (1 : Int)))
          some (.inl (n12, n13))
        else
          some (.inr s5.1)) ((0 : Int), (0 : Int))) fun (s14 : Int) =>
    let n15 : Int := (w64 (s4.2.1 + p0))
    let n16 : Int := (w64 s14)
    some (n16, (s4.1, (n15, s4.2.2)))
noncomputable def sp25 : TSpec := ⟨sg25, fun x => f25 x.1 x.2.1 x.2.2.1 x.2.2.2⟩
theorem sound25 : TSound Tryd.prog 25 sp25 :=
  tsound_of (T := TTab.of []) (ety := ety) [.tmp 4] an25 Tryd.func25 rfl rfl rfl (show sg25.er.ok = true by decide +kernel) rfl (show sg25.nargs ≤ Tryd.f25.ntmps by decide +kernel) rfl (TAll.sound trivial) ttok mixed fun x => by kernel_rfl

/-- (*warmpath/machine.reader).signed -/
noncomputable def f26 (p0 : Bool) (p1 : (List Int)) (p2 : Int) (p3 : Bool) : Option (Int × ((List Int) × (Int × Bool))) :=
  Option.bind (f23 p0) fun (c0 : Int) =>
  Option.bind (f25 c0 p1 p2 p3) fun (c1 : (Int × ((List Int) × (Int × Bool)))) =>
  bif p0 then
    let n2 : Int := (Go.IntKind.wrap .i32 c1.1)
    let n3 : Int := (w64 n2)
    some (n3, (c1.2.1, (c1.2.2.1, c1.2.2.2)))
  else
    let n4 : Int := (Go.IntKind.wrap .i8 c1.1)
    let n5 : Int := (w64 n4)
    some (n5, (c1.2.1, (c1.2.2.1, c1.2.2.2)))
noncomputable def sp26 : TSpec := ⟨sg26, fun x => f26 x.1 x.2.1 x.2.2.1 x.2.2.2⟩
theorem sound26 : TSound Tryd.prog 26 sp26 :=
  tsound_of (T := TTab.of [(23, sp23), (25, sp25)]) (ety := ety) [.tmp 4] an26 Tryd.func26 rfl rfl rfl (show sg26.er.ok = true by decide +kernel) rfl (show sg26.nargs ≤ Tryd.f26.ntmps by decide +kernel) rfl (TAll.sound ⟨sound23, sound25, trivial⟩) ttok mixed fun x => by kernel_rfl

/-- (*warmpath/warmpathdraw.Codes).Code -/
noncomputable def f8 (p0 : (List Int)) (p1 : Int) : Option (Int × (Int × (Int × (Int × (Int × (Int × (Bool × ((List Int) × (Int × (List Int)))))))))) :=
  Option.bind (f11 (18 : Int) p0 p1) fun (c0 : (Int × ((List Int) × Int))) =>
  let n1 : Int := (w64 ((1 : Int) + c0.1))
  Option.bind (f11 (12 : Int) c0.2.1 c0.2.2) fun (c2 : (Int × ((List Int) × Int))) =>
  Option.bind (f11 (8 : Int) c2.2.1 c2.2.2) fun (c3 : (Int × ((List Int) × Int))) =>
  Option.bind (f11 (8 : Int) c3.2.1 c3.2.2) fun (c4 : (Int × ((List Int) × Int))) =>
  Option.bind (f11 (8 : Int) c4.2.1 c4.2.2) fun (c5 : (Int × ((List Int) × Int))) =>
  Option.bind (f11 (30 : Int) c5.2.1 c5.2.2) fun (c6 : (Int × ((List Int) × Int))) =>
  Option.bind (f11 (4 : Int) c6.2.1 c6.2.2) fun (c7 : (Int × ((List Int) × Int))) =>
  Option.bind (
    loopM (fun (s8 : (Int × ((List Int) × (Int × (Int × (Int × (Int × (Int × (Int × (Int × (Bool × (List Int)))))))))))) =>
      let n9 : Bool := (decide ((0 : Int) < s8.1))
      bif n9 then
        Option.bind (f11 (8 : Int) s8.2.1 s8.2.2.1) fun (c10 : (Int × ((List Int) × Int))) =>
        let n11 : (List Int) := [c10.1]
        ck (true && (decide ((((List.length s8.2.2.2.2.2.2.2.2.2.2) + (List.length n11)) * (8 : Nat)) ≤ (140737488355328 : Nat)))) <|
        let n12 : (List Int) := (s8.2.2.2.2.2.2.2.2.2.2 ++ n11)
        let n13 : Int := (w64 (s8.1 - (1 : Int)))
        some (.inl (n13, (c10.2.1, (c10.2.2, (s8.2.2.2.1, (s8.2.2.2.2.1, (s8.2.2.2.2.2.1, (s8.2.2.2.2.2.2.1, (s8.2.2.2.2.2.2.2.1, (s8.2.2.2.2.2.2.2.2.1, (s8.2.2.2.2.2.2.2.2.2.1, n12)))))))))))
      else
        some (.inr (s8.2.1, (s8.2.2.1, (s8.2.2.2.1, (s8.2.2.2.2.1, (s8.2.2.2.2.2.1, (s8.2.2.2.2.2.2.1, (s8.2.2.2.2.2.2.2.1, (s8.2.2.2.2.2.2.2.2.1, (s8.2.2.2.2.2.2.2.2.2.1, s8.2.2.2.2.2.2.2.2.2.2))))))))))) (c7.1, (c7.2.1, (c7.2.2, (n1, (c2.1, (c3.1, (c4.1, (c5.1, (c6.1, (false, ([] : (List Int))))))))))))) fun (s14 : ((List Int) × (Int × (Int × (Int × (Int × (Int × (Int × (Int × (Bool × (List Int))))))))))) =>
  let n15 : Bool := (decide (s14.2.2.1 = (3 : Int)))
  Option.bind (
    bif n15 then
      Option.bind (f11 (2 : Int) s14.1 s14.2.1) fun (c16 : (Int × ((List Int) × Int))) =>
      let n17 : Int := (w64 ((1 : Int) + c16.1))
      some (c16.2.1, (c16.2.2, (s14.2.2.1, (n17, (s14.2.2.2.2.1, (s14.2.2.2.2.2.1, (s14.2.2.2.2.2.2.1, (s14.2.2.2.2.2.2.2.1, s14.2.2.2.2.2.2.2.2.1))))))))
    else
      some (s14.1, (s14.2.1, (s14.2.2.1, (s14.2.2.2.1, (s14.2.2.2.2.1, (s14.2.2.2.2.2.1, (s14.2.2.2.2.2.2.1, (s14.2.2.2.2.2.2.2.1, s14.2.2.2.2.2.2.2.2.1))))))))) fun (s18 : ((List Int) × (Int × (Int × (Int × (Int × (Int × (Int × (Int × Bool))))))))) =>
  let n19 : Bool := (decide (s18.2.2.1 = (4 : Int)))
  Option.bind (
    bif n19 then
      Option.bind (f11 (9 : Int) s18.1 s18.2.1) fun (c20 : (Int × ((List Int) × Int))) =>
      let n21 : Int := (w64 ((3 : Int) + c20.1))
      some (c20.2.1, (c20.2.2, (s18.2.2.1, (n21, (s18.2.2.2.2.1, (s18.2.2.2.2.2.1, (s18.2.2.2.2.2.2.1, (s18.2.2.2.2.2.2.2.1, s18.2.2.2.2.2.2.2.2))))))))
    else
      some (s18.1, (s18.2.1, (s18.2.2.1, (s18.2.2.2.1, (s18.2.2.2.2.1, (s18.2.2.2.2.2.1, (s18.2.2.2.2.2.2.1, (s18.2.2.2.2.2.2.2.1, s18.2.2.2.2.2.2.2.2))))))))) fun (s22 : ((List Int) × (Int × (Int × (Int × (Int × (Int × (Int × (Int × Bool))))))))) =>
  Option.bind (
    let n23 : Bool := (decide (s22.2.2.1 = (13 : Int)))
    bif n23 then
      Option.bind (f11 (2 : Int) s22.1 s22.2.1) fun (c24 : (Int × ((List Int) × Int))) =>
      let n25 : Bool := (decide (c24.1 = (1 : Int)))
      let n26 : Bool := n25
      some (c24.2.1, (c24.2.2, (s22.2.2.1, (s22.2.2.2.1, (s22.2.2.2.2.1, (s22.2.2.2.2.2.1, (s22.2.2.2.2.2.2.1, (s22.2.2.2.2.2.2.2.1, n26))))))))
    else
      let n27 : Bool := (decide (s22.2.2.1 = (14 : Int)))
      let n28 : Bool := n27
      bif n28 then
        Option.bind (f11 (2 : Int) s22.1 s22.2.1) fun (c29 : (Int × ((List Int) × Int))) =>
        let n30 : Bool := (decide (c29.1 = (1 : Int)))
        let n31 : Bool := n30
        some (c29.2.1, (c29.2.2, (s22.2.2.1, (s22.2.2.2.1, (s22.2.2.2.2.1, (s22.2.2.2.2.2.1, (s22.2.2.2.2.2.2.1, (s22.2.2.2.2.2.2.2.1, n31))))))))
      else
        let n32 : Bool := (decide (s22.2.2.1 = (15 : Int)))
        let n33 : Bool := n32
        bif n33 then
          Option.bind (f11 (2 : Int) s22.1 s22.2.1) fun (c34 : (Int × ((List Int) × Int))) =>
          let n35 : Bool := (decide (c34.1 = (1 : Int)))
          let n36 : Bool := n35
          some (c34.2.1, (c34.2.2, (s22.2.2.1, (s22.2.2.2.1, (s22.2.2.2.2.1, (s22.2.2.2.2.2.1, (s22.2.2.2.2.2.2.1, (s22.2.2.2.2.2.2.2.1, n36))))))))
        else
          some (s22.1, (s22.2.1, (s22.2.2.1, (s22.2.2.2.1, (s22.2.2.2.2.1, (s22.2.2.2.2.2.1, (s22.2.2.2.2.2.2.1, (s22.2.2.2.2.2.2.2.1, false))))))))) fun (s37 : ((List Int) × (Int × (Int × (Int × (Int × (Int × (Int × (Int × Bool))))))))) =>
  Option.bind (f11 (10 : Int) s37.1 s37.2.1) fun (c38 : (Int × ((List Int) × Int))) =>
  let n39 : Bool := (decide (c38.1 = (6 : Int)))
  Option.bind (
    bif n39 then
      Option.bind (f15 c38.2.1 c38.2.2) fun (c40 : (Int × ((List Int) × Int))) =>
      some (c40.2.1, (c40.2.2, (s37.2.2.1, (s37.2.2.2.1, (s37.2.2.2.2.1, (s37.2.2.2.2.2.1, (s37.2.2.2.2.2.2.1, (c40.1, s37.2.2.2.2.2.2.2.2))))))))
    else
      let n41 : Bool := (decide (c38.1 = (7 : Int)))
      Option.bind (
        bif n41 then
          Option.bind (f15 c38.2.1 c38.2.2) fun (c42 : (Int × ((List Int) × Int))) =>
          Option.bind (f15 c42.2.1 c42.2.2) fun (c43 : (Int × ((List Int) × Int))) =>
          some (c43.2.1, (c43.2.2, (s37.2.2.1, (s37.2.2.2.1, (c42.1, (c43.1, (s37.2.2.2.2.2.2.1, (s37.2.2.2.2.2.2.2.1, s37.2.2.2.2.2.2.2.2))))))))
        else
          let n44 : Bool := (decide (c38.1 = (8 : Int)))
          Option.bind (
            bif n44 then
              Option.bind (f11 (24 : Int) c38.2.1 c38.2.2) fun (c45 : (Int × ((List Int) × Int))) =>
              let n46 : Int := (w64 (c45.1 - (1 : Int)))
              Option.bind (f11 (2 : Int) c45.2.1 c45.2.2) fun (c47 : (Int × ((List Int) × Int))) =>
              let n48 : Bool := (decide (c47.1 = (1 : Int)))
              some (c47.2.1, (c47.2.2, (n46, (s37.2.2.2.1, (s37.2.2.2.2.1, (s37.2.2.2.2.2.1, (s37.2.2.2.2.2.2.1, (s37.2.2.2.2.2.2.2.1, n48))))))))
            else
              let n49 : Bool := (decide (c38.1 = (9 : Int)))
              Option.bind (
                bif n49 then
                  let n50 : (List Int) := [(-128 : Int), (-129 : Int), (127 : Int), (128 : Int), (-2147483648 : Int), (2147483647 : Int), (2147483648 : Int), (31 : Int), (32 : Int), (63 : Int), (64 : Int), (4095 : Int), (4096 : Int)]
                  Option.bind (f11 (13 : Int) c38.2.1 c38.2.2) fun (c51 : (Int × ((List Int) × Int))) =>
                  ck (inB c51.1 (List.length n50)) <|
                  let n52 : Int := (List.getD n50 (Int.toNat ((Int.toNat c51.1) : Int)) (0 : Int))
                  some (c51.2.1, (c51.2.2, (s37.2.2.1, (s37.2.2.2.1, (s37.2.2.2.2.1, (s37.2.2.2.2.2.1, (s37.2.2.2.2.2.2.1, (n52, s37.2.2.2.2.2.2.2.2))))))))
                else
                  some (c38.2.1, (c38.2.2, (s37.2.2.1, (s37.2.2.2.1, (s37.2.2.2.2.1, (s37.2.2.2.2.2.1, (s37.2.2.2.2.2.2.1, (s37.2.2.2.2.2.2.2.1, s37.2.2.2.2.2.2.2.2))))))))) fun (s53 : ((List Int) × (Int × (Int × (Int × (Int × (Int × (Int × (Int × Bool))))))))) =>
              some (s53.1, (s53.2.1, (s53.2.2.1, (s53.2.2.2.1, (s53.2.2.2.2.1, (s53.2.2.2.2.2.1, (s53.2.2.2.2.2.2.1, (s53.2.2.2.2.2.2.2.1, s53.2.2.2.2.2.2.2.2))))))))) fun (s54 : ((List Int) × (Int × (Int × (Int × (Int × (Int × (Int × (Int × Bool))))))))) =>
          some (s54.1, (s54.2.1, (s54.2.2.1, (s54.2.2.2.1, (s54.2.2.2.2.1, (s54.2.2.2.2.2.1, (s54.2.2.2.2.2.2.1, (s54.2.2.2.2.2.2.2.1, s54.2.2.2.2.2.2.2.2))))))))) fun (s55 : ((List Int) × (Int × (Int × (Int × (Int × (Int × (Int × (Int × Bool))))))))) =>
      some (s55.1, (s55.2.1, (s55.2.2.1, (s55.2.2.2.1, (s55.2.2.2.2.1, (s55.2.2.2.2.2.1, (s55.2.2.2.2.2.2.1, (s55.2.2.2.2.2.2.2.1, s55.2.2.2.2.2.2.2.2))))))))) fun (s56 : ((List Int) × (Int × (Int × (Int × (Int × (Int × (Int × (Int × Bool))))))))) =>
  some (s56.2.2.1, (s56.2.2.2.1, (s56.2.2.2.2.1, (s56.2.2.2.2.2.1, (s56.2.2.2.2.2.2.1, (s56.2.2.2.2.2.2.2.1, (s56.2.2.2.2.2.2.2.2, (s56.1, (s56.2.1, s14.2.2.2.2.2.2.2.2.2)))))))))
noncomputable def sp8 : TSpec := ⟨sg8, fun x => f8 x.1 x.2⟩
theorem sound8 : TSound Tryd.prog 8 sp8 :=
  tsound_of (T := TTab.of [(11, sp11), (15, sp15)]) (ety := ety) [.cell 2 26] an8 Tryd.func8 rfl rfl rfl (show sg8.er.ok = true by decide +kernel) rfl (show sg8.nargs ≤ Tryd.f8.ntmps by decide +kernel) rfl (TAll.sound ⟨sound11, sound15, trivial⟩) ttok mixed fun x => by kernel_rfl

/-- warmpath/machine.operation -/
noncomputable def f16 (p0 : Int) (p1 : Int) (p2 : Int) (p3 : Int) (p4 : Int) (p5 : Int) (p6 : Bool) (p7 : (List Int)) : Option Bool :=
  Option.bind (f20 p0 (1 : Int) (18 : Int)) fun (c0 : Bool) =>
  let n1 : Bool := (!c0)
  Option.bind (
    bif n1 then
      some true
    else
      Option.bind (
        bif p6 then
          Option.bind (f24 p0) fun (c2 : Bool) =>
          let n3 : Bool := (!c2)
          let n4 : Bool := n3
          some n4
        else
          some false) fun (s5 : Bool) =>
      some s5) fun (s6 : Bool) =>
  bif s6 then
    some false
  else
    let n7 : Bool := (decide (p0 = (3 : Int)))
    bif n7 then
      Option.bind (f20 p1 (1 : Int) (2 : Int)) fun (c8 : Bool) =>
      some c8
    else
      let n9 : Bool := (decide (p0 = (4 : Int)))
      bif n9 then
        Option.bind (f20 p1 (3 : Int) (11 : Int)) fun (c10 : Bool) =>
        some c10
      else
        some true
noncomputable def sp16 : TSpec := ⟨sg16, fun x => f16 x.1 x.2.1 x.2.2.1 x.2.2.2.1 x.2.2.2.2.1 x.2.2.2.2.2.1 x.2.2.2.2.2.2.1 x.2.2.2.2.2.2.2⟩
theorem sound16 : TSound Tryd.prog 16 sp16 :=
  tsound_of (T := TTab.of [(20, sp20), (24, sp24)]) (ety := ety) [.tmp 2] an16 Tryd.func16 rfl rfl rfl (show sg16.er.ok = true by decide +kernel) rfl (show sg16.nargs ≤ Tryd.f16.ntmps by decide +kernel) rfl (TAll.sound ⟨sound20, sound24, trivial⟩) ttok mixed fun x => by kernel_rfl

/-- warmpath/machine.Check$1 -/
noncomputable def f19 (p0 : Int) : Option Bool :=
  Option.bind (f20 p0 (0 : Int) (249 : Int)) fun (c0 : Bool) =>
  let n1 : Bool := (!c0)
  some n1
noncomputable def sp19 : TSpec := ⟨sg19, fun x => f19 x⟩
theorem sound19 : TSound Tryd.prog 19 sp19 :=
  tsound_of (T := TTab.of [(20, sp20)]) (ety := ety) [.tmp 2] an19 Tryd.func19 rfl rfl rfl (show sg19.er.ok = true by decide +kernel) rfl (show sg19.nargs ≤ Tryd.f19.ntmps by decide +kernel) rfl (TAll.sound ⟨sound20, trivial⟩) ttok mixed fun x => by kernel_rfl

/-- slices.IndexFunc[[]int,int] -/
noncomputable def f27 (p0 : (List Int)) : Option Int :=
  let n0 : Int := ((List.length p0) : Int)
  bindE (
    loopM (fun (s1 : Int) =>
      let n2 : Bool := (decide (s1 < n0))
      bif n2 then
        ck (inB s1 (List.length p0)) <|
        let n3 : Int := (List.getD p0 (Int.toNat s1) (0 : Int))
        Option.bind (f19 n3) fun (c4 : Bool) =>
        bif c4 then
          some (.inr (.inr s1))
        else
          let n5 : Int := (w64 (s1 + (1 : Int)))
          some (.inl n5)
      else
        some (.inr (.inl ()))) (0 : Int)) fun (s6 : PUnit) =>
  some (-1 : Int)
noncomputable def sp27 : TSpec := ⟨sg27, fun x => f27 x⟩
theorem sound27 : TSound Tryd.prog 27 sp27 :=
  tsound_of (T := TTab.of [(19, sp19)]) (ety := ety) [.tmp 4] an27 Tryd.func27 rfl rfl rfl (show sg27.er.ok = true by decide +kernel) rfl (show sg27.nargs ≤ Tryd.f27.ntmps by decide +kernel) rfl (TAll.sound ⟨sound19, trivial⟩) ttok mixed fun x => by kernel_rfl

/-- slices.ContainsFunc[[]int,int] -/
noncomputable def f18 (p0 : (List Int)) : Option Bool :=
  Option.bind (f27 p0) fun (c0 : Int) =>
  let n1 : Bool := (decide ((0 : Int) ≤ c0))
  some n1
noncomputable def sp18 : TSpec := ⟨sg18, fun x => f18 x⟩
theorem sound18 : TSound Tryd.prog 18 sp18 :=
  tsound_of (T := TTab.of [(27, sp27), (19, sp19)]) (ety := ety) [.tmp 4] an18 Tryd.func18 rfl rfl rfl (show sg18.er.ok = true by decide +kernel) rfl (show sg18.nargs ≤ Tryd.f18.ntmps by decide +kernel) rfl (TAll.sound ⟨sound27, sound19, trivial⟩) ttok mixed fun x => by kernel_rfl

/-- warmpath/machine.Check -/
noncomputable def f9 (p0 : Int) (p1 : Int) (p2 : Int) (p3 : Int) (p4 : Int) (p5 : Int) (p6 : Bool) (p7 : (List Int)) : Option Int :=
  Option.bind (f16 p0 p1 p2 p3 p4 p5 p6 p7) fun (c0 : Bool) =>
  let n1 : Bool := (!c0)
  bif n1 then
    some (17 : Int)
  else
    Option.bind (f17 p0 p1 p2 p3 p4 p5 p6 p7) fun (c2 : (List Int)) =>
    Option.bind (
      Option.bind (f18 c2) fun (c3 : Bool) =>
      bif c3 then
        some true
      else
        let n4 : Int := ((List.length p7) : Int)
        let n5 : Bool := (decide ((250 : Int) < n4))
        bif n5 then
          ck (inB p0 (19 : Nat)) <|
          let n6 : (List UInt8) := (List.getD tbl0 (Int.toNat p0) ([] : (List UInt8)))
          ck (inB p0 (19 : Nat)) <|
          let n7 : (List UInt8) := (List.getD tbl0 (Int.toNat p0) ([] : (List UInt8)))
          let n8 : Int := ((List.length n7) : Int)
          let n9 : Int := (w64 (n8 - (1 : Int)))
          ck (inB n9 (List.length n6)) <|
          let n10 : Int := ((UInt8.toNat (List.getD n6 (Int.toNat n9) (0 : UInt8))) : Int)
          let n11 : Bool := (decide (n10 = (110 : Int)))
          let n12 : Bool := n11
          let n13 : Bool := n12
          some n13
        else
          let n14 : Bool := false
          some n14) fun (s15 : Bool) =>
    bif s15 then
      some (14 : Int)
    else
      Option.bind (f21 p0 p1 p2 p3 p4 p5 p6 p7) fun (c16 : Bool) =>
      let n17 : Bool := (!c16)
      bif n17 then
        some (1 : Int)
      else
        some (0 : Int)
noncomputable def sp9 : TSpec := ⟨sg9, fun x => f9 x.1 x.2.1 x.2.2.1 x.2.2.2.1 x.2.2.2.2.1 x.2.2.2.2.2.1 x.2.2.2.2.2.2.1 x.2.2.2.2.2.2.2⟩
theorem sound9 : TSound Tryd.prog 9 sp9 :=
  tsound_of (T := TTab.of [(16, sp16), (17, sp17), (18, sp18), (21, sp21)]) (ety := ety) [.tmp 2] an9 Tryd.func9 rfl rfl rfl (show sg9.er.ok = true by decide +kernel) rfl (show sg9.nargs ≤ Tryd.f9.ntmps by decide +kernel) rfl (TAll.sound ⟨sound16, sound17, sound18, sound21, trivial⟩) ttok mixed fun x => by kernel_rfl

/-- warmpath/machine.Encode -/
noncomputable def f12 (p0 : Int) (p1 : Int) (p2 : Int) (p3 : Int) (p4 : Int) (p5 : Int) (p6 : Bool) (p7 : (List Int)) : Option (Int × (List Int)) :=
  Option.bind (f9 p0 p1 p2 p3 p4 p5 p6 p7) fun (c0 : Int) =>
  let n1 : Bool := (!(decide (c0 = (0 : Int))))
  bif n1 then
    some (c0, ([] : (List Int)))
  else
    let n2 : Int := (Go.IntKind.wrap .u8 p0)
    let n3 : (List Int) := [n2]
    Option.bind (
      bif p6 then
        ck (inB (0 : Int) (List.length n3)) <|
        let n4 : Int := (List.getD n3 (Int.toNat ((Int.toNat (0 : Int)) : Int)) (0 : Int))
        let n5 : Int := (Go.IntKind.wrap .u8 (n4 + (128 : Int)))
        ck (inB (0 : Int) (List.length n3)) <|
        let n6 : (List Int) := (List.set n3 (Int.toNat ((Int.toNat (0 : Int)) : Int)) n5)
        some n6
      else
        some n3) fun (s7 : (List Int)) =>
    ck (inB p0 (19 : Nat)) <|
    let n8 : (List UInt8) := (List.getD tbl0 (Int.toNat p0) ([] : (List UInt8)))
    Option.bind (
      loopM (fun (s9 : ((List Int) × ((List UInt8) × Int))) =>
        bif (strN s9.2.1 s9.2.2) then
          let n10 : Bool := (decide ((runeAt s9.2.1 s9.2.2) = (111 : Int)))
          Option.bind (
            bif n10 then
              Option.bind (f22 p1 (1 : Int) s9.1) fun (c11 : (List Int)) =>
              some c11
            else
              let n12 : Bool := (decide ((runeAt s9.2.1 s9.2.2) = (100 : Int)))
              Option.bind (
                bif n12 then
                  Option.bind (f22 p2 (1 : Int) s9.1) fun (c13 : (List Int)) =>
                  some c13
                else
                  let n14 : Bool := (decide ((runeAt s9.2.1 s9.2.2) = (97 : Int)))
                  Option.bind (
                    bif n14 then
                      Option.bind (f22 p3 (1 : Int) s9.1) fun (c15 : (List Int)) =>
                      some c15
                    else
                      let n16 : Bool := (decide ((runeAt s9.2.1 s9.2.2) = (98 : Int)))
                      Option.bind (
                        bif n16 then
                          Option.bind (f22 p4 (1 : Int) s9.1) fun (c17 : (List Int)) =>
                          some c17
                        else
                          let n18 : Bool := (decide ((runeAt s9.2.1 s9.2.2) = (106 : Int)))
                          Option.bind (
                            bif n18 then
                              Option.bind (f23 p6) fun (c19 : Int) =>
                              Option.bind (f22 p5 c19 s9.1) fun (c20 : (List Int)) =>
                              some c20
                            else
                              let n21 : Bool := (decide ((runeAt s9.2.1 s9.2.2) = (110 : Int)))
                              Option.bind (
                                bif n21 then
                                  let n22 : Int := ((List.length p7) : Int)
                                  Option.bind (f22 n22 (1 : Int) s9.1) fun (c23 : (List Int)) =>
                                  let n24 : Int := ((List.length p7) : Int)
                                  Option.bind (
                                    loopM (fun (s25 : (Int × (List Int))) =>
                                      let n26 : Bool := (decide (s25.1 < n24))
                                      bif n26 then
                                        ck (inB s25.1 (List.length p7)) <|
                                        let n27 : Int := (List.getD p7 (Int.toNat s25.1) (0 : Int))
                                        Option.bind (f22 n27 (1 : Int) s25.2) fun (c28 : (List Int)) =>
                                        let n29 : Int := (w64 (s25.1 + (1 : Int)))
                                        some (.inl (n29, c28))
                                      else
                                        some (.inr s25.2)) ((0 : Int), c23)) fun (s30 : (List Int)) =>
                                  some s30
                                else
                                  let n31 : Int := (Go.IntKind.wrap .i32 ((runeAt s9.2.1 s9.2.2) - (48 : Int)))
                                  let n32 : Int := (w64 n31)
                                  Option.bind (f22 p5 n32 s9.1) fun (c33 : (List Int)) =>
                                  some c33) fun (s34 : (List Int)) =>
                              some s34) fun (s35 : (List Int)) =>
                          some s35) fun (s36 : (List Int)) =>
                      some s36) fun (s37 : (List Int)) =>
                  some s37) fun (s38 : (List Int)) =>
              some s38) fun (s39 : (List Int)) =>
          some (.inl (s39, (s9.2.1, (afterRune s9.2.1 s9.2.2))))
        else
          some (.inr s9.1)) (s7, (n8, (0 : Int)))) fun (s40 : (List Int)) =>
    some ((0 : Int), s40)
noncomputable def sp12 : TSpec := ⟨sg12, fun x => f12 x.1 x.2.1 x.2.2.1 x.2.2.2.1 x.2.2.2.2.1 x.2.2.2.2.2.1 x.2.2.2.2.2.2.1 x.2.2.2.2.2.2.2⟩
theorem sound12 : TSound Tryd.prog 12 sp12 :=
  tsound_of (T := TTab.of [(9, sp9), (22, sp22), (23, sp23)]) (ety := ety) [.tmp 2, .tmp 3] an12 Tryd.func12 rfl rfl rfl (show sg12.er.ok = true by decide +kernel) rfl (show sg12.nargs ≤ Tryd.f12.ntmps by decide +kernel) rfl (TAll.sound ⟨sound9, sound22, sound23, trivial⟩) ttok mixed fun x => by kernel_rfl

/-- warmpath/machine.Decode -/
noncomputable def f13 (p0 : (List Int)) (p1 : Int) : Option (Int × (Int × (Int × (Int × (Int × (Int × (Bool × (Int × (Int × (List Int)))))))))) :=
  let n0 : Bool := (decide (p1 < (0 : Int)))
  bif n0 then
    some ((0 : Int), ((0 : Int), ((0 : Int), ((0 : Int), ((0 : Int), ((0 : Int), (false, ((0 : Int), ((1 : Int), ([] : (List Int)))))))))))
  else
    let n1 : Int := ((List.length p0) : Int)
    let n2 : Bool := (decide (n1 ≤ p1))
    bif n2 then
      some ((0 : Int), ((0 : Int), ((0 : Int), ((0 : Int), ((0 : Int), ((0 : Int), (false, ((0 : Int), ((2 : Int), ([] : (List Int)))))))))))
    else
      ck (inB p1 (List.length p0)) <|
      let n3 : Int := (List.getD p0 (Int.toNat p1) (0 : Int))
      let n4 : Int := (w64 n3)
      let n5 : Int := (Int.tmod n4 (128 : Int))
      ck (inB p1 (List.length p0)) <|
      let n6 : Int := (List.getD p0 (Int.toNat p1) (0 : Int))
      let n7 : Bool := (decide ((128 : Int) ≤ n6))
      Option.bind (
        Option.bind (f20 n5 (1 : Int) (18 : Int)) fun (c8 : Bool) =>
        let n9 : Bool := (!c8)
        bif n9 then
          some true
        else
          bif n7 then
            Option.bind (f24 n5) fun (c10 : Bool) =>
            let n11 : Bool := (!c10)
            let n12 : Bool := n11
            let n13 : Bool := n12
            some n13
          else
            let n14 : Bool := false
            some n14) fun (s15 : Bool) =>
      bif s15 then
        some ((0 : Int), ((0 : Int), ((0 : Int), ((0 : Int), ((0 : Int), ((0 : Int), (false, ((0 : Int), ((17 : Int), ([] : (List Int)))))))))))
      else
        let n16 : Int := (w64 (p1 + (1 : Int)))
        ck (inB n5 (19 : Nat)) <|
        let n17 : (List UInt8) := (List.getD tbl0 (Int.toNat n5) ([] : (List UInt8)))
        Option.bind (
          loopM (fun (s18 : (Int × (Int × (Int × (Int × (Int × (Int × (Bool × ((List Int) × (Int × (Bool × ((List UInt8) × (Int × (List Int)))))))))))))) =>
            bif (strN s18.2.2.2.2.2.2.2.2.2.2.1 s18.2.2.2.2.2.2.2.2.2.2.2.1) then
              let n19 : Bool := (decide ((runeAt s18.2.2.2.2.2.2.2.2.2.2.1 s18.2.2.2.2.2.2.2.2.2.2.2.1) = (111 : Int)))
              Option.bind (
                bif n19 then
                  Option.bind (f25 (1 : Int) s18.2.2.2.2.2.2.2.1 s18.2.2.2.2.2.2.2.2.1 s18.2.2.2.2.2.2.2.2.2.1) fun (c20 : (Int × ((List Int) × (Int × Bool)))) =>
                  some (s18.1, (c20.1, (s18.2.2.1, (s18.2.2.2.1, (s18.2.2.2.2.1, (s18.2.2.2.2.2.1, (s18.2.2.2.2.2.2.1, (c20.2.1, (c20.2.2.1, (c20.2.2.2, s18.2.2.2.2.2.2.2.2.2.2.2.2))))))))))
                else
                  let n21 : Bool := (decide ((runeAt s18.2.2.2.2.2.2.2.2.2.2.1 s18.2.2.2.2.2.2.2.2.2.2.2.1) = (100 : Int)))
                  Option.bind (
                    bif n21 then
                      Option.bind (f25 (1 : Int) s18.2.2.2.2.2.2.2.1 s18.2.2.2.2.2.2.2.2.1 s18.2.2.2.2.2.2.2.2.2.1) fun (c22 : (Int × ((List Int) × (Int × Bool)))) =>
                      some (s18.1, (s18.2.1, (c22.1, (s18.2.2.2.1, (s18.2.2.2.2.1, (s18.2.2.2.2.2.1, (s18.2.2.2.2.2.2.1, (c22.2.1, (c22.2.2.1, (c22.2.2.2, s18.2.2.2.2.2.2.2.2.2.2.2.2))))))))))
                    else
                      let n23 : Bool := (decide ((runeAt s18.2.2.2.2.2.2.2.2.2.2.1 s18.2.2.2.2.2.2.2.2.2.2.2.1) = (97 : Int)))
                      Option.bind (
                        bif n23 then
                          Option.bind (f25 (1 : Int) s18.2.2.2.2.2.2.2.1 s18.2.2.2.2.2.2.2.2.1 s18.2.2.2.2.2.2.2.2.2.1) fun (c24 : (Int × ((List Int) × (Int × Bool)))) =>
                          some (s18.1, (s18.2.1, (s18.2.2.1, (c24.1, (s18.2.2.2.2.1, (s18.2.2.2.2.2.1, (s18.2.2.2.2.2.2.1, (c24.2.1, (c24.2.2.1, (c24.2.2.2, s18.2.2.2.2.2.2.2.2.2.2.2.2))))))))))
                        else
                          let n25 : Bool := (decide ((runeAt s18.2.2.2.2.2.2.2.2.2.2.1 s18.2.2.2.2.2.2.2.2.2.2.2.1) = (98 : Int)))
                          Option.bind (
                            bif n25 then
                              Option.bind (f25 (1 : Int) s18.2.2.2.2.2.2.2.1 s18.2.2.2.2.2.2.2.2.1 s18.2.2.2.2.2.2.2.2.2.1) fun (c26 : (Int × ((List Int) × (Int × Bool)))) =>
                              some (s18.1, (s18.2.1, (s18.2.2.1, (s18.2.2.2.1, (c26.1, (s18.2.2.2.2.2.1, (s18.2.2.2.2.2.2.1, (c26.2.1, (c26.2.2.1, (c26.2.2.2, s18.2.2.2.2.2.2.2.2.2.2.2.2))))))))))
                            else
                              let n27 : Bool := (decide ((runeAt s18.2.2.2.2.2.2.2.2.2.2.1 s18.2.2.2.2.2.2.2.2.2.2.2.1) = (106 : Int)))
                              Option.bind (
                                bif n27 then
                                  Option.bind (f26 s18.2.2.2.2.2.2.1 s18.2.2.2.2.2.2.2.1 s18.2.2.2.2.2.2.2.2.1 s18.2.2.2.2.2.2.2.2.2.1) fun (c28 : (Int × ((List Int) × (Int × Bool)))) =>
                                  some (s18.1, (s18.2.1, (s18.2.2.1, (s18.2.2.2.1, (s18.2.2.2.2.1, (c28.1, (s18.2.2.2.2.2.2.1, (c28.2.1, (c28.2.2.1, (c28.2.2.2, s18.2.2.2.2.2.2.2.2.2.2.2.2))))))))))
                                else
                                  let n29 : Bool := (decide ((runeAt s18.2.2.2.2.2.2.2.2.2.2.1 s18.2.2.2.2.2.2.2.2.2.2.2.1) = (110 : Int)))
                                  Option.bind (
                                    bif n29 then
                                      Option.bind (f25 (1 : Int) s18.2.2.2.2.2.2.2.1 s18.2.2.2.2.2.2.2.2.1 s18.2.2.2.2.2.2.2.2.2.1) fun (c30 : (Int × ((List Int) × (Int × Bool)))) =>
                                      Option.bind (
                                        loopM (fun (s31 : (Int × (Int × (Int × (Int × (Int × (Int × (Int × (Bool × ((List Int) × (Int × (Bool × (List Int))))))))))))) =>
                                          let n32 : Bool := (decide (s31.1 < c30.1))
                                          bif n32 then
                                            Option.bind (f25 (1 : Int) s31.2.2.2.2.2.2.2.2.1 s31.2.2.2.2.2.2.2.2.2.1 s31.2.2.2.2.2.2.2.2.2.2.1) fun (c33 : (Int × ((List Int) × (Int × Bool)))) =>
                                            let n34 : (List Int) := [c33.1]
                                            ck (true && (decide ((((List.length s31.2.2.2.2.2.2.2.2.2.2.2) + (List.length n34)) * (8 : Nat)) ≤ (140737488355328 : Nat)))) <|
                                            let n35 : (List Int) := (s31.2.2.2.2.2.2.2.2.2.2.2 ++ n34)
                                            let n36 : Int := (w64 (s31.1 + (1 : Int)))
                                            some (.inl (n36, (s31.2.1, (s31.2.2.1, (s31.2.2.2.1, (s31.2.2.2.2.1, (s31.2.2.2.2.2.1, (s31.2.2.2.2.2.2.1, (s31.2.2.2.2.2.2.2.1, (c33.2.1, (c33.2.2.1, (c33.2.2.2, n35))))))))))))
                                          else
                                            some (.inr (s31.2.1, (s31.2.2.1, (s31.2.2.2.1, (s31.2.2.2.2.1, (s31.2.2.2.2.2.1, (s31.2.2.2.2.2.2.1, (s31.2.2.2.2.2.2.2.1, (s31.2.2.2.2.2.2.2.2.1, (s31.2.2.2.2.2.2.2.2.2.1, (s31.2.2.2.2.2.2.2.2.2.2.1, s31.2.2.2.2.2.2.2.2.2.2.2)))))))))))) ((0 : Int), (s18.1, (s18.2.1, (s18.2.2.1, (s18.2.2.2.1, (s18.2.2.2.2.1, (s18.2.2.2.2.2.1, (s18.2.2.2.2.2.2.1, (c30.2.1, (c30.2.2.1, (c30.2.2.2, s18.2.2.2.2.2.2.2.2.2.2.2.2)))))))))))) fun (s37 : (Int × (Int × (Int × (Int × (Int × (Int × (Bool × ((List Int) × (Int × (Bool × (List Int)))))))))))) =>
                                      some (s37.1, (s37.2.1, (s37.2.2.1, (s37.2.2.2.1, (s37.2.2.2.2.1, (s37.2.2.2.2.2.1, (s37.2.2.2.2.2.2.1, (s37.2.2.2.2.2.2.2.1, (s37.2.2.2.2.2.2.2.2.1, (s37.2.2.2.2.2.2.2.2.2.1, s37.2.2.2.2.2.2.2.2.2.2))))))))))
                                    else
                                      let n38 : Int := (Go.IntKind.wrap .i32 ((runeAt s18.2.2.2.2.2.2.2.2.2.2.1 s18.2.2.2.2.2.2.2.2.2.2.2.1) - (48 : Int)))
                                      let n39 : Int := (w64 n38)
                                      Option.bind (f25 n39 s18.2.2.2.2.2.2.2.1 s18.2.2.2.2.2.2.2.2.1 s18.2.2.2.2.2.2.2.2.2.1) fun (c40 : (Int × ((List Int) × (Int × Bool)))) =>
                                      some (s18.1, (s18.2.1, (s18.2.2.1, (s18.2.2.2.1, (s18.2.2.2.2.1, (c40.1, (s18.2.2.2.2.2.2.1, (c40.2.1, (c40.2.2.1, (c40.2.2.2, s18.2.2.2.2.2.2.2.2.2.2.2.2))))))))))) fun (s41 : (Int × (Int × (Int × (Int × (Int × (Int × (Bool × ((List Int) × (Int × (Bool × (List Int)))))))))))) =>
                                  some (s41.1, (s41.2.1, (s41.2.2.1, (s41.2.2.2.1, (s41.2.2.2.2.1, (s41.2.2.2.2.2.1, (s41.2.2.2.2.2.2.1, (s41.2.2.2.2.2.2.2.1, (s41.2.2.2.2.2.2.2.2.1, (s41.2.2.2.2.2.2.2.2.2.1, s41.2.2.2.2.2.2.2.2.2.2))))))))))) fun (s42 : (Int × (Int × (Int × (Int × (Int × (Int × (Bool × ((List Int) × (Int × (Bool × (List Int)))))))))))) =>
                              some (s42.1, (s42.2.1, (s42.2.2.1, (s42.2.2.2.1, (s42.2.2.2.2.1, (s42.2.2.2.2.2.1, (s42.2.2.2.2.2.2.1, (s42.2.2.2.2.2.2.2.1, (s42.2.2.2.2.2.2.2.2.1, (s42.2.2.2.2.2.2.2.2.2.1, s42.2.2.2.2.2.2.2.2.2.2))))))))))) fun (s43 : (Int × (Int × (Int × (Int × (Int × (Int × (Bool × ((List Int) × (Int × (Bool × (List Int)))))))))))) =>
                          some (s43.1, (s43.2.1, (s43.2.2.1, (s43.2.2.2.1, (s43.2.2.2.2.1, (s43.2.2.2.2.2.1, (s43.2.2.2.2.2.2.1, (s43.2.2.2.2.2.2.2.1, (s43.2.2.2.2.2.2.2.2.1, (s43.2.2.2.2.2.2.2.2.2.1, s43.2.2.2.2.2.2.2.2.2.2))))))))))) fun (s44 : (Int × (Int × (Int × (Int × (Int × (Int × (Bool × ((List Int) × (Int × (Bool × (List Int)))))))))))) =>
                      some (s44.1, (s44.2.1, (s44.2.2.1, (s44.2.2.2.1, (s44.2.2.2.2.1, (s44.2.2.2.2.2.1, (s44.2.2.2.2.2.2.1, (s44.2.2.2.2.2.2.2.1, (s44.2.2.2.2.2.2.2.2.1, (s44.2.2.2.2.2.2.2.2.2.1, s44.2.2.2.2.2.2.2.2.2.2))))))))))) fun (s45 : (Int × (Int × (Int × (Int × (Int × (Int × (Bool × ((List Int) × (Int × (Bool × (List Int)))))))))))) =>
                  some (s45.1, (s45.2.1, (s45.2.2.1, (s45.2.2.2.1, (s45.2.2.2.2.1, (s45.2.2.2.2.2.1, (s45.2.2.2.2.2.2.1, (s45.2.2.2.2.2.2.2.1, (s45.2.2.2.2.2.2.2.2.1, (s45.2.2.2.2.2.2.2.2.2.1, s45.2.2.2.2.2.2.2.2.2.2))))))))))) fun (s46 : (Int × (Int × (Int × (Int × (Int × (Int × (Bool × ((List Int) × (Int × (Bool × (List Int)))))))))))) =>
              some (.inl (s46.1, (s46.2.1, (s46.2.2.1, (s46.2.2.2.1, (s46.2.2.2.2.1, (s46.2.2.2.2.2.1, (s46.2.2.2.2.2.2.1, (s46.2.2.2.2.2.2.2.1, (s46.2.2.2.2.2.2.2.2.1, (s46.2.2.2.2.2.2.2.2.2.1, (s18.2.2.2.2.2.2.2.2.2.2.1, ((afterRune s18.2.2.2.2.2.2.2.2.2.2.1 s18.2.2.2.2.2.2.2.2.2.2.2.1), s46.2.2.2.2.2.2.2.2.2.2)))))))))))))
            else
              some (.inr (s18.1, (s18.2.1, (s18.2.2.1, (s18.2.2.2.1, (s18.2.2.2.2.1, (s18.2.2.2.2.2.1, (s18.2.2.2.2.2.2.1, (s18.2.2.2.2.2.2.2.1, (s18.2.2.2.2.2.2.2.2.1, (s18.2.2.2.2.2.2.2.2.2.1, s18.2.2.2.2.2.2.2.2.2.2.2.2)))))))))))) (n5, ((0 : Int), ((0 : Int), ((0 : Int), ((0 : Int), ((0 : Int), (n7, (p0, (n16, (false, (n17, ((0 : Int), ([] : (List Int))))))))))))))) fun (s47 : (Int × (Int × (Int × (Int × (Int × (Int × (Bool × ((List Int) × (Int × (Bool × (List Int)))))))))))) =>
        bif s47.2.2.2.2.2.2.2.2.2.1 then
          some ((0 : Int), ((0 : Int), ((0 : Int), ((0 : Int), ((0 : Int), ((0 : Int), (false, ((0 : Int), ((2 : Int), ([] : (List Int)))))))))))
        else
          Option.bind (f9 s47.1 s47.2.1 s47.2.2.1 s47.2.2.2.1 s47.2.2.2.2.1 s47.2.2.2.2.2.1 s47.2.2.2.2.2.2.1 s47.2.2.2.2.2.2.2.2.2.2) fun (c48 : Int) =>
          let n49 : Bool := (!(decide (c48 = (0 : Int))))
          bif n49 then
            some ((0 : Int), ((0 : Int), ((0 : Int), ((0 : Int), ((0 : Int), ((0 : Int), (false, ((0 : Int), (c48, ([] : (List Int)))))))))))
          else
            let n50 : Int := (w64 (s47.2.2.2.2.2.2.2.2.1 - p1))
            some (s47.1, (s47.2.1, (s47.2.2.1, (s47.2.2.2.1, (s47.2.2.2.2.1, (s47.2.2.2.2.2.1, (s47.2.2.2.2.2.2.1, (n50, ((0 : Int), s47.2.2.2.2.2.2.2.2.2.2)))))))))
noncomputable def sp13 : TSpec := ⟨sg13, fun x => f13 x.1 x.2⟩
theorem sound13 : TSound Tryd.prog 13 sp13 :=
  tsound_of (T := TTab.of [(20, sp20), (24, sp24), (25, sp25), (26, sp26), (9, sp9)]) (ety := ety) [.cell 4 26, .tmp 5, .tmp 6] an13 Tryd.func13 rfl rfl rfl (show sg13.er.ok = true by decide +kernel) rfl (show sg13.nargs ≤ Tryd.f13.ntmps by decide +kernel) rfl (TAll.sound ⟨sound20, sound24, sound25, sound26, sound9, trivial⟩) ttok mixed fun x => by kernel_rfl

/-- warmpath/warmpathlaw12.awake -/
noncomputable def f6 : Option Bool :=
  Option.bind (f12 (2 : Int) (0 : Int) (1 : Int) (2 : Int) (0 : Int) (0 : Int) false ([] : (List Int))) fun (c0 : (Int × (List Int))) =>
  Option.bind (
    let n1 : Bool := (decide (c0.1 = (0 : Int)))
    bif n1 then
      let n2 : Int := ((List.length c0.2) : Int)
      let n3 : Bool := (decide (n2 = (3 : Int)))
      let n4 : Bool := n3
      bif n4 then
        ck (inB (0 : Int) (List.length c0.2)) <|
        let n5 : Int := (List.getD c0.2 (Int.toNat ((Int.toNat (0 : Int)) : Int)) (0 : Int))
        let n6 : Bool := (decide (n5 = (2 : Int)))
        let n7 : Bool := n6
        bif n7 then
          ck (inB (1 : Int) (List.length c0.2)) <|
          let n8 : Int := (List.getD c0.2 (Int.toNat ((Int.toNat (1 : Int)) : Int)) (0 : Int))
          let n9 : Bool := (decide (n8 = (1 : Int)))
          let n10 : Bool := n9
          bif n10 then
            ck (inB (2 : Int) (List.length c0.2)) <|
            let n11 : Int := (List.getD c0.2 (Int.toNat ((Int.toNat (2 : Int)) : Int)) (0 : Int))
            let n12 : Bool := (decide (n11 = (2 : Int)))
            let n13 : Bool := n12
            some n13
          else
            some false
        else
          some false
      else
        some false
    else
      some false) fun (s14 : Bool) =>
  some s14
noncomputable def sp6 : TSpec := ⟨sg6, fun x => f6⟩
theorem sound6 : TSound Tryd.prog 6 sp6 :=
  tsound_of (T := TTab.of [(12, sp12)]) (ety := ety) [.tmp 0] an6 Tryd.func6 rfl rfl rfl (show sg6.er.ok = true by decide +kernel) rfl (show sg6.nargs ≤ Tryd.f6.ntmps by decide +kernel) rfl (TAll.sound ⟨sound12, trivial⟩) ttok mixed fun x => by kernel_rfl

/-- warmpath/machine.Size -/
noncomputable def f10 (p0 : Int) (p1 : Int) (p2 : Int) (p3 : Int) (p4 : Int) (p5 : Int) (p6 : Bool) (p7 : (List Int)) : Option Int :=
  Option.bind (f12 p0 p1 p2 p3 p4 p5 p6 p7) fun (c0 : (Int × (List Int))) =>
  let n1 : Int := ((List.length c0.2) : Int)
  some n1
noncomputable def sp10 : TSpec := ⟨sg10, fun x => f10 x.1 x.2.1 x.2.2.1 x.2.2.2.1 x.2.2.2.2.1 x.2.2.2.2.2.1 x.2.2.2.2.2.2.1 x.2.2.2.2.2.2.2⟩
theorem sound10 : TSound Tryd.prog 10 sp10 :=
  tsound_of (T := TTab.of [(12, sp12)]) (ety := ety) [.tmp 2] an10 Tryd.func10 rfl rfl rfl (show sg10.er.ok = true by decide +kernel) rfl (show sg10.nargs ≤ Tryd.f10.ntmps by decide +kernel) rfl (TAll.sound ⟨sound12, trivial⟩) ttok mixed fun x => by kernel_rfl

/-- warmpath/warmpathlaw12.MachineSizes -/
noncomputable def f3 (p0 : (List Int)) (p1 : Int) : Option Bool :=
  Option.bind (f6) fun (c0 : Bool) =>
  let n1 : Bool := (!c0)
  bif n1 then
    some false
  else
    Option.bind (f7 p0 (120 : Int)) fun (c2 : ((List Int) × Int)) =>
    Option.bind (f8 c2.1 c2.2) fun (c3 : (Int × (Int × (Int × (Int × (Int × (Int × (Bool × ((List Int) × (Int × (List Int))))))))))) =>
    Option.bind (f9 c3.1 c3.2.1 c3.2.2.1 c3.2.2.2.1 c3.2.2.2.2.1 c3.2.2.2.2.2.1 c3.2.2.2.2.2.2.1 c3.2.2.2.2.2.2.2.2.2) fun (c4 : Int) =>
    let n5 : Bool := (!(decide (c4 = (0 : Int))))
    bif n5 then
      Option.bind (f10 c3.1 c3.2.1 c3.2.2.1 c3.2.2.2.1 c3.2.2.2.2.1 c3.2.2.2.2.2.1 c3.2.2.2.2.2.2.1 c3.2.2.2.2.2.2.2.2.2) fun (c6 : Int) =>
      let n7 : Bool := (decide (c6 = (0 : Int)))
      some n7
    else
      Option.bind (f10 c3.1 c3.2.1 c3.2.2.1 c3.2.2.2.1 c3.2.2.2.2.1 c3.2.2.2.2.2.1 c3.2.2.2.2.2.2.1 c3.2.2.2.2.2.2.2.2.2) fun (c8 : Int) =>
      Option.bind (
        bif c3.2.2.2.2.2.2.1 then
          let n9 : Int := (w64 (c8 - (3 : Int)))
          some n9
        else
          some c8) fun (s10 : Int) =>
      Option.bind (
        Option.bind (f10 c3.1 c3.2.1 c3.2.2.1 c3.2.2.2.1 c3.2.2.2.2.1 c3.2.2.2.2.2.1 c3.2.2.2.2.2.2.1 c3.2.2.2.2.2.2.2.2.2) fun (c11 : Int) =>
        let n12 : Bool := (decide ((2 : Int) ≤ c11))
        bif n12 then
          Option.bind (f9 c3.1 c3.2.1 c3.2.2.1 c3.2.2.2.1 c3.2.2.2.2.1 p1 c3.2.2.2.2.2.2.1 c3.2.2.2.2.2.2.2.2.2) fun (c13 : Int) =>
          let n14 : Bool := (!(decide (c13 = (0 : Int))))
          bif n14 then
            let n15 : Bool := true
            bif n15 then
              Option.bind (f10 c3.1 c3.2.1 c3.2.2.1 c3.2.2.2.1 c3.2.2.2.2.1 (0 : Int) false c3.2.2.2.2.2.2.2.2.2) fun (c16 : Int) =>
              let n17 : Bool := (decide (c16 = s10))
              let n18 : Bool := n17
              some n18
            else
              some false
          else
            Option.bind (f10 c3.1 c3.2.1 c3.2.2.1 c3.2.2.2.1 c3.2.2.2.2.1 p1 c3.2.2.2.2.2.2.1 c3.2.2.2.2.2.2.2.2.2) fun (c19 : Int) =>
            Option.bind (f10 c3.1 c3.2.1 c3.2.2.1 c3.2.2.2.1 c3.2.2.2.2.1 c3.2.2.2.2.2.1 c3.2.2.2.2.2.2.1 c3.2.2.2.2.2.2.2.2.2) fun (c20 : Int) =>
            let n21 : Bool := (decide (c19 = c20))
            let n22 : Bool := n21
            let n23 : Bool := n22
            bif n23 then
              Option.bind (f10 c3.1 c3.2.1 c3.2.2.1 c3.2.2.2.1 c3.2.2.2.2.1 (0 : Int) false c3.2.2.2.2.2.2.2.2.2) fun (c24 : Int) =>
              let n25 : Bool := (decide (c24 = s10))
              let n26 : Bool := n25
              some n26
            else
              some false
        else
          some false) fun (s27 : Bool) =>
      some s27
noncomputable def sp3 : TSpec := ⟨sg3, fun x => f3 x.1 x.2⟩
theorem sound3 : TSound Tryd.prog 3 sp3 :=
  tsound_of (T := TTab.of [(6, sp6), (7, sp7), (8, sp8), (9, sp9), (10, sp10)]) (ety := ety) [.tmp 4] an3 Tryd.func3 rfl rfl rfl (show sg3.er.ok = true by decide +kernel) rfl (show sg3.nargs ≤ Tryd.f3.ntmps by decide +kernel) rfl (TAll.sound ⟨sound6, sound7, sound8, sound9, sound10, trivial⟩) ttok mixed fun x => by kernel_rfl

/-- warmpath/warmpathlaw12.MachineStreams -/
noncomputable def f4 (p0 : (List Int)) : Option Bool :=
  Option.bind (f6) fun (c0 : Bool) =>
  let n1 : Bool := (!c0)
  bif n1 then
    some false
  else
    Option.bind (f7 p0 (300 : Int)) fun (c2 : ((List Int) × Int)) =>
    Option.bind (f11 (12 : Int) c2.1 c2.2) fun (c3 : (Int × ((List Int) × Int))) =>
    Option.bind (
      loopM (fun (s4 : (Int × ((List Int) × (Int × ((List Int) × (List Int)))))) =>
        let n5 : Bool := (decide ((0 : Int) < s4.1))
        bif n5 then
          Option.bind (f8 s4.2.1 s4.2.2.1) fun (c6 : (Int × (Int × (Int × (Int × (Int × (Int × (Bool × ((List Int) × (Int × (List Int))))))))))) =>
          Option.bind (f12 c6.1 c6.2.1 c6.2.2.1 c6.2.2.2.1 c6.2.2.2.2.1 c6.2.2.2.2.2.1 c6.2.2.2.2.2.2.1 c6.2.2.2.2.2.2.2.2.2) fun (c7 : (Int × (List Int))) =>
          let n8 : Bool := (decide (c7.1 = (0 : Int)))
          Option.bind (
            bif n8 then
              ck (true && (decide ((((List.length s4.2.2.2.1) + (List.length c7.2)) * (1 : Nat)) ≤ (140737488355328 : Nat)))) <|
              let n9 : (List Int) := (s4.2.2.2.1 ++ c7.2)
              let n10 : Int := ((List.length c7.2) : Int)
              let n11 : (List Int) := [n10]
              ck (true && (decide ((((List.length s4.2.2.2.2) + (List.length n11)) * (8 : Nat)) ≤ (140737488355328 : Nat)))) <|
              let n12 : (List Int) := (s4.2.2.2.2 ++ n11)
              some (n9, n12)
            else
              some (s4.2.2.2.1, s4.2.2.2.2)) fun (s13 : ((List Int) × (List Int))) =>
          let n14 : Int := (w64 (s4.1 - (1 : Int)))
          some (.inl (n14, (c6.2.2.2.2.2.2.2.1, (c6.2.2.2.2.2.2.2.2.1, (s13.1, s13.2)))))
        else
          some (.inr (s4.2.2.2.1, s4.2.2.2.2))) (c3.1, (c3.2.1, (c3.2.2, (([] : (List Int)), ([] : (List Int))))))) fun (s15 : ((List Int) × (List Int))) =>
    bindE (
      loopM (fun (s16 : (Int × Int)) =>
        let n17 : Int := ((List.length s15.2) : Int)
        let n18 : Bool := (decide (s16.2 < n17))
        bif n18 then
          Option.bind (f13 s15.1 s16.1) fun (c19 : (Int × (Int × (Int × (Int × (Int × (Int × (Bool × (Int × (Int × (List Int))))))))))) =>
          Option.bind (
            let n20 : Bool := (!(decide (c19.2.2.2.2.2.2.2.2.1 = (0 : Int))))
            bif n20 then
              some true
            else
              ck (inB s16.2 (List.length s15.2)) <|
              let n21 : Int := (List.getD s15.2 (Int.toNat ((Int.toNat s16.2) : Int)) (0 : Int))
              let n22 : Bool := (!(decide (c19.2.2.2.2.2.2.2.1 = n21)))
              let n23 : Bool := n22
              some n23) fun (s24 : Bool) =>
          bif s24 then
            some (.inr (.inr false))
          else
            let n25 : Int := (w64 (s16.1 + c19.2.2.2.2.2.2.2.1))
            let n26 : Int := (w64 (s16.2 + (1 : Int)))
            some (.inl (n25, n26))
        else
          some (.inr (.inl s16.1))) ((0 : Int), (0 : Int))) fun (s27 : Int) =>
    Option.bind (f13 s15.1 s27) fun (c28 : (Int × (Int × (Int × (Int × (Int × (Int × (Bool × (Int × (Int × (List Int))))))))))) =>
    Option.bind (
      let n29 : Int := ((List.length s15.1) : Int)
      let n30 : Bool := (decide (s27 = n29))
      bif n30 then
        let n31 : Bool := (decide (c28.2.2.2.2.2.2.2.2.1 = (2 : Int)))
        let n32 : Bool := n31
        some n32
      else
        some false) fun (s33 : Bool) =>
    some s33
noncomputable def sp4 : TSpec := ⟨sg4, fun x => f4 x⟩
theorem sound4 : TSound Tryd.prog 4 sp4 :=
  tsound_of (T := TTab.of [(6, sp6), (7, sp7), (11, sp11), (8, sp8), (12, sp12), (13, sp13)]) (ety := ety) [.tmp 2] an4 Tryd.func4 rfl rfl rfl (show sg4.er.ok = true by decide +kernel) rfl (show sg4.nargs ≤ Tryd.f4.ntmps by decide +kernel) rfl (TAll.sound ⟨sound6, sound7, sound11, sound8, sound12, sound13, trivial⟩) ttok mixed fun x => by kernel_rfl

/-- warmpath/warmpathlaw12.MachineBack -/
noncomputable def f5 (p0 : (List Int)) (p1 : (List Int)) (p2 : (List Int)) : Option Bool :=
  Option.bind (
    Option.bind (f6) fun (c0 : Bool) =>
    let n1 : Bool := (!c0)
    bif n1 then
      some true
    else
      let n2 : Int := ((List.length p1) : Int)
      let n3 : Bool := (decide ((300 : Int) < n2))
      let n4 : Bool := n3
      bif n4 then
        some true
      else
        let n5 : Int := ((List.length p2) : Int)
        let n6 : Bool := (decide ((300 : Int) < n5))
        let n7 : Bool := n6
        some n7) fun (s8 : Bool) =>
  bif s8 then
    Option.bind (
      let n9 : Int := ((List.length p1) : Int)
      let n10 : Bool := (decide ((300 : Int) < n9))
      bif n10 then
        some true
      else
        let n11 : Int := ((List.length p2) : Int)
        let n12 : Bool := (decide ((300 : Int) < n11))
        let n13 : Bool := n12
        some n13) fun (s14 : Bool) =>
    some s14
  else
    Option.bind (f7 p0 (120 : Int)) fun (c15 : ((List Int) × Int)) =>
    Option.bind (f8 c15.1 c15.2) fun (c16 : (Int × (Int × (Int × (Int × (Int × (Int × (Bool × ((List Int) × (Int × (List Int))))))))))) =>
    Option.bind (f12 c16.1 c16.2.1 c16.2.2.1 c16.2.2.2.1 c16.2.2.2.2.1 c16.2.2.2.2.2.1 c16.2.2.2.2.2.2.1 c16.2.2.2.2.2.2.2.2.2) fun (c17 : (Int × (List Int))) =>
    let n18 : Bool := (!(decide (c17.1 = (0 : Int))))
    bif n18 then
      Option.bind (
        let n19 : Int := ((List.length c17.2) : Int)
        let n20 : Bool := (decide (n19 = (0 : Int)))
        bif n20 then
          Option.bind (f10 c16.1 c16.2.1 c16.2.2.1 c16.2.2.2.1 c16.2.2.2.2.1 c16.2.2.2.2.2.1 c16.2.2.2.2.2.2.1 c16.2.2.2.2.2.2.2.2.2) fun (c21 : Int) =>
          let n22 : Bool := (decide (c21 = (0 : Int)))
          let n23 : Bool := n22
          some n23
        else
          some false) fun (s24 : Bool) =>
      some s24
    else
      ck (true && (decide ((((List.length ([] : (List Int))) + (List.length p1)) * (1 : Nat)) ≤ (140737488355328 : Nat)))) <|
      let n25 : (List Int) := (([] : (List Int)) ++ p1)
      ck (true && (decide ((((List.length n25) + (List.length c17.2)) * (1 : Nat)) ≤ (140737488355328 : Nat)))) <|
      let n26 : (List Int) := (n25 ++ c17.2)
      ck (true && (decide ((((List.length n26) + (List.length p2)) * (1 : Nat)) ≤ (140737488355328 : Nat)))) <|
      let n27 : (List Int) := (n26 ++ p2)
      let n28 : Int := ((List.length p1) : Int)
      Option.bind (f13 n27 n28) fun (c29 : (Int × (Int × (Int × (Int × (Int × (Int × (Bool × (Int × (Int × (List Int))))))))))) =>
      Option.bind (f12 c29.1 c29.2.1 c29.2.2.1 c29.2.2.2.1 c29.2.2.2.2.1 c29.2.2.2.2.2.1 c29.2.2.2.2.2.2.1 c29.2.2.2.2.2.2.2.2.2) fun (c30 : (Int × (List Int))) =>
      Option.bind (
        let n31 : Bool := (decide (c29.2.2.2.2.2.2.2.2.1 = (0 : Int)))
        bif n31 then
          let n32 : Int := ((List.length c17.2) : Int)
          let n33 : Bool := (decide (c29.2.2.2.2.2.2.2.1 = n32))
          let n34 : Bool := n33
          bif n34 then
            let n35 : Bool := (decide (c30.1 = (0 : Int)))
            let n36 : Bool := n35
            bif n36 then
              Option.bind (f14 c30.2 c17.2) fun (c37 : Bool) =>
              let n38 : Bool := c37
              bif n38 then
                Option.bind (f10 c16.1 c16.2.1 c16.2.2.1 c16.2.2.2.1 c16.2.2.2.2.1 c16.2.2.2.2.2.1 c16.2.2.2.2.2.2.1 c16.2.2.2.2.2.2.2.2.2) fun (c39 : Int) =>
                let n40 : Bool := (decide (c39 = c29.2.2.2.2.2.2.2.1))
                let n41 : Bool := n40
                bif n41 then
                  let n42 : Bool := (decide (c29.1 = c16.1))
                  let n43 : Bool := n42
                  some n43
                else
                  some false
              else
                some false
            else
              some false
          else
            some false
        else
          some false) fun (s44 : Bool) =>
      some s44
noncomputable def sp5 : TSpec := ⟨sg5, fun x => f5 x.1 x.2.1 x.2.2⟩
theorem sound5 : TSound Tryd.prog 5 sp5 :=
  tsound_of (T := TTab.of [(6, sp6), (7, sp7), (8, sp8), (12, sp12), (10, sp10), (13, sp13), (14, sp14)]) (ety := ety) [.tmp 6] an5 Tryd.func5 rfl rfl rfl (show sg5.er.ok = true by decide +kernel) rfl (show sg5.nargs ≤ Tryd.f5.ntmps by decide +kernel) rfl (TAll.sound ⟨sound6, sound7, sound8, sound12, sound10, sound13, sound14, trivial⟩) ttok mixed fun x => by kernel_rfl

end Go.Fg.YtcehajipaclnlaaDoor
