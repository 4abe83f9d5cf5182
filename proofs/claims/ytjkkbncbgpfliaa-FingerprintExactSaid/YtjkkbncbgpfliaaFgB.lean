/-
  What the functions of the seat compute, printed by a program (wip/gen).
-/
import Derived.Test.YtjkkbncbgpfliaaFgA
namespace Go.Fg.Ytjkkbncbgpfliaa
open Go.Fw Go.Proofs Go.Fw.Ytjkkbncbgpfliaa
set_option linter.unusedVariables false
set_option maxRecDepth 100000
/-- warmpath/fingerprint.Scramble -/
noncomputable def f7 (p0 : Int) : Option Int :=
  let n0 : Int := (Int.fdiv p0 ((2 : Int) ^ (min (Int.toNat (33 : Int)) (64 : Nat))))
  let n1 : Int := (Go.bits .xor .u64 p0 n0)
  let n2 : Int := (Go.IntKind.wrap .u64 (n1 * (18397679294719823053 : Int)))
  let n3 : Int := (Int.fdiv n2 ((2 : Int) ^ (min (Int.toNat (33 : Int)) (64 : Nat))))
  let n4 : Int := (Go.bits .xor .u64 n2 n3)
  let n5 : Int := (Go.IntKind.wrap .u64 (n4 * (14181476777654086739 : Int)))
  let n6 : Int := (Int.fdiv n5 ((2 : Int) ^ (min (Int.toNat (33 : Int)) (64 : Nat))))
  let n7 : Int := (Go.bits .xor .u64 n5 n6)
  some n7
noncomputable def sp7 : TSpec := ⟨sg7, fun x => f7 x⟩
theorem sound7 : TSound Try.prog 7 sp7 :=
  tsound_of (T := TTab.of []) (ety := ety) [.tmp 2] an7 Try.func7 rfl rfl rfl (show sg7.er.ok = true by decide +kernel) rfl (show sg7.nargs ≤ Try.f7.ntmps by decide +kernel) rfl (TAll.sound trivial) ttok mixed fun x => by kernel_rfl

/-- warmpath/fingerprint.Join -/
noncomputable def f8 (p0 : Int) (p1 : Int) : Option Int :=
  let n0 : Int := (Go.IntKind.wrap .u64 (p1 + (1 : Int)))
  Option.bind (f7 n0) fun (c1 : Int) =>
  let n2 : Int := (Go.IntKind.wrap .u64 ((11400714819323198485 : Int) * c1))
  let n3 : Int := (Go.IntKind.wrap .u64 (p0 + n2))
  Option.bind (f7 n3) fun (c4 : Int) =>
  some c4
noncomputable def sp8 : TSpec := ⟨sg8, fun x => f8 x.1 x.2⟩
theorem sound8 : TSound Try.prog 8 sp8 :=
  tsound_of (T := TTab.of [(7, sp7)]) (ety := ety) [.tmp 4] an8 Try.func8 rfl rfl rfl (show sg8.er.ok = true by decide +kernel) rfl (show sg8.nargs ≤ Try.f8.ntmps by decide +kernel) rfl (TAll.sound ⟨sound7, trivial⟩) ttok mixed fun x => by kernel_rfl

/-- warmpath/warmpathdraw.New -/
noncomputable def f9 (p0 : (List Int)) (p1 : Int) : Option ((List Int) × Int) :=
  let n0 : Int := ((List.length p0) : Int)
  let n1 : Bool := (decide (p1 < n0))
  Option.bind (
    bif n1 then
      ck (slOk (0 : Int) p1 (List.length p0)) <|
      let n2 : (List Int) := (List.drop (Int.toNat (0 : Int)) (List.take (Int.toNat p1) p0))
      some n2
    else
      some p0) fun (s3 : (List Int)) =>
  some (s3, (0 : Int))
noncomputable def sp9 : TSpec := ⟨sg9, fun x => f9 x.1 x.2⟩
theorem sound9 : TSound Try.prog 9 sp9 :=
  tsound_of (T := TTab.of []) (ety := ety) [.tmp 4] an9 Try.func9 rfl rfl rfl (show sg9.er.ok = true by decide +kernel) rfl (show sg9.nargs ≤ Try.f9.ntmps by decide +kernel) rfl (TAll.sound trivial) ttok mixed fun x => by kernel_rfl

/-- (*warmpath/warmpathdraw.Codes).Next -/
noncomputable def f10S (rec10 : Int → (List Int) → Int → Option (Int × ((List Int) × Int))) (p0 : Int) (p1 : (List Int)) (p2 : Int) : Option (Int × ((List Int) × Int)) :=
  Option.bind (
    let n0 : Int := ((List.length p1) : Int)
    let n1 : Bool := (decide (n0 ≤ p2))
    bif n1 then
      some true
    else
      let n2 : Bool := (decide (p0 < (1 : Int)))
      let n3 : Bool := n2
      some n3) fun (s4 : Bool) =>
  bif s4 then
    some ((0 : Int), (p1, p2))
  else
    ck (inB p2 (List.length p1)) <|
    let n5 : Int := (List.getD p1 (Int.toNat p2) (0 : Int))
    let n6 : Int := (w64 n5)
    let n7 : Int := (w64 (p2 + (1 : Int)))
    let n8 : Bool := (decide ((256 : Int) < p0))
    bif n8 then
      let n9 : Int := (w64 ((256 : Int) * n6))
      Option.bind (rec10 (256 : Int) p1 n7) fun (c10 : (Int × ((List Int) × Int))) =>
      let n11 : Int := (w64 (n9 + c10.1))
      ck (!(decide (p0 = (0 : Int)))) <|
      let n12 : Int := (Int.tmod n11 p0)
      some (n12, (c10.2.1, c10.2.2))
    else
      ck (!(decide (p0 = (0 : Int)))) <|
      let n13 : Int := (Int.tmod n6 p0)
      some (n13, (p1, n7))
noncomputable def ring10 : Nat → (Int → (List Int) → Int → Option (Int × ((List Int) × Int)))
  | 0 => (fun _ _ _ => none)
  | n + 1 => (f10S (ring10 n))
noncomputable def f10N (n : Nat) : Int → (List Int) → Int → Option (Int × ((List Int) × Int)) := (ring10 n)
noncomputable def sp10N (n : Nat) : TSpec := ⟨sg10, fun x => (ring10 n) x.1 x.2.1 x.2.2⟩
theorem sound10S (n : Nat) (h10 : TSound Try.prog 10 (sp10N n)) : TSound Try.prog 10 (sp10N (n + 1)) :=
  tsound_of (T := TTab.of [(10, sp10N n)]) (ety := ety) [.tmp 4] an10 Try.func10 rfl rfl rfl (show sg10.er.ok = true by decide +kernel) rfl (show sg10.nargs ≤ Try.f10.ntmps by decide +kernel) rfl (TAll.sound ⟨h10, trivial⟩) ttok mixed fun x => by kernel_rfl
theorem soundRing10 : ∀ n, TSound Try.prog 10 (sp10N n)
  | 0 => tsound_none Try.func10 rfl rfl (show sg10.er.ok = true by decide +kernel) fun x => rfl
  | n + 1 => by
    have ih := soundRing10 n
    exact sound10S n (ih)
noncomputable def f10 (p0 : Int) (p1 : (List Int)) (p2 : Int) : Option (Int × ((List Int) × Int)) := f10N 1048576 p0 p1 p2
noncomputable def sp10 : TSpec := sp10N 1048576
theorem sound10 : TSound Try.prog 10 sp10 := (soundRing10 1048576)

/-- warmpath/fingerprint.Set -/
noncomputable def f11 (p0 : (List Int)) : Option Int :=
  let n0 : Int := ((List.length p0) : Int)
  Option.bind (
    loopM (fun (s1 : (Int × Int)) =>
      let n2 : Bool := (decide (s1.2 < n0))
      bif n2 then
        ck (inB s1.2 (List.length p0)) <|
        let n3 : Int := (List.getD p0 (Int.toNat s1.2) (0 : Int))
        let n4 : Int := (Go.IntKind.wrap .u64 (n3 + (11400714819323198485 : Int)))
        Option.bind (f7 n4) fun (c5 : Int) =>
        let n6 : Int := (Go.IntKind.wrap .u64 (s1.1 + c5))
        let n7 : Int := (w64 (s1.2 + (1 : Int)))
        some (.inl (n6, n7))
      else
        some (.inr s1.1)) ((0 : Int), (0 : Int))) fun (s8 : Int) =>
  let n9 : Int := ((List.length p0) : Int)
  let n10 : Int := (Go.IntKind.wrap .u64 n9)
  Option.bind (f8 n10 s8) fun (c11 : Int) =>
  some c11
noncomputable def sp11 : TSpec := ⟨sg11, fun x => f11 x⟩
theorem sound11 : TSound Try.prog 11 sp11 :=
  tsound_of (T := TTab.of [(7, sp7), (8, sp8)]) (ety := ety) [.tmp 2] an11 Try.func11 rfl rfl rfl (show sg11.er.ok = true by decide +kernel) rfl (show sg11.nargs ≤ Try.f11.ntmps by decide +kernel) rfl (TAll.sound ⟨sound7, sound8, trivial⟩) ttok mixed fun x => by kernel_rfl

/-- warmpath/fingerprint.List -/
noncomputable def f13 (p0 : (List Int)) : Option Int :=
  let n0 : Int := ((List.length p0) : Int)
  let n1 : Int := (Go.IntKind.wrap .u64 n0)
  let n2 : Int := ((List.length p0) : Int)
  Option.bind (
    loopM (fun (s3 : (Int × Int)) =>
      let n4 : Bool := (decide (s3.2 < n2))
      bif n4 then
        ck (inB s3.2 (List.length p0)) <|
        let n5 : Int := (List.getD p0 (Int.toNat s3.2) (0 : Int))
        Option.bind (f8 s3.1 n5) fun (c6 : Int) =>
        let n7 : Int := (w64 (s3.2 + (1 : Int)))
        some (.inl (c6, n7))
      else
        some (.inr s3.1)) (n1, (0 : Int))) fun (s8 : Int) =>
  some s8
noncomputable def sp13 : TSpec := ⟨sg13, fun x => f13 x⟩
theorem sound13 : TSound Try.prog 13 sp13 :=
  tsound_of (T := TTab.of [(8, sp8)]) (ety := ety) [.tmp 2] an13 Try.func13 rfl rfl rfl (show sg13.er.ok = true by decide +kernel) rfl (show sg13.nargs ≤ Try.f13.ntmps by decide +kernel) rfl (TAll.sound ⟨sound8, trivial⟩) ttok mixed fun x => by kernel_rfl

/-- warmpath/warmpathref02.Scramble -/
noncomputable def f14 (p0 : Int) : Option Int :=
  let n0 : Int := (Int.fdiv p0 ((2 : Int) ^ (min (Int.toNat (33 : Int)) (64 : Nat))))
  let n1 : Int := (Go.bits .xor .u64 p0 n0)
  let n2 : Int := (Go.IntKind.wrap .u64 (n1 * (18397679294719823053 : Int)))
  let n3 : Int := (Int.fdiv n2 ((2 : Int) ^ (min (Int.toNat (33 : Int)) (64 : Nat))))
  let n4 : Int := (Go.bits .xor .u64 n2 n3)
  let n5 : Int := (Go.IntKind.wrap .u64 (n4 * (14181476777654086739 : Int)))
  let n6 : Int := (Int.fdiv n5 ((2 : Int) ^ (min (Int.toNat (33 : Int)) (64 : Nat))))
  let n7 : Int := (Go.bits .xor .u64 n5 n6)
  some n7
noncomputable def sp14 : TSpec := ⟨sg14, fun x => f14 x⟩
theorem sound14 : TSound Try.prog 14 sp14 :=
  tsound_of (T := TTab.of []) (ety := ety) [.tmp 2] an14 Try.func14 rfl rfl rfl (show sg14.er.ok = true by decide +kernel) rfl (show sg14.nargs ≤ Try.f14.ntmps by decide +kernel) rfl (TAll.sound trivial) ttok mixed fun x => by kernel_rfl

/-- warmpath/warmpathref02.Join -/
noncomputable def f15 (p0 : Int) (p1 : Int) : Option Int :=
  let n0 : Int := (Go.IntKind.wrap .u64 (p1 + (1 : Int)))
  Option.bind (f14 n0) fun (c1 : Int) =>
  let n2 : Int := (Go.IntKind.wrap .u64 ((11400714819323198485 : Int) * c1))
  let n3 : Int := (Go.IntKind.wrap .u64 (p0 + n2))
  Option.bind (f14 n3) fun (c4 : Int) =>
  some c4
noncomputable def sp15 : TSpec := ⟨sg15, fun x => f15 x.1 x.2⟩
theorem sound15 : TSound Try.prog 15 sp15 :=
  tsound_of (T := TTab.of [(14, sp14)]) (ety := ety) [.tmp 4] an15 Try.func15 rfl rfl rfl (show sg15.er.ok = true by decide +kernel) rfl (show sg15.nargs ≤ Try.f15.ntmps by decide +kernel) rfl (TAll.sound ⟨sound14, trivial⟩) ttok mixed fun x => by kernel_rfl

/-- warmpath/fingerprint.Bytes -/
noncomputable def f16 (p0 : (List Int)) : Option Int :=
  let n0 : Int := ((List.length p0) : Int)
  Option.bind (
    loopM (fun (s1 : (Int × Int)) =>
      let n2 : Bool := (decide (s1.2 < n0))
      bif n2 then
        ck (inB s1.2 (List.length p0)) <|
        let n3 : Int := (List.getD p0 (Int.toNat s1.2) (0 : Int))
        let n4 : Int := (Go.IntKind.wrap .u64 n3)
        let n5 : Int := (Go.bits .xor .u64 s1.1 n4)
        let n6 : Int := (Go.IntKind.wrap .u64 (n5 * (1099511628211 : Int)))
        let n7 : Int := (w64 (s1.2 + (1 : Int)))
        some (.inl (n6, n7))
      else
        some (.inr s1.1)) ((14695981039346656037 : Int), (0 : Int))) fun (s8 : Int) =>
  Option.bind (f7 s8) fun (c9 : Int) =>
  some c9
noncomputable def sp16 : TSpec := ⟨sg16, fun x => f16 x⟩
theorem sound16 : TSound Try.prog 16 sp16 :=
  tsound_of (T := TTab.of [(7, sp7)]) (ety := ety) [.tmp 2] an16 Try.func16 rfl rfl rfl (show sg16.er.ok = true by decide +kernel) rfl (show sg16.nargs ≤ Try.f16.ntmps by decide +kernel) rfl (TAll.sound ⟨sound7, trivial⟩) ttok mixed fun x => by kernel_rfl

/-- warmpath/warmpathref02.Bytes -/
noncomputable def f17 (p0 : (List Int)) : Option Int :=
  Option.bind (
    loopM (fun (s0 : (Int × Int)) =>
      let n1 : Int := ((List.length p0) : Int)
      let n2 : Bool := (decide (s0.2 < n1))
      bif n2 then
        ck (inB s0.2 (List.length p0)) <|
        let n3 : Int := (List.getD p0 (Int.toNat s0.2) (0 : Int))
        let n4 : Int := (Go.IntKind.wrap .u64 n3)
        let n5 : Int := (Go.bits .xor .u64 s0.1 n4)
        let n6 : Int := (Go.IntKind.wrap .u64 (n5 * (1099511628211 : Int)))
        let n7 : Int := (w64 (s0.2 + (1 : Int)))
        some (.inl (n6, n7))
      else
        some (.inr s0.1)) ((14695981039346656037 : Int), (0 : Int))) fun (s8 : Int) =>
  Option.bind (f14 s8) fun (c9 : Int) =>
  some c9
noncomputable def sp17 : TSpec := ⟨sg17, fun x => f17 x⟩
theorem sound17 : TSound Try.prog 17 sp17 :=
  tsound_of (T := TTab.of [(14, sp14)]) (ety := ety) [.tmp 2] an17 Try.func17 rfl rfl rfl (show sg17.er.ok = true by decide +kernel) rfl (show sg17.nargs ≤ Try.f17.ntmps by decide +kernel) rfl (TAll.sound ⟨sound14, trivial⟩) ttok mixed fun x => by kernel_rfl

/-- warmpath/fingerprint.Text -/
noncomputable def f18 (p0 : (List UInt8)) : Option Int :=
  let n0 : (List Int) := (strI p0)
  Option.bind (f16 n0) fun (c1 : Int) =>
  some c1
noncomputable def sp18 : TSpec := ⟨sg18, fun x => f18 x⟩
theorem sound18 : TSound Try.prog 18 sp18 :=
  tsound_of (T := TTab.of [(16, sp16)]) (ety := ety) [.tmp 2] an18 Try.func18 rfl rfl rfl (show sg18.er.ok = true by decide +kernel) rfl (show sg18.nargs ≤ Try.f18.ntmps by decide +kernel) rfl (TAll.sound ⟨sound16, trivial⟩) ttok mixed fun x => by kernel_rfl

/-- warmpath/warmpathref02.Text -/
noncomputable def f19 (p0 : (List UInt8)) : Option Int :=
  let n0 : (List Int) := (strI p0)
  Option.bind (f17 n0) fun (c1 : Int) =>
  some c1
noncomputable def sp19 : TSpec := ⟨sg19, fun x => f19 x⟩
theorem sound19 : TSound Try.prog 19 sp19 :=
  tsound_of (T := TTab.of [(17, sp17)]) (ety := ety) [.tmp 2] an19 Try.func19 rfl rfl rfl (show sg19.er.ok = true by decide +kernel) rfl (show sg19.nargs ≤ Try.f19.ntmps by decide +kernel) rfl (TAll.sound ⟨sound17, trivial⟩) ttok mixed fun x => by kernel_rfl

/-- warmpath/warmpathref02.List -/
noncomputable def f20 (p0 : (List Int)) : Option Int :=
  let n0 : Int := ((List.length p0) : Int)
  let n1 : Int := (Go.IntKind.wrap .u64 n0)
  Option.bind (
    loopM (fun (s2 : (Int × Int)) =>
      let n3 : Int := ((List.length p0) : Int)
      let n4 : Bool := (decide (s2.2 < n3))
      bif n4 then
        ck (inB s2.2 (List.length p0)) <|
        let n5 : Int := (List.getD p0 (Int.toNat s2.2) (0 : Int))
        Option.bind (f15 s2.1 n5) fun (c6 : Int) =>
        let n7 : Int := (w64 (s2.2 + (1 : Int)))
        some (.inl (c6, n7))
      else
        some (.inr s2.1)) (n1, (0 : Int))) fun (s8 : Int) =>
  some s8
noncomputable def sp20 : TSpec := ⟨sg20, fun x => f20 x⟩
theorem sound20 : TSound Try.prog 20 sp20 :=
  tsound_of (T := TTab.of [(15, sp15)]) (ety := ety) [.tmp 2] an20 Try.func20 rfl rfl rfl (show sg20.er.ok = true by decide +kernel) rfl (show sg20.nargs ≤ Try.f20.ntmps by decide +kernel) rfl (TAll.sound ⟨sound15, trivial⟩) ttok mixed fun x => by kernel_rfl

/-- warmpath/warmpathref02.Set -/
noncomputable def f21 (p0 : (List Int)) : Option Int :=
  Option.bind (
    loopM (fun (s0 : (Int × Int)) =>
      let n1 : Int := ((List.length p0) : Int)
      let n2 : Bool := (decide (s0.2 < n1))
      bif n2 then
        ck (inB s0.2 (List.length p0)) <|
        let n3 : Int := (List.getD p0 (Int.toNat s0.2) (0 : Int))
        let n4 : Int := (Go.IntKind.wrap .u64 (n3 + (11400714819323198485 : Int)))
        Option.bind (f14 n4) fun (c5 : Int) =>
        let n6 : Int := (Go.IntKind.wrap .u64 (s0.1 + c5))
        let n7 : Int := (w64 (s0.2 + (1 : Int)))
        some (.inl (n6, n7))
      else
        some (.inr s0.1)) ((0 : Int), (0 : Int))) fun (s8 : Int) =>
  let n9 : Int := ((List.length p0) : Int)
  let n10 : Int := (Go.IntKind.wrap .u64 n9)
  Option.bind (f15 n10 s8) fun (c11 : Int) =>
  some c11
noncomputable def sp21 : TSpec := ⟨sg21, fun x => f21 x⟩
theorem sound21 : TSound Try.prog 21 sp21 :=
  tsound_of (T := TTab.of [(14, sp14), (15, sp15)]) (ety := ety) [.tmp 2] an21 Try.func21 rfl rfl rfl (show sg21.er.ok = true by decide +kernel) rfl (show sg21.nargs ≤ Try.f21.ntmps by decide +kernel) rfl (TAll.sound ⟨sound14, sound15, trivial⟩) ttok mixed fun x => by kernel_rfl

/-- warmpath/warmpathref02.Distinct -/
noncomputable def f22 (p0 : (List Int)) : Option Int :=
  Option.bind (
    loopM (fun (s0 : (Int × (List Int))) =>
      let n1 : Int := ((List.length p0) : Int)
      let n2 : Bool := (decide (s0.1 < n1))
      bif n2 then
        Option.bind (
          loopM (fun (s3 : (Bool × Int)) =>
            let n4 : Int := ((List.length s0.2) : Int)
            let n5 : Bool := (decide (s3.2 < n4))
            bif n5 then
              Option.bind (
                bif s3.1 then
                  some true
                else
                  ck (inB s3.2 (List.length s0.2)) <|
                  let n6 : Int := (List.getD s0.2 (Int.toNat ((Int.toNat s3.2) : Int)) (0 : Int))
                  ck (inB s0.1 (List.length p0)) <|
                  let n7 : Int := (List.getD p0 (Int.toNat s0.1) (0 : Int))
                  let n8 : Bool := (decide (n6 = n7))
                  let n9 : Bool := n8
                  some n9) fun (s10 : Bool) =>
              let n11 : Int := (w64 (s3.2 + (1 : Int)))
              some (.inl (s10, n11))
            else
              some (.inr s3.1)) (false, (0 : Int))) fun (s12 : Bool) =>
        let n13 : Bool := (!s12)
        Option.bind (
          bif n13 then
            ck (inB s0.1 (List.length p0)) <|
            let n14 : Int := (List.getD p0 (Int.toNat s0.1) (0 : Int))
            let n15 : (List Int) := [n14]
            ck (true && (decide ((((List.length s0.2) + (List.length n15)) * (8 : Nat)) ≤ (140737488355328 : Nat)))) <|
            let n16 : (List Int) := (s0.2 ++ n15)
            some n16
          else
            some s0.2) fun (s17 : (List Int)) =>
        let n18 : Int := (w64 (s0.1 + (1 : Int)))
        some (.inl (n18, s17))
      else
        some (.inr s0.2)) ((0 : Int), ([] : (List Int)))) fun (s19 : (List Int)) =>
  Option.bind (f21 s19) fun (c20 : Int) =>
  some c20
noncomputable def sp22 : TSpec := ⟨sg22, fun x => f22 x⟩
theorem sound22 : TSound Try.prog 22 sp22 :=
  tsound_of (T := TTab.of [(21, sp21)]) (ety := ety) [.tmp 2] an22 Try.func22 rfl rfl rfl (show sg22.er.ok = true by decide +kernel) rfl (show sg22.nargs ≤ Try.f22.ntmps by decide +kernel) rfl (TAll.sound ⟨sound21, trivial⟩) ttok mixed fun x => by kernel_rfl

/-- slices.Clone[[]uint64,uint64] -/
noncomputable def f23 (p0 : (List Int)) : Option (List Int) :=
  bif (List.isEmpty p0) then
    both (
      some ([] : (List Int))) (
      ck (true && (decide ((((List.length ([] : (List Int))) + (List.length p0)) * (8 : Nat)) ≤ (140737488355328 : Nat)))) <|
      let n0 : (List Int) := (([] : (List Int)) ++ p0)
      some n0)
  else
    ck (true && (decide ((((List.length ([] : (List Int))) + (List.length p0)) * (8 : Nat)) ≤ (140737488355328 : Nat)))) <|
    let n1 : (List Int) := (([] : (List Int)) ++ p0)
    some n1
noncomputable def sp23 : TSpec := ⟨sg23, fun x => f23 x⟩
theorem sound23 : TSound Try.prog 23 sp23 :=
  tsound_of (T := TTab.of []) (ety := ety) [.tmp 2] an23 Try.func23 rfl rfl rfl (show sg23.er.ok = true by decide +kernel) rfl (show sg23.nargs ≤ Try.f23.ntmps by decide +kernel) rfl (TAll.sound trivial) ttok mixed fun x => by kernel_rfl

/-- slices.Compact[[]uint64,uint64] -/
noncomputable def f25 (p0 : (List Int)) : Option (List Int) :=
  let n0 : Int := ((List.length p0) : Int)
  let n1 : Bool := (decide (n0 < (2 : Int)))
  bif n1 then
    some p0
  else
    bindE (
      loopM (fun (s2 : Int) =>
        let n3 : Int := ((List.length p0) : Int)
        let n4 : Bool := (decide (s2 < n3))
        bif n4 then
          ck (inB s2 (List.length p0)) <|
          let n5 : Int := (List.getD p0 (Int.toNat ((Int.toNat s2) : Int)) (0 : Int))
          let n6 : Int := (w64 (s2 - (1 : Int)))
          ck (inB n6 (List.length p0)) <|
          let n7 : Int := (List.getD p0 (Int.toNat ((Int.toNat n6) : Int)) (0 : Int))
          let n8 : Bool := (decide (n5 = n7))
          bif n8 then
            ck (slOk s2 ((List.length p0) : Int) (List.length p0)) <|
            Option.bind (
              loopM (fun (s9 : (Int × (Int × (List Int)))) =>
                let n10 : Int := ((((Int.toNat ((List.length p0) : Int)) - (Int.toNat s2)) : Nat) : Int)
                let n11 : Bool := (decide (s9.2.1 < n10))
                bif n11 then
                  ck (inB s9.2.1 ((Int.toNat ((List.length p0) : Int)) - (Int.toNat s2))) <|
                  let n12 : Int := (List.getD s9.2.2 (Int.toNat ((((Int.toNat s2) + (Int.toNat s9.2.1)) : Nat) : Int)) (0 : Int))
                  let n13 : Int := (w64 (s9.2.1 - (1 : Int)))
                  ck (inB n13 ((Int.toNat ((List.length p0) : Int)) - (Int.toNat s2))) <|
                  let n14 : Int := (List.getD s9.2.2 (Int.toNat ((((Int.toNat s2) + (Int.toNat n13)) : Nat) : Int)) (0 : Int))
                  let n15 : Bool := (!(decide (n12 = n14)))
                  Option.bind (
                    bif n15 then
                      ck (inB s9.2.1 ((Int.toNat ((List.length p0) : Int)) - (Int.toNat s2))) <|
                      let n16 : Int := (List.getD s9.2.2 (Int.toNat ((((Int.toNat s2) + (Int.toNat s9.2.1)) : Nat) : Int)) (0 : Int))
                      ck (inB s9.1 (List.length s9.2.2)) <|
                      let n17 : (List Int) := (List.set s9.2.2 (Int.toNat ((Int.toNat s9.1) : Int)) n16)
                      let n18 : Int := (w64 (s9.1 + (1 : Int)))
                      some (n18, n17)
                    else
                      some (s9.1, s9.2.2)) fun (s19 : (Int × (List Int))) =>
                  let n20 : Int := (w64 (s9.2.1 + (1 : Int)))
                  some (.inl (s19.1, (n20, s19.2)))
                else
                  some (.inr (s9.1, s9.2.2))) (s2, ((1 : Int), p0))) fun (s21 : (Int × (List Int))) =>
            ck (slOk s21.1 ((List.length s21.2) : Int) (List.length s21.2)) <|
            ck (Nat.blt (Int.toNat s21.1) (Int.toNat ((List.length s21.2) : Int))) <|
            let n22 : (List Int) := (clrL s21.1 ((List.length s21.2) : Int) (0 : Int) s21.2)
            ck (slOk (0 : Int) s21.1 (List.length n22)) <|
            some (.inr (.inr (List.drop (Int.toNat (0 : Int)) (List.take (Int.toNat s21.1) n22))))
          else
            let n23 : Int := (w64 (s2 + (1 : Int)))
            some (.inl n23)
        else
          some (.inr (.inl ()))) (1 : Int)) fun (s24 : PUnit) =>
    some p0
noncomputable def sp25 : TSpec := ⟨sg25, fun x => f25 x⟩
theorem sound25 : TSound Try.prog 25 sp25 :=
  tsound_of (T := TTab.of []) (ety := ety) [.tmp 2] an25 Try.func25 rfl rfl rfl (show sg25.er.ok = true by decide +kernel) rfl (show sg25.nargs ≤ Try.f25.ntmps by decide +kernel) rfl (TAll.sound trivial) ttok mixed fun x => by kernel_rfl

/-- slices.reverseRangeOrdered[uint64] -/
noncomputable def f32 (p0 : Int) (p1 : Int) (p2 : (List Int)) : Option (List Int) :=
  Option.bind (
    let n0 : Int := (w64 (p1 - (1 : Int)))
    Option.bind (
      loopM (fun (s1 : (Int × (Int × (List Int)))) =>
        let n2 : Bool := (decide (s1.1 < s1.2.1))
        bif n2 then
          ck (inB s1.2.1 (List.length s1.2.2)) <|
          let n3 : Int := (List.getD s1.2.2 (Int.toNat ((Int.toNat s1.2.1) : Int)) (0 : Int))
          ck (inB s1.1 (List.length s1.2.2)) <|
          let n4 : Int := (List.getD s1.2.2 (Int.toNat ((Int.toNat s1.1) : Int)) (0 : Int))
          ck (inB s1.1 (List.length s1.2.2)) <|
          let n5 : (List Int) := (List.set s1.2.2 (Int.toNat ((Int.toNat s1.1) : Int)) n3)
          ck (inB s1.2.1 (List.length n5)) <|
          let n6 : (List Int) := (List.set n5 (Int.toNat ((Int.toNat s1.2.1) : Int)) n4)
          let n7 : Int := (w64 (s1.1 + (1 : Int)))
          let n8 : Int := (w64 (s1.2.1 - (1 : Int)))
          some (.inl (n7, (n8, n6)))
        else
          some (.inr s1.2.2)) (p0, (n0, p2))) fun (s9 : (List Int)) =>
    some s9) fun (s10 : (List Int)) =>
  ck (decide ((List.length p2) = (List.length s10))) <|
  some s10
noncomputable def sp32 : TSpec := ⟨sg32, fun x => f32 x.1 x.2.1 x.2.2⟩
theorem sound32 : TSound Try.prog 32 sp32 :=
  tsound_of (T := TTab.of []) (ety := ety) [] an32 Try.func32 rfl rfl rfl (show sg32.er.ok = true by decide +kernel) rfl (show sg32.nargs ≤ Try.f32.ntmps by decide +kernel) rfl (TAll.sound trivial) ttok mixed fun x => by kernel_rfl

/-- math/bits.Len32 -/
noncomputable def f37 (p0 : Int) : Option Int :=
  let n0 : Bool := (decide ((65536 : Int) ≤ p0))
  Option.bind (
    bif n0 then
      let n1 : Int := (Int.fdiv p0 ((2 : Int) ^ (min (Int.toNat (16 : Int)) (32 : Nat))))
      some (n1, (16 : Int))
    else
      some (p0, (0 : Int))) fun (s2 : (Int × Int)) =>
  let n3 : Bool := (decide ((256 : Int) ≤ s2.1))
  Option.bind (
    bif n3 then
      let n4 : Int := (Int.fdiv s2.1 ((2 : Int) ^ (min (Int.toNat (8 : Int)) (32 : Nat))))
      let n5 : Int := (w64 (s2.2 + (8 : Int)))
      some (n4, n5)
    else
      some (s2.1, s2.2)) fun (s6 : (Int × Int)) =>
  let n7 : Int := (Go.IntKind.wrap .u8 s6.1)
  ck (inB n7 (List.length (([(0 : UInt8), (1 : UInt8), (2 : UInt8), (2 : UInt8), (3 : UInt8), (3 : UInt8), (3 : UInt8), (3 : UInt8), (4 : UInt8), (4 : UInt8), (4 : UInt8), (4 : UInt8), (4 : UInt8), (4 : UInt8), (4 : UInt8), (4 : UInt8), (5 : UInt8), (5 : UInt8), (5 : UInt8), (5 : UInt8), (5 : UInt8), (5 : UInt8), (5 : UInt8), (5 : UInt8), (5 : UInt8), (5 : UInt8), (5 : UInt8), (5 : UInt8), (5 : UInt8), (5 : UInt8), (5 : UInt8), (5 : UInt8), (6 : UInt8), (6 : UInt8), (6 : UInt8), (6 : UInt8), (6 : UInt8), (6 : UInt8), (6 : UInt8), (6 : UInt8), (6 : UInt8), (6 : UInt8), (6 : UInt8), (6 : UInt8), (6 : UInt8), (6 : UInt8), (6 : UInt8), (6 : UInt8), (6 : UInt8), (6 : UInt8), (6 : UInt8), (6 : UInt8), (6 : UInt8), (6 : UInt8), (6 : UInt8), (6 : UInt8), (6 : UInt8), (6 : UInt8), (6 : UInt8), (6 : UInt8), (6 : UInt8), (6 : UInt8), (6 : UInt8), (6 : UInt8)] ++ [(7 : UInt8), (7 : UInt8), (7 : UInt8), (7 : UInt8), (7 : UInt8), (7 : UInt8), (7 : UInt8), (7 : UInt8), (7 : UInt8), (7 : UInt8), (7 : UInt8), (7 : UInt8), (7 : UInt8), (7 : UInt8), (7 : UInt8), (7 : UInt8), (7 : UInt8), (7 : UInt8), (7 : UInt8), (7 : UInt8), (7 : UInt8), (7 : UInt8), (7 : UInt8), (7 : UInt8), (7 : UInt8), (7 : UInt8), (7 : UInt8), (7 : UInt8), (7 : UInt8), (7 : UInt8), (7 : UInt8), (7 : UInt8), (7 : UInt8), (7 : UInt8), (7 : UInt8), (7 : UInt8), (7 : UInt8), (7 : UInt8), (7 : UInt8), (7 : UInt8), (7 : UInt8), (7 : UInt8), (7 : UInt8), (7 : UInt8), (7 : UInt8), (7 : UInt8), (7 : UInt8), (7 : UInt8), (7 : UInt8), (7 : UInt8), (7 : UInt8), (7 : UInt8), (7 : UInt8), (7 : UInt8), (7 : UInt8), (7 : UInt8), (7 : UInt8), (7 : UInt8), (7 : UInt8), (7 : UInt8), (7 : UInt8), (7 : UInt8), (7 : UInt8), (7 : UInt8)]) ++ ([(8 : UInt8), (8 : UInt8), (8 : UInt8), (8 : UInt8), (8 : UInt8), (8 : UInt8), (8 : UInt8), (8 : UInt8), (8 : UInt8), (8 : UInt8), (8 : UInt8), (8 : UInt8), (8 : UInt8), (8 : UInt8), (8 : UInt8), (8 : UInt8), (8 : UInt8), (8 : UInt8), (8 : UInt8), (8 : UInt8), (8 : UInt8), (8 : UInt8), (8 : UInt8), (8 : UInt8), (8 : UInt8), (8 : UInt8), (8 : UInt8), (8 : UInt8), (8 : UInt8), (8 : UInt8), (8 : UInt8), (8 : UInt8), (8 : UInt8), (8 : UInt8), (8 : UInt8), (8 : UInt8), (8 : UInt8), (8 : UInt8), (8 : UInt8), (8 : UInt8), (8 : UInt8), (8 : UInt8), (8 : UInt8), (8 : UInt8), (8 : UInt8), (8 : UInt8), (8 : UInt8), (8 : UInt8), (8 : UInt8), (8 : UInt8), (8 : UInt8), (8 : UInt8), (8 : UInt8), (8 : UInt8), (8 : UInt8), (8 : UInt8), (8 : UInt8), (8 : UInt8), (8 : UInt8), (8 : UInt8), (8 : UInt8), (8 : UInt8), (8 : UInt8), (8 : UInt8)] ++ [(8 : UInt8), (8 : UInt8), (8 : UInt8), (8 : UInt8), (8 : UInt8), (8 : UInt8), (8 : UInt8), (8 : UInt8), (8 : UInt8), (8 : UInt8), (8 : UInt8), (8 : UInt8), (8 : UInt8), (8 : UInt8), (8 : UInt8), (8 : UInt8), (8 : UInt8), (8 : UInt8), (8 : UInt8), (8 : UInt8), (8 : UInt8), (8 : UInt8), (8 : UInt8), (8 : UInt8), (8 : UInt8), (8 : UInt8), (8 : UInt8), (8 : UInt8), (8 : UInt8), (8 : UInt8), (8 : UInt8), (8 : UInt8), (8 : UInt8), (8 : UInt8), (8 : UInt8), (8 : UInt8), (8 : UInt8), (8 : UInt8), (8 : UInt8), (8 : UInt8), (8 : UInt8), (8 : UInt8), (8 : UInt8), (8 : UInt8), (8 : UInt8), (8 : UInt8), (8 : UInt8), (8 : UInt8), (8 : UInt8), (8 : UInt8), (8 : UInt8), (8 : UInt8), (8 : UInt8), (8 : UInt8), (8 : UInt8), (8 : UInt8), (8 : UInt8), (8 : UInt8), (8 : UInt8), (8 : UInt8), (8 : UInt8), (8 : UInt8), (8 : UInt8), (8 : UInt8)])))) <|
  let n8 : Int := ((UInt8.toNat (List.getD (([(0 : UInt8), (1 : UInt8), (2 : UInt8), (2 : UInt8), (3 : UInt8), (3 : UInt8), (3 : UInt8), (3 : UInt8), (4 : UInt8), (4 : UInt8), (4 : UInt8), (4 : UInt8), (4 : UInt8), (4 : UInt8), (4 : UInt8), (4 : UInt8), (5 : UInt8), (5 : UInt8), (5 : UInt8), (5 : UInt8), (5 : UInt8), (5 : UInt8), (5 : UInt8), (5 : UInt8), (5 : UInt8), (5 : UInt8), (5 : UInt8), (5 : UInt8), (5 : UInt8), (5 : UInt8), (5 : UInt8), (5 : UInt8), (6 : UInt8), (6 : UInt8), (6 : UInt8), (6 : UInt8), (6 : UInt8), (6 : UInt8), (6 : UInt8), (6 : UInt8), (6 : UInt8), (6 : UInt8), (6 : UInt8), (6 : UInt8), (6 : UInt8), (6 : UInt8), (6 : UInt8), (6 : UInt8), (6 : UInt8), (6 : UInt8), (6 : UInt8), (6 : UInt8), (6 : UInt8), (6 : UInt8), (6 : UInt8), (6 : UInt8), (6 : UInt8), (6 : UInt8), (6 : UInt8), (6 : UInt8), (6 : UInt8), (6 : UInt8), (6 : UInt8), (6 : UInt8)] ++ [(7 : UInt8), (7 : UInt8), (7 : UInt8), (7 : UInt8), (7 : UInt8), (7 : UInt8), (7 : UInt8), (7 : UInt8), (7 : UInt8), (7 : UInt8), (7 : UInt8), (7 : UInt8), (7 : UInt8), (7 : UInt8), (7 : UInt8), (7 : UInt8), (7 : UInt8), (7 : UInt8), (7 : UInt8), (7 : UInt8), (7 : UInt8), (7 : UInt8), (7 : UInt8), (7 : UInt8), (7 : UInt8), (7 : UInt8), (7 : UInt8), (7 : UInt8), (7 : UInt8), (7 : UInt8), (7 : UInt8), (7 : UInt8), (7 : UInt8), (7 : UInt8), (7 : UInt8), (7 : UInt8), (7 : UInt8), (7 : UInt8), (7 : UInt8), (7 : UInt8), (7 : UInt8), (7 : UInt8), (7 : UInt8), (7 : UInt8), (7 : UInt8), (7 : UInt8), (7 : UInt8), (7 : UInt8), (7 : UInt8), (7 : UInt8), (7 : UInt8), (7 : UInt8), (7 : UInt8), (7 : UInt8), (7 : UInt8), (7 : UInt8), (7 : UInt8), (7 : UInt8), (7 : UInt8), (7 : UInt8), (7 : UInt8), (7 : UInt8), (7 : UInt8), (7 : UInt8)]) ++ ([(8 : UInt8), (8 : UInt8), (8 : UInt8), (8 : UInt8), (8 : UInt8), (8 : UInt8), (8 : UInt8), (8 : UInt8), (8 : UInt8), (8 : UInt8), (8 : UInt8), (8 : UInt8), (8 : UInt8), (8 : UInt8), (8 : UInt8), (8 : UInt8), (8 : UInt8), (8 : UInt8), (8 : UInt8), (8 : UInt8), (8 : UInt8), (8 : UInt8), (8 : UInt8), (8 : UInt8), (8 : UInt8), (8 : UInt8), (8 : UInt8), (8 : UInt8), (8 : UInt8), (8 : UInt8), (8 : UInt8), (8 : UInt8), (8 : UInt8), (8 : UInt8), (8 : UInt8), (8 : UInt8), (8 : UInt8), (8 : UInt8), (8 : UInt8), (8 : UInt8), (8 : UInt8), (8 : UInt8), (8 : UInt8), (8 : UInt8), (8 : UInt8), (8 : UInt8), (8 : UInt8), (8 : UInt8), (8 : UInt8), (8 : UInt8), (8 : UInt8), (8 : UInt8), (8 : UInt8), (8 : UInt8), (8 : UInt8), (8 : UInt8), (8 : UInt8), (8 : UInt8), (8 : UInt8), (8 : UInt8), (8 : UInt8), (8 : UInt8), (8 : UInt8), (8 : UInt8)] ++ [(8 : UInt8), (8 : UInt8), (8 : UInt8), (8 : UInt8), (8 : UInt8), (8 : UInt8), (8 : UInt8), (8 : UInt8), (8 : UInt8), (8 : UInt8), (8 : UInt8), (8 : UInt8), (8 : UInt8), (8 : UInt8), (8 : UInt8), (8 : UInt8), (8 : UInt8), (8 : UInt8), (8 : UInt8), (8 : UInt8), (8 : UInt8), (8 : UInt8), (8 : UInt8), (8 : UInt8), (8 : UInt8), (8 : UInt8), (8 : UInt8), (8 : UInt8), (8 : UInt8), (8 : UInt8), (8 : UInt8), (8 : UInt8), (8 : UInt8), (8 : UInt8), (8 : UInt8), (8 : UInt8), (8 : UInt8), (8 : UInt8), (8 : UInt8), (8 : UInt8), (8 : UInt8), (8 : UInt8), (8 : UInt8), (8 : UInt8), (8 : UInt8), (8 : UInt8), (8 : UInt8), (8 : UInt8), (8 : UInt8), (8 : UInt8), (8 : UInt8), (8 : UInt8), (8 : UInt8), (8 : UInt8), (8 : UInt8), (8 : UInt8), (8 : UInt8), (8 : UInt8), (8 : UInt8), (8 : UInt8), (8 : UInt8), (8 : UInt8), (8 : UInt8), (8 : UInt8)])) (Int.toNat n7) (0 : UInt8))) : Int)
  let n9 : Int := (w64 n8)
  let n10 : Int := (w64 (s6.2 + n9))
  some n10
noncomputable def sp37 : TSpec := ⟨sg37, fun x => f37 x⟩
theorem sound37 : TSound Try.prog 37 sp37 :=
  tsound_of (T := TTab.of []) (ety := ety) [.tmp 2] an37 Try.func37 rfl rfl rfl (show sg37.er.ok = true by decide +kernel) rfl (show sg37.nargs ≤ Try.f37.ntmps by decide +kernel) rfl (TAll.sound trivial) ttok mixed fun x => by kernel_rfl

/-- math/bits.Len64 -/
noncomputable def f38 (p0 : Int) : Option Int :=
  let n0 : Bool := (decide ((4294967296 : Int) ≤ p0))
  Option.bind (
    bif n0 then
      let n1 : Int := (Int.fdiv p0 ((2 : Int) ^ (min (Int.toNat (32 : Int)) (64 : Nat))))
      some (n1, (32 : Int))
    else
      some (p0, (0 : Int))) fun (s2 : (Int × Int)) =>
  let n3 : Bool := (decide ((65536 : Int) ≤ s2.1))
  Option.bind (
    bif n3 then
      let n4 : Int := (Int.fdiv s2.1 ((2 : Int) ^ (min (Int.toNat (16 : Int)) (64 : Nat))))
      let n5 : Int := (w64 (s2.2 + (16 : Int)))
      some (n4, n5)
    else
      some (s2.1, s2.2)) fun (s6 : (Int × Int)) =>
  let n7 : Bool := (decide ((256 : Int) ≤ s6.1))
  Option.bind (
    bif n7 then
      let n8 : Int := (Int.fdiv s6.1 ((2 : Int) ^ (min (Int.toNat (8 : Int)) (64 : Nat))))
      let n9 : Int := (w64 (s6.2 + (8 : Int)))
      some (n8, n9)
    else
      some (s6.1, s6.2)) fun (s10 : (Int × Int)) =>
  let n11 : Int := (Go.IntKind.wrap .u8 s10.1)
  ck (inB n11 (List.length (([(0 : UInt8), (1 : UInt8), (2 : UInt8), (2 : UInt8), (3 : UInt8), (3 : UInt8), (3 : UInt8), (3 : UInt8), (4 : UInt8), (4 : UInt8), (4 : UInt8), (4 : UInt8), (4 : UInt8), (4 : UInt8), (4 : UInt8), (4 : UInt8), (5 : UInt8), (5 : UInt8), (5 : UInt8), (5 : UInt8), (5 : UInt8), (5 : UInt8), (5 : UInt8), (5 : UInt8), (5 : UInt8), (5 : UInt8), (5 : UInt8), (5 : UInt8), (5 : UInt8), (5 : UInt8), (5 : UInt8), (5 : UInt8), (6 : UInt8), (6 : UInt8), (6 : UInt8), (6 : UInt8), (6 : UInt8), (6 : UInt8), (6 : UInt8), (6 : UInt8), (6 : UInt8), (6 : UInt8), (6 : UInt8), (6 : UInt8), (6 : UInt8), (6 : UInt8), (6 : UInt8), (6 : UInt8), (6 : UInt8), (6 : UInt8), (6 : UInt8), (6 : UInt8), (6 : UInt8), (6 : UInt8), (6 : UInt8), (6 : UInt8), (6 : UInt8), (6 : UInt8), (6 : UInt8), (6 : UInt8), (6 : UInt8), (6 : UInt8), (6 : UInt8), (6 : UInt8)] ++ [(7 : UInt8), (7 : UInt8), (7 : UInt8), (7 : UInt8), (7 : UInt8), (7 : UInt8), (7 : UInt8), (7 : UInt8), (7 : UInt8), (7 : UInt8), (7 : UInt8), (7 : UInt8), (7 : UInt8), (7 : UInt8), (7 : UInt8), (7 : UInt8), (7 : UInt8), (7 : UInt8), (7 : UInt8), (7 : UInt8), (7 : UInt8), (7 : UInt8), (7 : UInt8), (7 : UInt8), (7 : UInt8), (7 : UInt8), (7 : UInt8), (7 : UInt8), (7 : UInt8), (7 : UInt8), (7 : UInt8), (7 : UInt8), (7 : UInt8), (7 : UInt8), (7 : UInt8), (7 : UInt8), (7 : UInt8), (7 : UInt8), (7 : UInt8), (7 : UInt8), (7 : UInt8), (7 : UInt8), (7 : UInt8), (7 : UInt8), (7 : UInt8), (7 : UInt8), (7 : UInt8), (7 : UInt8), (7 : UInt8), (7 : UInt8), (7 : UInt8), (7 : UInt8), (7 : UInt8), (7 : UInt8), (7 : UInt8), (7 : UInt8), (7 : UInt8), (7 : UInt8), (7 : UInt8), (7 : UInt8), (7 : UInt8), (7 : UInt8), (7 : UInt8), (7 : UInt8)]) ++ ([(8 : UInt8), (8 : UInt8), (8 : UInt8), (8 : UInt8), (8 : UInt8), (8 : UInt8), (8 : UInt8), (8 : UInt8), (8 : UInt8), (8 : UInt8), (8 : UInt8), (8 : UInt8), (8 : UInt8), (8 : UInt8), (8 : UInt8), (8 : UInt8), (8 : UInt8), (8 : UInt8), (8 : UInt8), (8 : UInt8), (8 : UInt8), (8 : UInt8), (8 : UInt8), (8 : UInt8), (8 : UInt8), (8 : UInt8), (8 : UInt8), (8 : UInt8), (8 : UInt8), (8 : UInt8), (8 : UInt8), (8 : UInt8), (8 : UInt8), (8 : UInt8), (8 : UInt8), (8 : UInt8), (8 : UInt8), (8 : UInt8), (8 : UInt8), (8 : UInt8), (8 : UInt8), (8 : UInt8), (8 : UInt8), (8 : UInt8), (8 : UInt8), (8 : UInt8), (8 : UInt8), (8 : UInt8), (8 : UInt8), (8 : UInt8), (8 : UInt8), (8 : UInt8), (8 : UInt8), (8 : UInt8), (8 : UInt8), (8 : UInt8), (8 : UInt8), (8 : UInt8), (8 : UInt8), (8 : UInt8), (8 : UInt8), (8 : UInt8), (8 : UInt8), (8 : UInt8)] ++ [(8 : UInt8), (8 : UInt8), (8 : UInt8), (8 : UInt8), (8 : UInt8), (8 : UInt8), (8 : UInt8), (8 : UInt8), (8 : UInt8), (8 : UInt8), (8 : UInt8), (8 : UInt8), (8 : UInt8), (8 : UInt8), (8 : UInt8), (8 : UInt8), (8 : UInt8), (8 : UInt8), (8 : UInt8), (8 : UInt8), (8 : UInt8), (8 : UInt8), (8 : UInt8), (8 : UInt8), (8 : UInt8), (8 : UInt8), (8 : UInt8), (8 : UInt8), (8 : UInt8), (8 : UInt8), (8 : UInt8), (8 : UInt8), (8 : UInt8), (8 : UInt8), (8 : UInt8), (8 : UInt8), (8 : UInt8), (8 : UInt8), (8 : UInt8), (8 : UInt8), (8 : UInt8), (8 : UInt8), (8 : UInt8), (8 : UInt8), (8 : UInt8), (8 : UInt8), (8 : UInt8), (8 : UInt8), (8 : UInt8), (8 : UInt8), (8 : UInt8), (8 : UInt8), (8 : UInt8), (8 : UInt8), (8 : UInt8), (8 : UInt8), (8 : UInt8), (8 : UInt8), (8 : UInt8), (8 : UInt8), (8 : UInt8), (8 : UInt8), (8 : UInt8), (8 : UInt8)])))) <|
  let n12 : Int := ((UInt8.toNat (List.getD (([(0 : UInt8), (1 : UInt8), (2 : UInt8), (2 : UInt8), (3 : UInt8), (3 : UInt8), (3 : UInt8), (3 : UInt8), (4 : UInt8), (4 : UInt8), (4 : UInt8), (4 : UInt8), (4 : UInt8), (4 : UInt8), (4 : UInt8), (4 : UInt8), (5 : UInt8), (5 : UInt8), (5 : UInt8), (5 : UInt8), (5 : UInt8), (5 : UInt8), (5 : UInt8), (5 : UInt8), (5 : UInt8), (5 : UInt8), (5 : UInt8), (5 : UInt8), (5 : UInt8), (5 : UInt8), (5 : UInt8), (5 : UInt8), (6 : UInt8), (6 : UInt8), (6 : UInt8), (6 : UInt8), (6 : UInt8), (6 : UInt8), (6 : UInt8), (6 : UInt8), (6 : UInt8), (6 : UInt8), (6 : UInt8), (6 : UInt8), (6 : UInt8), (6 : UInt8), (6 : UInt8), (6 : UInt8), (6 : UInt8), (6 : UInt8), (6 : UInt8), (6 : UInt8), (6 : UInt8), (6 : UInt8), (6 : UInt8), (6 : UInt8), (6 : UInt8), (6 : UInt8), (6 : UInt8), (6 : UInt8), (6 : UInt8), (6 : UInt8), (6 : UInt8), (6 : UInt8)] ++ [(7 : UInt8), (7 : UInt8), (7 : UInt8), (7 : UInt8), (7 : UInt8), (7 : UInt8), (7 : UInt8), (7 : UInt8), (7 : UInt8), (7 : UInt8), (7 : UInt8), (7 : UInt8), (7 : UInt8), (7 : UInt8), (7 : UInt8), (7 : UInt8), (7 : UInt8), (7 : UInt8), (7 : UInt8), (7 : UInt8), (7 : UInt8), (7 : UInt8), (7 : UInt8), (7 : UInt8), (7 : UInt8), (7 : UInt8), (7 : UInt8), (7 : UInt8), (7 : UInt8), (7 : UInt8), (7 : UInt8), (7 : UInt8), (7 : UInt8), (7 : UInt8), (7 : UInt8), (7 : UInt8), (7 : UInt8), (7 : UInt8), (7 : UInt8), (7 : UInt8), (7 : UInt8), (7 : UInt8), (7 : UInt8), (7 : UInt8), (7 : UInt8), (7 : UInt8), (7 : UInt8), (7 : UInt8), (7 : UInt8), (7 : UInt8), (7 : UInt8), (7 : UInt8), (7 : UInt8), (7 : UInt8), (7 : UInt8), (7 : UInt8), (7 : UInt8), (7 : UInt8), (7 : UInt8), (7 : UInt8), (7 : UInt8), (7 : UInt8), (7 : UInt8), (7 : UInt8)]) ++ ([(8 : UInt8), (8 : UInt8), (8 : UInt8), (8 : UInt8), (8 : UInt8), (8 : UInt8), (8 : UInt8), (8 : UInt8), (8 : UInt8), (8 : UInt8), (8 : UInt8), (8 : UInt8), (8 : UInt8), (8 : UInt8), (8 : UInt8), (8 : UInt8), (8 : UInt8), (8 : UInt8), (8 : UInt8), (8 : UInt8), (8 : UInt8), (8 : UInt8), (8 : UInt8), (8 : UInt8), (8 : UInt8), (8 : UInt8), (8 : UInt8), (8 : UInt8), (8 : UInt8), (8 : UInt8), (8 : UInt8), (8 : UInt8), (8 : UInt8), (8 : UInt8), (8 : UInt8), (8 : UInt8), (8 : UInt8), (8 : UInt8), (8 : UInt8), (8 : UInt8), (8 : UInt8), (8 : UInt8), (8 : UInt8), (8 : UInt8), (8 : UInt8), (8 : UInt8), (8 : UInt8), (8 : UInt8), (8 : UInt8), (8 : UInt8), (8 : UInt8), (8 : UInt8), (8 : UInt8), (8 : UInt8), (8 : UInt8), (8 : UInt8), (8 : UInt8), (8 : UInt8), (8 : UInt8), (8 : UInt8), (8 : UInt8), (8 : UInt8), (8 : UInt8), (8 : UInt8)] ++ [(8 : UInt8), (8 : UInt8), (8 : UInt8), (8 : UInt8), (8 : UInt8), (8 : UInt8), (8 : UInt8), (8 : UInt8), (8 : UInt8), (8 : UInt8), (8 : UInt8), (8 : UInt8), (8 : UInt8), (8 : UInt8), (8 : UInt8), (8 : UInt8), (8 : UInt8), (8 : UInt8), (8 : UInt8), (8 : UInt8), (8 : UInt8), (8 : UInt8), (8 : UInt8), (8 : UInt8), (8 : UInt8), (8 : UInt8), (8 : UInt8), (8 : UInt8), (8 : UInt8), (8 : UInt8), (8 : UInt8), (8 : UInt8), (8 : UInt8), (8 : UInt8), (8 : UInt8), (8 : UInt8), (8 : UInt8), (8 : UInt8), (8 : UInt8), (8 : UInt8), (8 : UInt8), (8 : UInt8), (8 : UInt8), (8 : UInt8), (8 : UInt8), (8 : UInt8), (8 : UInt8), (8 : UInt8), (8 : UInt8), (8 : UInt8), (8 : UInt8), (8 : UInt8), (8 : UInt8), (8 : UInt8), (8 : UInt8), (8 : UInt8), (8 : UInt8), (8 : UInt8), (8 : UInt8), (8 : UInt8), (8 : UInt8), (8 : UInt8), (8 : UInt8), (8 : UInt8)])) (Int.toNat n11) (0 : UInt8))) : Int)
  let n13 : Int := (w64 n12)
  let n14 : Int := (w64 (s10.2 + n13))
  some n14
noncomputable def sp38 : TSpec := ⟨sg38, fun x => f38 x⟩
theorem sound38 : TSound Try.prog 38 sp38 :=
  tsound_of (T := TTab.of []) (ety := ety) [.tmp 2] an38 Try.func38 rfl rfl rfl (show sg38.er.ok = true by decide +kernel) rfl (show sg38.nargs ≤ Try.f38.ntmps by decide +kernel) rfl (TAll.sound trivial) ttok mixed fun x => by kernel_rfl

/-- (*slices.xorshift).Next -/
noncomputable def f41 (p0 : Int) : Option (Int × Int) :=
  let n0 : Int := (Go.IntKind.wrap .u64 (p0 * ((2 : Int) ^ (min (Int.toNat (13 : Int)) (64 : Nat)))))
  let n1 : Int := (Go.bits .xor .u64 p0 n0)
  let n2 : Int := (Int.fdiv n1 ((2 : Int) ^ (min (Int.toNat (7 : Int)) (64 : Nat))))
  let n3 : Int := (Go.bits .xor .u64 n1 n2)
  let n4 : Int := (Go.IntKind.wrap .u64 (n3 * ((2 : Int) ^ (min (Int.toNat (17 : Int)) (64 : Nat)))))
  let n5 : Int := (Go.bits .xor .u64 n3 n4)
  some (n5, n5)
noncomputable def sp41 : TSpec := ⟨sg41, fun x => f41 x⟩
theorem sound41 : TSound Try.prog 41 sp41 :=
  tsound_of (T := TTab.of []) (ety := ety) [.tmp 2] an41 Try.func41 rfl rfl rfl (show sg41.er.ok = true by decide +kernel) rfl (show sg41.nargs ≤ Try.f41.ntmps by decide +kernel) rfl (TAll.sound trivial) ttok mixed fun x => by kernel_rfl

/-- cmp.isNaN[uint64] -/
noncomputable def f44 (p0 : Int) : Option Bool :=
  let n0 : Bool := (!(decide (p0 = p0)))
  some n0
noncomputable def sp44 : TSpec := ⟨sg44, fun x => f44 x⟩
theorem sound44 : TSound Try.prog 44 sp44 :=
  tsound_of (T := TTab.of []) (ety := ety) [.tmp 2] an44 Try.func44 rfl rfl rfl (show sg44.er.ok = true by decide +kernel) rfl (show sg44.nargs ≤ Try.f44.ntmps by decide +kernel) rfl (TAll.sound trivial) ttok mixed fun x => by kernel_rfl

/-- warmpath/warmpathlaw02.awake -/
noncomputable def f6 : Option Bool :=
  Option.bind (
    Option.bind (f16 ([] : (List Int))) fun (c0 : Int) =>
    Option.bind (f14 (14695981039346656037 : Int)) fun (c1 : Int) =>
    let n2 : Bool := (decide (c0 = c1))
    bif n2 then
      Option.bind (f7 (1 : Int)) fun (c3 : Int) =>
      let n4 : Bool := (!(decide (c3 = (0 : Int))))
      let n5 : Bool := n4
      some n5
    else
      some false) fun (s6 : Bool) =>
  some s6
noncomputable def sp6 : TSpec := ⟨sg6, fun x => f6⟩
theorem sound6 : TSound Try.prog 6 sp6 :=
  tsound_of (T := TTab.of [(16, sp16), (14, sp14), (7, sp7)]) (ety := ety) [.tmp 0] an6 Try.func6 rfl rfl rfl (show sg6.er.ok = true by decide +kernel) rfl (show sg6.nargs ≤ Try.f6.ntmps by decide +kernel) rfl (TAll.sound ⟨sound16, sound14, sound7, trivial⟩) ttok mixed fun x => by kernel_rfl

/-- math/bits.Len -/
noncomputable def f27 (p0 : Int) : Option Int :=
  Option.bind (f38 p0) fun (c0 : Int) =>
  some c0
noncomputable def sp27 : TSpec := ⟨sg27, fun x => f27 x⟩
theorem sound27 : TSound Try.prog 27 sp27 :=
  tsound_of (T := TTab.of [(37, sp37), (38, sp38)]) (ety := ety) [.tmp 2] an27 Try.func27 rfl rfl rfl (show sg27.er.ok = true by decide +kernel) rfl (show sg27.nargs ≤ Try.f27.ntmps by decide +kernel) rfl (TAll.sound ⟨sound37, sound38, trivial⟩) ttok mixed fun x => by kernel_rfl

/-- cmp.Less[uint64] -/
noncomputable def f34 (p0 : Int) (p1 : Int) : Option Bool :=
  Option.bind (
    Option.bind (f44 p0) fun (c0 : Bool) =>
    bif c0 then
      Option.bind (f44 p1) fun (c1 : Bool) =>
      let n2 : Bool := (!c1)
      let n3 : Bool := n2
      bif n3 then
        some true
      else
        let n4 : Bool := (decide (p0 < p1))
        let n5 : Bool := n4
        some n5
    else
      let n6 : Bool := (decide (p0 < p1))
      let n7 : Bool := n6
      some n7) fun (s8 : Bool) =>
  some s8
noncomputable def sp34 : TSpec := ⟨sg34, fun x => f34 x.1 x.2⟩
theorem sound34 : TSound Try.prog 34 sp34 :=
  tsound_of (T := TTab.of [(44, sp44)]) (ety := ety) [.tmp 4] an34 Try.func34 rfl rfl rfl (show sg34.er.ok = true by decide +kernel) rfl (show sg34.nargs ≤ Try.f34.ntmps by decide +kernel) rfl (TAll.sound ⟨sound44, trivial⟩) ttok mixed fun x => by kernel_rfl

/-- slices.partitionEqualOrdered[uint64] -/
noncomputable def f35 (p0 : Int) (p1 : Int) (p2 : Int) (p3 : (List Int)) : Option (Int × (List Int)) :=
  Option.bind (
    ck (inB p2 (List.length p3)) <|
    let n0 : Int := (List.getD p3 (Int.toNat ((Int.toNat p2) : Int)) (0 : Int))
    ck (inB p0 (List.length p3)) <|
    let n1 : Int := (List.getD p3 (Int.toNat ((Int.toNat p0) : Int)) (0 : Int))
    ck (inB p0 (List.length p3)) <|
    let n2 : (List Int) := (List.set p3 (Int.toNat ((Int.toNat p0) : Int)) n0)
    ck (inB p2 (List.length n2)) <|
    let n3 : (List Int) := (List.set n2 (Int.toNat ((Int.toNat p2) : Int)) n1)
    let n4 : Int := (w64 (p0 + (1 : Int)))
    let n5 : Int := (w64 (p1 - (1 : Int)))
    Option.bind (
      loopM (fun (s6 : (Int × (Int × (List Int)))) =>
        Option.bind (
          loopM (fun (s7 : Int) =>
            Option.bind (
              let n8 : Bool := (decide (s7 ≤ s6.2.1))
              bif n8 then
                ck (inB p0 (List.length s6.2.2)) <|
                let n9 : Int := (List.getD s6.2.2 (Int.toNat ((Int.toNat p0) : Int)) (0 : Int))
                ck (inB s7 (List.length s6.2.2)) <|
                let n10 : Int := (List.getD s6.2.2 (Int.toNat ((Int.toNat s7) : Int)) (0 : Int))
                Option.bind (f34 n9 n10) fun (c11 : Bool) =>
                let n12 : Bool := (!c11)
                let n13 : Bool := n12
                some n13
              else
                some false) fun (s14 : Bool) =>
            bif s14 then
              let n15 : Int := (w64 (s7 + (1 : Int)))
              some (.inl n15)
            else
              some (.inr s7)) s6.1) fun (s16 : Int) =>
        Option.bind (
          loopM (fun (s17 : Int) =>
            Option.bind (
              let n18 : Bool := (decide (s16 ≤ s17))
              bif n18 then
                ck (inB p0 (List.length s6.2.2)) <|
                let n19 : Int := (List.getD s6.2.2 (Int.toNat ((Int.toNat p0) : Int)) (0 : Int))
                ck (inB s17 (List.length s6.2.2)) <|
                let n20 : Int := (List.getD s6.2.2 (Int.toNat ((Int.toNat s17) : Int)) (0 : Int))
                Option.bind (f34 n19 n20) fun (c21 : Bool) =>
                let n22 : Bool := c21
                some n22
              else
                some false) fun (s23 : Bool) =>
            bif s23 then
              let n24 : Int := (w64 (s17 - (1 : Int)))
              some (.inl n24)
            else
              some (.inr s17)) s6.2.1) fun (s25 : Int) =>
        let n26 : Bool := (decide (s25 < s16))
        bif n26 then
          some (.inr (s16, s6.2.2))
        else
          ck (inB s25 (List.length s6.2.2)) <|
          let n27 : Int := (List.getD s6.2.2 (Int.toNat ((Int.toNat s25) : Int)) (0 : Int))
          ck (inB s16 (List.length s6.2.2)) <|
          let n28 : Int := (List.getD s6.2.2 (Int.toNat ((Int.toNat s16) : Int)) (0 : Int))
          ck (inB s16 (List.length s6.2.2)) <|
          let n29 : (List Int) := (List.set s6.2.2 (Int.toNat ((Int.toNat s16) : Int)) n27)
          ck (inB s25 (List.length n29)) <|
          let n30 : (List Int) := (List.set n29 (Int.toNat ((Int.toNat s25) : Int)) n28)
          let n31 : Int := (w64 (s16 + (1 : Int)))
          let n32 : Int := (w64 (s25 - (1 : Int)))
          some (.inl (n31, (n32, n30)))) (n4, (n5, n3))) fun (s33 : (Int × (List Int))) =>
    some (s33.1, s33.2)) fun (s34 : (Int × (List Int))) =>
  ck (decide ((List.length p3) = (List.length s34.2))) <|
  some s34
noncomputable def sp35 : TSpec := ⟨sg35, fun x => f35 x.1 x.2.1 x.2.2.1 x.2.2.2⟩
theorem sound35 : TSound Try.prog 35 sp35 :=
  tsound_of (T := TTab.of [(34, sp34)]) (ety := ety) [.tmp 8] an35 Try.func35 rfl rfl rfl (show sg35.er.ok = true by decide +kernel) rfl (show sg35.nargs ≤ Try.f35.ntmps by decide +kernel) rfl (TAll.sound ⟨sound34, trivial⟩) ttok mixed fun x => by kernel_rfl

/-- slices.partitionOrdered[uint64] -/
noncomputable def f36 (p0 : Int) (p1 : Int) (p2 : Int) (p3 : (List Int)) : Option (Int × (Bool × (List Int))) :=
  Option.bind (
    ck (inB p2 (List.length p3)) <|
    let n0 : Int := (List.getD p3 (Int.toNat ((Int.toNat p2) : Int)) (0 : Int))
    ck (inB p0 (List.length p3)) <|
    let n1 : Int := (List.getD p3 (Int.toNat ((Int.toNat p0) : Int)) (0 : Int))
    ck (inB p0 (List.length p3)) <|
    let n2 : (List Int) := (List.set p3 (Int.toNat ((Int.toNat p0) : Int)) n0)
    ck (inB p2 (List.length n2)) <|
    let n3 : (List Int) := (List.set n2 (Int.toNat ((Int.toNat p2) : Int)) n1)
    let n4 : Int := (w64 (p0 + (1 : Int)))
    let n5 : Int := (w64 (p1 - (1 : Int)))
    Option.bind (
      loopM (fun (s6 : Int) =>
        Option.bind (
          let n7 : Bool := (decide (s6 ≤ n5))
          bif n7 then
            ck (inB s6 (List.length n3)) <|
            let n8 : Int := (List.getD n3 (Int.toNat ((Int.toNat s6) : Int)) (0 : Int))
            ck (inB p0 (List.length n3)) <|
            let n9 : Int := (List.getD n3 (Int.toNat ((Int.toNat p0) : Int)) (0 : Int))
            Option.bind (f34 n8 n9) fun (c10 : Bool) =>
            let n11 : Bool := c10
            some n11
          else
            some false) fun (s12 : Bool) =>
        bif s12 then
          let n13 : Int := (w64 (s6 + (1 : Int)))
          some (.inl n13)
        else
          some (.inr s6)) n4) fun (s14 : Int) =>
    Option.bind (
      loopM (fun (s15 : Int) =>
        Option.bind (
          let n16 : Bool := (decide (s14 ≤ s15))
          bif n16 then
            ck (inB s15 (List.length n3)) <|
            let n17 : Int := (List.getD n3 (Int.toNat ((Int.toNat s15) : Int)) (0 : Int))
            ck (inB p0 (List.length n3)) <|
            let n18 : Int := (List.getD n3 (Int.toNat ((Int.toNat p0) : Int)) (0 : Int))
            Option.bind (f34 n17 n18) fun (c19 : Bool) =>
            let n20 : Bool := (!c19)
            let n21 : Bool := n20
            some n21
          else
            some false) fun (s22 : Bool) =>
        bif s22 then
          let n23 : Int := (w64 (s15 - (1 : Int)))
          some (.inl n23)
        else
          some (.inr s15)) n5) fun (s24 : Int) =>
    let n25 : Bool := (decide (s24 < s14))
    bif n25 then
      ck (inB p0 (List.length n3)) <|
      let n26 : Int := (List.getD n3 (Int.toNat ((Int.toNat p0) : Int)) (0 : Int))
      ck (inB s24 (List.length n3)) <|
      let n27 : Int := (List.getD n3 (Int.toNat ((Int.toNat s24) : Int)) (0 : Int))
      ck (inB s24 (List.length n3)) <|
      let n28 : (List Int) := (List.set n3 (Int.toNat ((Int.toNat s24) : Int)) n26)
      ck (inB p0 (List.length n28)) <|
      let n29 : (List Int) := (List.set n28 (Int.toNat ((Int.toNat p0) : Int)) n27)
      some (s24, (true, n29))
    else
      ck (inB s24 (List.length n3)) <|
      let n30 : Int := (List.getD n3 (Int.toNat ((Int.toNat s24) : Int)) (0 : Int))
      ck (inB s14 (List.length n3)) <|
      let n31 : Int := (List.getD n3 (Int.toNat ((Int.toNat s14) : Int)) (0 : Int))
      ck (inB s14 (List.length n3)) <|
      let n32 : (List Int) := (List.set n3 (Int.toNat ((Int.toNat s14) : Int)) n30)
      ck (inB s24 (List.length n32)) <|
      let n33 : (List Int) := (List.set n32 (Int.toNat ((Int.toNat s24) : Int)) n31)
      let n34 : Int := (w64 (s14 + (1 : Int)))
      let n35 : Int := (w64 (s24 - (1 : Int)))
      Option.bind (
        loopM (fun (s36 : (Int × (Int × (List Int)))) =>
          Option.bind (
            loopM (fun (s37 : Int) =>
              Option.bind (
                let n38 : Bool := (decide (s37 ≤ s36.2.1))
                bif n38 then
                  ck (inB s37 (List.length s36.2.2)) <|
                  let n39 : Int := (List.getD s36.2.2 (Int.toNat ((Int.toNat s37) : Int)) (0 : Int))
                  ck (inB p0 (List.length s36.2.2)) <|
                  let n40 : Int := (List.getD s36.2.2 (Int.toNat ((Int.toNat p0) : Int)) (0 : Int))
                  Option.bind (f34 n39 n40) fun (c41 : Bool) =>
                  let n42 : Bool := c41
                  some n42
                else
                  some false) fun (s43 : Bool) =>
              bif s43 then
                let n44 : Int := (w64 (s37 + (1 : Int)))
                some (.inl n44)
              else
                some (.inr s37)) s36.1) fun (s45 : Int) =>
          Option.bind (
            loopM (fun (s46 : Int) =>
              Option.bind (
                let n47 : Bool := (decide (s45 ≤ s46))
                bif n47 then
                  ck (inB s46 (List.length s36.2.2)) <|
                  let n48 : Int := (List.getD s36.2.2 (Int.toNat ((Int.toNat s46) : Int)) (0 : Int))
                  ck (inB p0 (List.length s36.2.2)) <|
                  let n49 : Int := (List.getD s36.2.2 (Int.toNat ((Int.toNat p0) : Int)) (0 : Int))
                  Option.bind (f34 n48 n49) fun (c50 : Bool) =>
                  let n51 : Bool := (!c50)
                  let n52 : Bool := n51
                  some n52
                else
                  some false) fun (s53 : Bool) =>
              bif s53 then
                let n54 : Int := (w64 (s46 - (1 : Int)))
                some (.inl n54)
              else
                some (.inr s46)) s36.2.1) fun (s55 : Int) =>
          let n56 : Bool := (decide (s55 < s45))
          bif n56 then
            some (.inr (s55, s36.2.2))
          else
            ck (inB s55 (List.length s36.2.2)) <|
            let n57 : Int := (List.getD s36.2.2 (Int.toNat ((Int.toNat s55) : Int)) (0 : Int))
            ck (inB s45 (List.length s36.2.2)) <|
            let n58 : Int := (List.getD s36.2.2 (Int.toNat ((Int.toNat s45) : Int)) (0 : Int))
            ck (inB s45 (List.length s36.2.2)) <|
            let n59 : (List Int) := (List.set s36.2.2 (Int.toNat ((Int.toNat s45) : Int)) n57)
            ck (inB s55 (List.length n59)) <|
            let n60 : (List Int) := (List.set n59 (Int.toNat ((Int.toNat s55) : Int)) n58)
            let n61 : Int := (w64 (s45 + (1 : Int)))
            let n62 : Int := (w64 (s55 - (1 : Int)))
            some (.inl (n61, (n62, n60)))) (n34, (n35, n33))) fun (s63 : (Int × (List Int))) =>
      ck (inB p0 (List.length s63.2)) <|
      let n64 : Int := (List.getD s63.2 (Int.toNat ((Int.toNat p0) : Int)) (0 : Int))
      ck (inB s63.1 (List.length s63.2)) <|
      let n65 : Int := (List.getD s63.2 (Int.toNat ((Int.toNat s63.1) : Int)) (0 : Int))
      ck (inB s63.1 (List.length s63.2)) <|
      let n66 : (List Int) := (List.set s63.2 (Int.toNat ((Int.toNat s63.1) : Int)) n64)
      ck (inB p0 (List.length n66)) <|
      let n67 : (List Int) := (List.set n66 (Int.toNat ((Int.toNat p0) : Int)) n65)
      some (s63.1, (false, n67))) fun (s68 : (Int × (Bool × (List Int)))) =>
  ck (decide ((List.length p3) = (List.length s68.2.2))) <|
  some s68
noncomputable def sp36 : TSpec := ⟨sg36, fun x => f36 x.1 x.2.1 x.2.2.1 x.2.2.2⟩
theorem sound36 : TSound Try.prog 36 sp36 :=
  tsound_of (T := TTab.of [(34, sp34)]) (ety := ety) [.tmp 8, .tmp 9] an36 Try.func36 rfl rfl rfl (show sg36.er.ok = true by decide +kernel) rfl (show sg36.nargs ≤ Try.f36.ntmps by decide +kernel) rfl (TAll.sound ⟨sound34, trivial⟩) ttok mixed fun x => by kernel_rfl

/-- slices.siftDownOrdered[uint64] -/
noncomputable def f39 (p0 : Int) (p1 : Int) (p2 : Int) (p3 : (List Int)) : Option (List Int) :=
  Option.bind (
    bindE (
      loopM (fun (s0 : (Int × (List Int))) =>
        let n1 : Int := (w64 ((2 : Int) * s0.1))
        let n2 : Int := (w64 (n1 + (1 : Int)))
        let n3 : Bool := (decide (p1 ≤ n2))
        bif n3 then
          some (.inr (.inl s0.2))
        else
          Option.bind (
            let n4 : Int := (w64 (n2 + (1 : Int)))
            let n5 : Bool := (decide (n4 < p1))
            bif n5 then
              let n6 : Int := (w64 (p2 + n2))
              ck (inB n6 (List.length s0.2)) <|
              let n7 : Int := (List.getD s0.2 (Int.toNat ((Int.toNat n6) : Int)) (0 : Int))
              let n8 : Int := (w64 (p2 + n2))
              let n9 : Int := (w64 (n8 + (1 : Int)))
              ck (inB n9 (List.length s0.2)) <|
              let n10 : Int := (List.getD s0.2 (Int.toNat ((Int.toNat n9) : Int)) (0 : Int))
              Option.bind (f34 n7 n10) fun (c11 : Bool) =>
              let n12 : Bool := c11
              some n12
            else
              some false) fun (s13 : Bool) =>
          Option.bind (
            bif s13 then
              let n14 : Int := (w64 (n2 + (1 : Int)))
              some n14
            else
              some n2) fun (s15 : Int) =>
          let n16 : Int := (w64 (p2 + s0.1))
          ck (inB n16 (List.length s0.2)) <|
          let n17 : Int := (List.getD s0.2 (Int.toNat ((Int.toNat n16) : Int)) (0 : Int))
          let n18 : Int := (w64 (p2 + s15))
          ck (inB n18 (List.length s0.2)) <|
          let n19 : Int := (List.getD s0.2 (Int.toNat ((Int.toNat n18) : Int)) (0 : Int))
          Option.bind (f34 n17 n19) fun (c20 : Bool) =>
          let n21 : Bool := (!c20)
          bif n21 then
            some (.inr (.inr s0.2))
          else
            let n22 : Int := (w64 (p2 + s0.1))
            let n23 : Int := (w64 (p2 + s15))
            let n24 : Int := (w64 (p2 + s15))
            ck (inB n24 (List.length s0.2)) <|
            let n25 : Int := (List.getD s0.2 (Int.toNat ((Int.toNat n24) : Int)) (0 : Int))
            let n26 : Int := (w64 (p2 + s0.1))
            ck (inB n26 (List.length s0.2)) <|
            let n27 : Int := (List.getD s0.2 (Int.toNat ((Int.toNat n26) : Int)) (0 : Int))
            ck (inB n22 (List.length s0.2)) <|
            let n28 : (List Int) := (List.set s0.2 (Int.toNat ((Int.toNat n22) : Int)) n25)
            ck (inB n23 (List.length n28)) <|
            let n29 : (List Int) := (List.set n28 (Int.toNat ((Int.toNat n23) : Int)) n27)
            some (.inl (s15, n29))) (p0, p3)) fun (s30 : (List Int)) =>
    some s30) fun (s31 : (List Int)) =>
  ck (decide ((List.length p3) = (List.length s31))) <|
  some s31
noncomputable def sp39 : TSpec := ⟨sg39, fun x => f39 x.1 x.2.1 x.2.2.1 x.2.2.2⟩
theorem sound39 : TSound Try.prog 39 sp39 :=
  tsound_of (T := TTab.of [(34, sp34)]) (ety := ety) [] an39 Try.func39 rfl rfl rfl (show sg39.er.ok = true by decide +kernel) rfl (show sg39.nargs ≤ Try.f39.ntmps by decide +kernel) rfl (TAll.sound ⟨sound34, trivial⟩) ttok mixed fun x => by kernel_rfl

/-- slices.nextPowerOfTwo -/
noncomputable def f40 (p0 : Int) : Option Int :=
  let n0 : Int := (Go.IntKind.wrap .u64 p0)
  Option.bind (f27 n0) fun (c1 : Int) =>
  ck (decide ((0 : Int) ≤ c1)) <|
  let n2 : Int := (Go.IntKind.wrap .u64 ((1 : Int) * ((2 : Int) ^ (min (Int.toNat c1) (64 : Nat)))))
  some n2
noncomputable def sp40 : TSpec := ⟨sg40, fun x => f40 x⟩
theorem sound40 : TSound Try.prog 40 sp40 :=
  tsound_of (T := TTab.of [(27, sp27)]) (ety := ety) [.tmp 2] an40 Try.func40 rfl rfl rfl (show sg40.er.ok = true by decide +kernel) rfl (show sg40.nargs ≤ Try.f40.ntmps by decide +kernel) rfl (TAll.sound ⟨sound27, trivial⟩) ttok mixed fun x => by kernel_rfl

/-- slices.order2Ordered[uint64] -/
noncomputable def f45 (p0 : (List Int)) (p1 : Int) (p2 : Int) (p3 : Int) : Option (Int × (Int × Int)) :=
  ck (inB p2 (List.length p0)) <|
  let n0 : Int := (List.getD p0 (Int.toNat p2) (0 : Int))
  ck (inB p1 (List.length p0)) <|
  let n1 : Int := (List.getD p0 (Int.toNat p1) (0 : Int))
  Option.bind (f34 n0 n1) fun (c2 : Bool) =>
  bif c2 then
    let n3 : Int := (w64 (p3 + (1 : Int)))
    some (p2, (p1, n3))
  else
    some (p1, (p2, p3))
noncomputable def sp45 : TSpec := ⟨sg45, fun x => f45 x.1 x.2.1 x.2.2.1 x.2.2.2⟩
theorem sound45 : TSound Try.prog 45 sp45 :=
  tsound_of (T := TTab.of [(34, sp34)]) (ety := ety) [.tmp 8, .tmp 9] an45 Try.func45 rfl rfl rfl (show sg45.er.ok = true by decide +kernel) rfl (show sg45.nargs ≤ Try.f45.ntmps by decide +kernel) rfl (TAll.sound ⟨sound34, trivial⟩) ttok mixed fun x => by kernel_rfl

/-- slices.insertionSortOrdered[uint64] -/
noncomputable def f28 (p0 : Int) (p1 : Int) (p2 : (List Int)) : Option (List Int) :=
  Option.bind (
    let n0 : Int := (w64 (p0 + (1 : Int)))
    Option.bind (
      loopM (fun (s1 : (Int × (List Int))) =>
        let n2 : Bool := (decide (s1.1 < p1))
        bif n2 then
          Option.bind (
            loopM (fun (s3 : (Int × (List Int))) =>
              Option.bind (
                let n4 : Bool := (decide (p0 < s3.1))
                bif n4 then
                  ck (inB s3.1 (List.length s3.2)) <|
                  let n5 : Int := (List.getD s3.2 (Int.toNat ((Int.toNat s3.1) : Int)) (0 : Int))
                  let n6 : Int := (w64 (s3.1 - (1 : Int)))
                  ck (inB n6 (List.length s3.2)) <|
                  let n7 : Int := (List.getD s3.2 (Int.toNat ((Int.toNat n6) : Int)) (0 : Int))
                  Option.bind (f34 n5 n7) fun (c8 : Bool) =>
                  let n9 : Bool := c8
                  some n9
                else
                  some false) fun (s10 : Bool) =>
              bif s10 then
                let n11 : Int := (w64 (s3.1 - (1 : Int)))
                let n12 : Int := (w64 (s3.1 - (1 : Int)))
                ck (inB n12 (List.length s3.2)) <|
                let n13 : Int := (List.getD s3.2 (Int.toNat ((Int.toNat n12) : Int)) (0 : Int))
                ck (inB s3.1 (List.length s3.2)) <|
                let n14 : Int := (List.getD s3.2 (Int.toNat ((Int.toNat s3.1) : Int)) (0 : Int))
                ck (inB s3.1 (List.length s3.2)) <|
                let n15 : (List Int) := (List.set s3.2 (Int.toNat ((Int.toNat s3.1) : Int)) n13)
                ck (inB n11 (List.length n15)) <|
                let n16 : (List Int) := (List.set n15 (Int.toNat ((Int.toNat n11) : Int)) n14)
                let n17 : Int := (w64 (s3.1 - (1 : Int)))
                some (.inl (n17, n16))
              else
                some (.inr s3.2)) (s1.1, s1.2)) fun (s18 : (List Int)) =>
          let n19 : Int := (w64 (s1.1 + (1 : Int)))
          some (.inl (n19, s18))
        else
          some (.inr s1.2)) (n0, p2)) fun (s20 : (List Int)) =>
    some s20) fun (s21 : (List Int)) =>
  ck (decide ((List.length p2) = (List.length s21))) <|
  some s21
noncomputable def sp28 : TSpec := ⟨sg28, fun x => f28 x.1 x.2.1 x.2.2⟩
theorem sound28 : TSound Try.prog 28 sp28 :=
  tsound_of (T := TTab.of [(34, sp34)]) (ety := ety) [] an28 Try.func28 rfl rfl rfl (show sg28.er.ok = true by decide +kernel) rfl (show sg28.nargs ≤ Try.f28.ntmps by decide +kernel) rfl (TAll.sound ⟨sound34, trivial⟩) ttok mixed fun x => by kernel_rfl

/-- slices.heapSortOrdered[uint64] -/
noncomputable def f29 (p0 : Int) (p1 : Int) (p2 : (List Int)) : Option (List Int) :=
  Option.bind (
    let n0 : Int := (w64 (p1 - p0))
    let n1 : Int := (w64 (n0 - (1 : Int)))
    let n2 : Int := (w64 (Int.tdiv n1 (2 : Int)))
    Option.bind (
      loopM (fun (s3 : (Int × (List Int))) =>
        let n4 : Bool := (decide ((0 : Int) ≤ s3.1))
        bif n4 then
          Option.bind (f39 s3.1 n0 p0 s3.2) fun (c5 : (List Int)) =>
          let n6 : Int := (w64 (s3.1 - (1 : Int)))
          some (.inl (n6, c5))
        else
          some (.inr s3.2)) (n2, p2)) fun (s7 : (List Int)) =>
    let n8 : Int := (w64 (n0 - (1 : Int)))
    Option.bind (
      loopM (fun (s9 : (Int × (List Int))) =>
        let n10 : Bool := (decide ((0 : Int) ≤ s9.1))
        bif n10 then
          let n11 : Int := (w64 (p0 + s9.1))
          let n12 : Int := (w64 (p0 + s9.1))
          ck (inB n12 (List.length s9.2)) <|
          let n13 : Int := (List.getD s9.2 (Int.toNat ((Int.toNat n12) : Int)) (0 : Int))
          ck (inB p0 (List.length s9.2)) <|
          let n14 : Int := (List.getD s9.2 (Int.toNat ((Int.toNat p0) : Int)) (0 : Int))
          ck (inB p0 (List.length s9.2)) <|
          let n15 : (List Int) := (List.set s9.2 (Int.toNat ((Int.toNat p0) : Int)) n13)
          ck (inB n11 (List.length n15)) <|
          let n16 : (List Int) := (List.set n15 (Int.toNat ((Int.toNat n11) : Int)) n14)
          Option.bind (f39 (0 : Int) s9.1 p0 n16) fun (c17 : (List Int)) =>
          let n18 : Int := (w64 (s9.1 - (1 : Int)))
          some (.inl (n18, c17))
        else
          some (.inr s9.2)) (n8, s7)) fun (s19 : (List Int)) =>
    some s19) fun (s20 : (List Int)) =>
  ck (decide ((List.length p2) = (List.length s20))) <|
  some s20
noncomputable def sp29 : TSpec := ⟨sg29, fun x => f29 x.1 x.2.1 x.2.2⟩
theorem sound29 : TSound Try.prog 29 sp29 :=
  tsound_of (T := TTab.of [(39, sp39)]) (ety := ety) [] an29 Try.func29 rfl rfl rfl (show sg29.er.ok = true by decide +kernel) rfl (show sg29.nargs ≤ Try.f29.ntmps by decide +kernel) rfl (TAll.sound ⟨sound39, trivial⟩) ttok mixed fun x => by kernel_rfl

/-- slices.breakPatternsOrdered[uint64] -/
noncomputable def f30 (p0 : Int) (p1 : Int) (p2 : (List Int)) : Option (List Int) :=
  Option.bind (
    let n0 : Int := (w64 (p1 - p0))
    let n1 : Bool := (decide ((8 : Int) ≤ n0))
    Option.bind (
      bif n1 then
        let n2 : Int := (Go.IntKind.wrap .u64 n0)
        Option.bind (f40 n0) fun (c3 : Int) =>
        let n4 : Int := (w64 (Int.tdiv n0 (4 : Int)))
        let n5 : Int := (w64 (n4 * (2 : Int)))
        let n6 : Int := (w64 (p0 + n5))
        let n7 : Int := (w64 (n6 - (1 : Int)))
        Option.bind (
          loopM (fun (s8 : (Int × ((List Int) × Int))) =>
            let n9 : Int := (w64 (Int.tdiv n0 (4 : Int)))
            let n10 : Int := (w64 (n9 * (2 : Int)))
            let n11 : Int := (w64 (p0 + n10))
            let n12 : Int := (w64 (n11 + (1 : Int)))
            let n13 : Bool := (decide (s8.1 ≤ n12))
            bif n13 then
              Option.bind (f41 s8.2.2) fun (c14 : (Int × Int)) =>
              let n15 : Int := (Go.IntKind.wrap .u64 (c3 - (1 : Int)))
              let n16 : Int := (Go.bits .and .u64 c14.1 n15)
              let n17 : Int := (w64 n16)
              let n18 : Bool := (decide (n0 ≤ n17))
              Option.bind (
                bif n18 then
                  let n19 : Int := (w64 (n17 - n0))
                  some n19
                else
                  some n17) fun (s20 : Int) =>
              let n21 : Int := (w64 (p0 + s20))
              let n22 : Int := (w64 (p0 + s20))
              ck (inB n22 (List.length s8.2.1)) <|
              let n23 : Int := (List.getD s8.2.1 (Int.toNat ((Int.toNat n22) : Int)) (0 : Int))
              ck (inB s8.1 (List.length s8.2.1)) <|
              let n24 : Int := (List.getD s8.2.1 (Int.toNat ((Int.toNat s8.1) : Int)) (0 : Int))
              ck (inB s8.1 (List.length s8.2.1)) <|
              let n25 : (List Int) := (List.set s8.2.1 (Int.toNat ((Int.toNat s8.1) : Int)) n23)
              ck (inB n21 (List.length n25)) <|
              let n26 : (List Int) := (List.set n25 (Int.toNat ((Int.toNat n21) : Int)) n24)
              let n27 : Int := (w64 (s8.1 + (1 : Int)))
              some (.inl (n27, (n26, c14.2)))
            else
              some (.inr s8.2.1)) (n7, (p2, n2))) fun (s28 : (List Int)) =>
        some s28
      else
        some p2) fun (s29 : (List Int)) =>
    some s29) fun (s30 : (List Int)) =>
  ck (decide ((List.length p2) = (List.length s30))) <|
  some s30
noncomputable def sp30 : TSpec := ⟨sg30, fun x => f30 x.1 x.2.1 x.2.2⟩
theorem sound30 : TSound Try.prog 30 sp30 :=
  tsound_of (T := TTab.of [(40, sp40), (41, sp41)]) (ety := ety) [] an30 Try.func30 rfl rfl rfl (show sg30.er.ok = true by decide +kernel) rfl (show sg30.nargs ≤ Try.f30.ntmps by decide +kernel) rfl (TAll.sound ⟨sound40, sound41, trivial⟩) ttok mixed fun x => by kernel_rfl

/-- slices.partialInsertionSortOrdered[uint64] -/
noncomputable def f33 (p0 : Int) (p1 : Int) (p2 : (List Int)) : Option (Bool × (List Int)) :=
  Option.bind (
    let n0 : Int := (w64 (p0 + (1 : Int)))
    bindE (
      loopM (fun (s1 : (Int × (Int × (List Int)))) =>
        let n2 : Bool := (decide (s1.2.1 < (5 : Int)))
        bif n2 then
          Option.bind (
            loopM (fun (s3 : Int) =>
              Option.bind (
                let n4 : Bool := (decide (s3 < p1))
                bif n4 then
                  ck (inB s3 (List.length s1.2.2)) <|
                  let n5 : Int := (List.getD s1.2.2 (Int.toNat ((Int.toNat s3) : Int)) (0 : Int))
                  let n6 : Int := (w64 (s3 - (1 : Int)))
                  ck (inB n6 (List.length s1.2.2)) <|
                  let n7 : Int := (List.getD s1.2.2 (Int.toNat ((Int.toNat n6) : Int)) (0 : Int))
                  Option.bind (f34 n5 n7) fun (c8 : Bool) =>
                  let n9 : Bool := (!c8)
                  let n10 : Bool := n9
                  some n10
                else
                  some false) fun (s11 : Bool) =>
              bif s11 then
                let n12 : Int := (w64 (s3 + (1 : Int)))
                some (.inl n12)
              else
                some (.inr s3)) s1.1) fun (s13 : Int) =>
          let n14 : Bool := (decide (s13 = p1))
          bif n14 then
            some (.inr (.inr (true, s1.2.2)))
          else
            let n15 : Int := (w64 (p1 - p0))
            let n16 : Bool := (decide (n15 < (50 : Int)))
            bif n16 then
              some (.inr (.inr (false, s1.2.2)))
            else
              let n17 : Int := (w64 (s13 - (1 : Int)))
              let n18 : Int := (w64 (s13 - (1 : Int)))
              ck (inB n18 (List.length s1.2.2)) <|
              let n19 : Int := (List.getD s1.2.2 (Int.toNat ((Int.toNat n18) : Int)) (0 : Int))
              ck (inB s13 (List.length s1.2.2)) <|
              let n20 : Int := (List.getD s1.2.2 (Int.toNat ((Int.toNat s13) : Int)) (0 : Int))
              ck (inB s13 (List.length s1.2.2)) <|
              let n21 : (List Int) := (List.set s1.2.2 (Int.toNat ((Int.toNat s13) : Int)) n19)
              ck (inB n17 (List.length n21)) <|
              let n22 : (List Int) := (List.set n21 (Int.toNat ((Int.toNat n17) : Int)) n20)
              let n23 : Int := (w64 (s13 - p0))
              let n24 : Bool := (decide ((2 : Int) ≤ n23))
              Option.bind (
                bif n24 then
                  let n25 : Int := (w64 (s13 - (1 : Int)))
                  Option.bind (
                    loopM (fun (s26 : (Int × (List Int))) =>
                      let n27 : Bool := (decide ((1 : Int) ≤ s26.1))
                      bif n27 then
                        ck (inB s26.1 (List.length s26.2)) <|
                        let n28 : Int := (List.getD s26.2 (Int.toNat ((Int.toNat s26.1) : Int)) (0 : Int))
                        let n29 : Int := (w64 (s26.1 - (1 : Int)))
                        ck (inB n29 (List.length s26.2)) <|
                        let n30 : Int := (List.getD s26.2 (Int.toNat ((Int.toNat n29) : Int)) (0 : Int))
                        Option.bind (f34 n28 n30) fun (c31 : Bool) =>
                        let n32 : Bool := (!c31)
                        bif n32 then
                          some (.inr s26.2)
                        else
                          let n33 : Int := (w64 (s26.1 - (1 : Int)))
                          let n34 : Int := (w64 (s26.1 - (1 : Int)))
                          ck (inB n34 (List.length s26.2)) <|
                          let n35 : Int := (List.getD s26.2 (Int.toNat ((Int.toNat n34) : Int)) (0 : Int))
                          ck (inB s26.1 (List.length s26.2)) <|
                          let n36 : Int := (List.getD s26.2 (Int.toNat ((Int.toNat s26.1) : Int)) (0 : Int))
                          ck (inB s26.1 (List.length s26.2)) <|
                          let n37 : (List Int) := (List.set s26.2 (Int.toNat ((Int.toNat s26.1) : Int)) n35)
                          ck (inB n33 (List.length n37)) <|
                          let n38 : (List Int) := (List.set n37 (Int.toNat ((Int.toNat n33) : Int)) n36)
                          let n39 : Int := (w64 (s26.1 - (1 : Int)))
                          some (.inl (n39, n38))
                      else
                        some (.inr s26.2)) (n25, n22)) fun (s40 : (List Int)) =>
                  some s40
                else
                  some n22) fun (s41 : (List Int)) =>
              let n42 : Int := (w64 (p1 - s13))
              let n43 : Bool := (decide ((2 : Int) ≤ n42))
              Option.bind (
                bif n43 then
                  let n44 : Int := (w64 (s13 + (1 : Int)))
                  Option.bind (
                    loopM (fun (s45 : (Int × (List Int))) =>
                      let n46 : Bool := (decide (s45.1 < p1))
                      bif n46 then
                        ck (inB s45.1 (List.length s45.2)) <|
                        let n47 : Int := (List.getD s45.2 (Int.toNat ((Int.toNat s45.1) : Int)) (0 : Int))
                        let n48 : Int := (w64 (s45.1 - (1 : Int)))
                        ck (inB n48 (List.length s45.2)) <|
                        let n49 : Int := (List.getD s45.2 (Int.toNat ((Int.toNat n48) : Int)) (0 : Int))
                        Option.bind (f34 n47 n49) fun (c50 : Bool) =>
                        let n51 : Bool := (!c50)
                        bif n51 then
                          some (.inr s45.2)
                        else
                          let n52 : Int := (w64 (s45.1 - (1 : Int)))
                          let n53 : Int := (w64 (s45.1 - (1 : Int)))
                          ck (inB n53 (List.length s45.2)) <|
                          let n54 : Int := (List.getD s45.2 (Int.toNat ((Int.toNat n53) : Int)) (0 : Int))
                          ck (inB s45.1 (List.length s45.2)) <|
                          let n55 : Int := (List.getD s45.2 (Int.toNat ((Int.toNat s45.1) : Int)) (0 : Int))
                          ck (inB s45.1 (List.length s45.2)) <|
                          let n56 : (List Int) := (List.set s45.2 (Int.toNat ((Int.toNat s45.1) : Int)) n54)
                          ck (inB n52 (List.length n56)) <|
                          let n57 : (List Int) := (List.set n56 (Int.toNat ((Int.toNat n52) : Int)) n55)
                          let n58 : Int := (w64 (s45.1 + (1 : Int)))
                          some (.inl (n58, n57))
                      else
                        some (.inr s45.2)) (n44, s41)) fun (s59 : (List Int)) =>
                  some s59
                else
                  some s41) fun (s60 : (List Int)) =>
              let n61 : Int := (w64 (s1.2.1 + (1 : Int)))
              some (.inl (s13, (n61, s60)))
        else
          some (.inr (.inl s1.2.2))) (n0, ((0 : Int), p2))) fun (s62 : (List Int)) =>
    some (false, s62)) fun (s63 : (Bool × (List Int))) =>
  ck (decide ((List.length p2) = (List.length s63.2))) <|
  some s63
noncomputable def sp33 : TSpec := ⟨sg33, fun x => f33 x.1 x.2.1 x.2.2⟩
theorem sound33 : TSound Try.prog 33 sp33 :=
  tsound_of (T := TTab.of [(34, sp34)]) (ety := ety) [.tmp 6] an33 Try.func33 rfl rfl rfl (show sg33.er.ok = true by decide +kernel) rfl (show sg33.nargs ≤ Try.f33.ntmps by decide +kernel) rfl (TAll.sound ⟨sound34, trivial⟩) ttok mixed fun x => by kernel_rfl

/-- slices.medianOrdered[uint64] -/
noncomputable def f43 (p0 : (List Int)) (p1 : Int) (p2 : Int) (p3 : Int) (p4 : Int) : Option (Int × Int) :=
  Option.bind (f45 p0 p1 p2 p4) fun (c0 : (Int × (Int × Int))) =>
  Option.bind (f45 p0 c0.2.1 p3 c0.2.2) fun (c1 : (Int × (Int × Int))) =>
  Option.bind (f45 p0 c0.1 c1.1 c1.2.2) fun (c2 : (Int × (Int × Int))) =>
  some (c2.2.1, c2.2.2)
noncomputable def sp43 : TSpec := ⟨sg43, fun x => f43 x.1 x.2.1 x.2.2.1 x.2.2.2.1 x.2.2.2.2⟩
theorem sound43 : TSound Try.prog 43 sp43 :=
  tsound_of (T := TTab.of [(45, sp45)]) (ety := ety) [.tmp 10] an43 Try.func43 rfl rfl rfl (show sg43.er.ok = true by decide +kernel) rfl (show sg43.nargs ≤ Try.f43.ntmps by decide +kernel) rfl (TAll.sound ⟨sound45, trivial⟩) ttok mixed fun x => by kernel_rfl

/-- slices.medianAdjacentOrdered[uint64] -/
noncomputable def f42 (p0 : (List Int)) (p1 : Int) (p2 : Int) : Option (Int × Int) :=
  let n0 : Int := (w64 (p1 - (1 : Int)))
  let n1 : Int := (w64 (p1 + (1 : Int)))
  Option.bind (f43 p0 n0 p1 n1 p2) fun (c2 : (Int × Int)) =>
  some (c2.1, c2.2)
noncomputable def sp42 : TSpec := ⟨sg42, fun x => f42 x.1 x.2.1 x.2.2⟩
theorem sound42 : TSound Try.prog 42 sp42 :=
  tsound_of (T := TTab.of [(43, sp43)]) (ety := ety) [.tmp 6] an42 Try.func42 rfl rfl rfl (show sg42.er.ok = true by decide +kernel) rfl (show sg42.nargs ≤ Try.f42.ntmps by decide +kernel) rfl (TAll.sound ⟨sound43, trivial⟩) ttok mixed fun x => by kernel_rfl

/-- slices.choosePivotOrdered[uint64] -/
noncomputable def f31 (p0 : (List Int)) (p1 : Int) (p2 : Int) : Option (Int × Int) :=
  let n0 : Int := (w64 (p2 - p1))
  let n1 : Int := (w64 (Int.tdiv n0 (4 : Int)))
  let n2 : Int := (w64 (n1 * (1 : Int)))
  let n3 : Int := (w64 (p1 + n2))
  let n4 : Int := (w64 (Int.tdiv n0 (4 : Int)))
  let n5 : Int := (w64 (n4 * (2 : Int)))
  let n6 : Int := (w64 (p1 + n5))
  let n7 : Int := (w64 (Int.tdiv n0 (4 : Int)))
  let n8 : Int := (w64 (n7 * (3 : Int)))
  let n9 : Int := (w64 (p1 + n8))
  let n10 : Bool := (decide ((8 : Int) ≤ n0))
  Option.bind (
    bif n10 then
      let n11 : Bool := (decide ((50 : Int) ≤ n0))
      Option.bind (
        bif n11 then
          Option.bind (f42 p0 n3 (0 : Int)) fun (c12 : (Int × Int)) =>
          Option.bind (f42 p0 n6 c12.2) fun (c13 : (Int × Int)) =>
          Option.bind (f42 p0 n9 c13.2) fun (c14 : (Int × Int)) =>
          some (c12.1, (c13.1, (c14.1, c14.2)))
        else
          some (n3, (n6, (n9, (0 : Int))))) fun (s15 : (Int × (Int × (Int × Int)))) =>
      Option.bind (f43 p0 s15.1 s15.2.1 s15.2.2.1 s15.2.2.2) fun (c16 : (Int × Int)) =>
      some (c16.1, c16.2)
    else
      some (n6, (0 : Int))) fun (s17 : (Int × Int)) =>
  let n18 : Bool := (decide (s17.2 = (0 : Int)))
  bif n18 then
    some (s17.1, (1 : Int))
  else
    let n19 : Bool := (decide (s17.2 = (12 : Int)))
    bif n19 then
      some (s17.1, (2 : Int))
    else
      some (s17.1, (0 : Int))
noncomputable def sp31 : TSpec := ⟨sg31, fun x => f31 x.1 x.2.1 x.2.2⟩
theorem sound31 : TSound Try.prog 31 sp31 :=
  tsound_of (T := TTab.of [(42, sp42), (43, sp43)]) (ety := ety) [.tmp 6, .tmp 7] an31 Try.func31 rfl rfl rfl (show sg31.er.ok = true by decide +kernel) rfl (show sg31.nargs ≤ Try.f31.ntmps by decide +kernel) rfl (TAll.sound ⟨sound42, sound43, trivial⟩) ttok mixed fun x => by kernel_rfl

/-- slices.pdqsortOrdered[uint64] -/
noncomputable def f26S (rec26 : Int → Int → Int → (List Int) → Option (List Int)) (p0 : Int) (p1 : Int) (p2 : Int) (p3 : (List Int)) : Option (List Int) :=
  Option.bind (
    loopM (fun (s0 : (Int × (Int × (Int × (Bool × (Bool × (List Int))))))) =>
      bindE (
        let n1 : Int := (w64 (s0.2.1 - s0.1))
        let n2 : Bool := (decide (n1 ≤ (12 : Int)))
        bif n2 then
          Option.bind (f28 s0.1 s0.2.1 s0.2.2.2.2.2) fun (c3 : (List Int)) =>
          some (.inr (.inr c3))
        else
          let n4 : Bool := (decide (s0.2.2.1 = (0 : Int)))
          bif n4 then
            Option.bind (f29 s0.1 s0.2.1 s0.2.2.2.2.2) fun (c5 : (List Int)) =>
            some (.inr (.inr c5))
          else
            let n6 : Bool := (!s0.2.2.2.1)
            Option.bind (
              bif n6 then
                Option.bind (f30 s0.1 s0.2.1 s0.2.2.2.2.2) fun (c7 : (List Int)) =>
                let n8 : Int := (w64 (s0.2.2.1 - (1 : Int)))
                some (n8, c7)
              else
                some (s0.2.2.1, s0.2.2.2.2.2)) fun (s9 : (Int × (List Int))) =>
            Option.bind (f31 s9.2 s0.1 s0.2.1) fun (c10 : (Int × Int)) =>
            let n11 : Bool := (decide (c10.2 = (2 : Int)))
            Option.bind (
              bif n11 then
                Option.bind (f32 s0.1 s0.2.1 s9.2) fun (c12 : (List Int)) =>
                let n13 : Int := (w64 (s0.2.1 - (1 : Int)))
                let n14 : Int := (w64 (c10.1 - s0.1))
                let n15 : Int := (w64 (n13 - n14))
                some (n15, ((1 : Int), c12))
              else
                some (c10.1, (c10.2, s9.2))) fun (s16 : (Int × (Int × (List Int)))) =>
            Option.bind (
              bif s0.2.2.2.1 then
                let n17 : Bool := s0.2.2.2.2.1
                bif n17 then
                  let n18 : Bool := (decide (s16.2.1 = (1 : Int)))
                  let n19 : Bool := n18
                  some n19
                else
                  some false
              else
                some false) fun (s20 : Bool) =>
            bindE (
              bif s20 then
                Option.bind (f33 s0.1 s0.2.1 s16.2.2) fun (c21 : (Bool × (List Int))) =>
                bif c21.1 then
                  some (.inr (.inr (.inr c21.2)))
                else
                  some (.inl c21.2)
              else
                some (.inl s16.2.2)) fun (s22 : (List Int)) =>
            Option.bind (
              let n23 : Bool := (decide ((0 : Int) < s0.1))
              bif n23 then
                let n24 : Int := (w64 (s0.1 - (1 : Int)))
                ck (inB n24 (List.length s22)) <|
                let n25 : Int := (List.getD s22 (Int.toNat ((Int.toNat n24) : Int)) (0 : Int))
                ck (inB s16.1 (List.length s22)) <|
                let n26 : Int := (List.getD s22 (Int.toNat ((Int.toNat s16.1) : Int)) (0 : Int))
                Option.bind (f34 n25 n26) fun (c27 : Bool) =>
                let n28 : Bool := (!c27)
                let n29 : Bool := n28
                some n29
              else
                some false) fun (s30 : Bool) =>
            bif s30 then
              Option.bind (f35 s0.1 s0.2.1 s16.1 s22) fun (c31 : (Int × (List Int))) =>
              some (.inl (c31.1, (s0.2.1, (s9.1, (s0.2.2.2.1, (s0.2.2.2.2.1, c31.2))))))
            else
              Option.bind (f36 s0.1 s0.2.1 s16.1 s22) fun (c32 : (Int × (Bool × (List Int)))) =>
              let n33 : Int := (w64 (c32.1 - s0.1))
              let n34 : Int := (w64 (s0.2.1 - c32.1))
              let n35 : Int := (w64 (Int.tdiv n1 (8 : Int)))
              let n36 : Bool := (decide (n33 < n34))
              Option.bind (
                bif n36 then
                  let n37 : Bool := (decide (n35 ≤ n33))
                  Option.bind (rec26 s0.1 c32.1 s9.1 c32.2.2) fun (c38 : (List Int)) =>
                  let n39 : Int := (w64 (c32.1 + (1 : Int)))
                  some (n39, (s0.2.1, (n37, c38)))
                else
                  let n40 : Bool := (decide (n35 ≤ n34))
                  let n41 : Int := (w64 (c32.1 + (1 : Int)))
                  Option.bind (rec26 n41 s0.2.1 s9.1 c32.2.2) fun (c42 : (List Int)) =>
                  some (s0.1, (c32.1, (n40, c42)))) fun (s43 : (Int × (Int × (Bool × (List Int))))) =>
              some (.inl (s43.1, (s43.2.1, (s9.1, (s43.2.2.1, (c32.2.1, s43.2.2.2))))))) fun (s44 : (Int × (Int × (Int × (Bool × (Bool × (List Int))))))) =>
      some (.inl (s44.1, (s44.2.1, (s44.2.2.1, (s44.2.2.2.1, (s44.2.2.2.2.1, s44.2.2.2.2.2))))))) (p0, (p1, (p2, (true, (true, p3)))))) fun (s45 : (List Int)) =>
  ck (decide ((List.length p3) = (List.length s45))) <|
  some s45
noncomputable def ring26 : Nat → (Int → Int → Int → (List Int) → Option (List Int))
  | 0 => (fun _ _ _ _ => none)
  | n + 1 => (f26S (ring26 n))
noncomputable def f26N (n : Nat) : Int → Int → Int → (List Int) → Option (List Int) := (ring26 n)
noncomputable def sp26N (n : Nat) : TSpec := ⟨sg26, fun x => (ring26 n) x.1 x.2.1 x.2.2.1 x.2.2.2⟩
theorem sound26S (n : Nat) (h26 : TSound Try.prog 26 (sp26N n)) : TSound Try.prog 26 (sp26N (n + 1)) :=
  tsound_of (T := TTab.of [(28, sp28), (29, sp29), (30, sp30), (31, sp31), (32, sp32), (33, sp33), (34, sp34), (35, sp35), (36, sp36), (26, sp26N n)]) (ety := ety) [] an26 Try.func26 rfl rfl rfl (show sg26.er.ok = true by decide +kernel) rfl (show sg26.nargs ≤ Try.f26.ntmps by decide +kernel) rfl (TAll.sound ⟨sound28, sound29, sound30, sound31, sound32, sound33, sound34, sound35, sound36, h26, trivial⟩) ttok mixed fun x => by kernel_rfl
theorem soundRing26 : ∀ n, TSound Try.prog 26 (sp26N n)
  | 0 => tsound_none Try.func26 rfl rfl (show sg26.er.ok = true by decide +kernel) fun x => rfl
  | n + 1 => by
    have ih := soundRing26 n
    exact sound26S n (ih)
noncomputable def f26 (p0 : Int) (p1 : Int) (p2 : Int) (p3 : (List Int)) : Option (List Int) := f26N 1048576 p0 p1 p2 p3
noncomputable def sp26 : TSpec := sp26N 1048576
theorem sound26 : TSound Try.prog 26 sp26 := (soundRing26 1048576)

/-- slices.Sort[[]uint64,uint64] -/
noncomputable def f24 (p0 : (List Int)) : Option (List Int) :=
  Option.bind (
    let n0 : Int := ((List.length p0) : Int)
    let n1 : Int := (Go.IntKind.wrap .u64 n0)
    Option.bind (f27 n1) fun (c2 : Int) =>
    Option.bind (f26 (0 : Int) n0 c2 p0) fun (c3 : (List Int)) =>
    some c3) fun (s4 : (List Int)) =>
  ck (decide ((List.length p0) = (List.length s4))) <|
  some s4
noncomputable def sp24 : TSpec := ⟨sg24, fun x => f24 x⟩
theorem sound24 : TSound Try.prog 24 sp24 :=
  tsound_of (T := TTab.of [(27, sp27), (26, sp26)]) (ety := ety) [] an24 Try.func24 rfl rfl rfl (show sg24.er.ok = true by decide +kernel) rfl (show sg24.nargs ≤ Try.f24.ntmps by decide +kernel) rfl (TAll.sound ⟨sound27, sound26, trivial⟩) ttok mixed fun x => by kernel_rfl

/-- warmpath/fingerprint.Distinct -/
noncomputable def f12 (p0 : (List Int)) : Option Int :=
  Option.bind (f23 p0) fun (c0 : (List Int)) =>
  Option.bind (f24 c0) fun (c1 : (List Int)) =>
  Option.bind (f25 c1) fun (c2 : (List Int)) =>
  Option.bind (f11 c2) fun (c3 : Int) =>
  some c3
noncomputable def sp12 : TSpec := ⟨sg12, fun x => f12 x⟩
theorem sound12 : TSound Try.prog 12 sp12 :=
  tsound_of (T := TTab.of [(23, sp23), (24, sp24), (25, sp25), (11, sp11)]) (ety := ety) [.tmp 2] an12 Try.func12 rfl rfl rfl (show sg12.er.ok = true by decide +kernel) rfl (show sg12.nargs ≤ Try.f12.ntmps by decide +kernel) rfl (TAll.sound ⟨sound23, sound24, sound25, sound11, trivial⟩) ttok mixed fun x => by kernel_rfl

/-- warmpath/warmpathlaw02.FingerprintOrder -/
noncomputable def f4 (p0 : (List Int)) (p1 : Int) : Option Bool :=
  Option.bind (f6) fun (c0 : Bool) =>
  let n1 : Bool := (!c0)
  bif n1 then
    some false
  else
    Option.bind (f9 p0 (100 : Int)) fun (c2 : ((List Int) × Int)) =>
    Option.bind (f10 (12 : Int) c2.1 c2.2) fun (c3 : (Int × ((List Int) × Int))) =>
    Option.bind (
      loopM (fun (s4 : (Int × ((List Int) × (Int × (List Int))))) =>
        let n5 : Bool := (decide ((0 : Int) < s4.1))
        bif n5 then
          Option.bind (f10 (6 : Int) s4.2.1 s4.2.2.1) fun (c6 : (Int × ((List Int) × Int))) =>
          let n7 : Int := (Go.IntKind.wrap .u64 c6.1)
          let n8 : (List Int) := [n7]
          ck (true && (decide ((((List.length s4.2.2.2) + (List.length n8)) * (8 : Nat)) ≤ (140737488355328 : Nat)))) <|
          let n9 : (List Int) := (s4.2.2.2 ++ n8)
          let n10 : Int := (w64 (s4.1 - (1 : Int)))
          some (.inl (n10, (c6.2.1, (c6.2.2, n9))))
        else
          some (.inr (s4.2.1, (s4.2.2.1, s4.2.2.2)))) (c3.1, (c3.2.1, (c3.2.2, ([] : (List Int)))))) fun (s11 : ((List Int) × (Int × (List Int)))) =>
    Option.bind (
      loopM (fun (s12 : (Int × ((List Int) × (Int × (List Int))))) =>
        let n13 : Int := ((List.length s11.2.2) : Int)
        let n14 : Bool := (decide (s12.1 < n13))
        bif n14 then
          let n15 : Int := ((List.length s12.2.2.2) : Int)
          let n16 : Int := (w64 (n15 + (1 : Int)))
          Option.bind (f10 n16 s12.2.1 s12.2.2.1) fun (c17 : (Int × ((List Int) × Int))) =>
          ck (slOk c17.1 c17.1 (List.length s12.2.2.2)) <|
          ck (inB s12.1 (List.length s11.2.2)) <|
          let n18 : Int := (List.getD s11.2.2 (Int.toNat ((Int.toNat s12.1) : Int)) (0 : Int))
          let n19 : (List Int) := [n18]
          ck (slOk c17.1 ((List.length s12.2.2.2) : Int) (List.length s12.2.2.2)) <|
          ck (true && (decide ((((List.length n19) + (List.length (List.drop (Int.toNat c17.1) (List.take (Int.toNat ((List.length s12.2.2.2) : Int)) s12.2.2.2)))) * (8 : Nat)) ≤ (140737488355328 : Nat)))) <|
          let n20 : (List Int) := (n19 ++ (List.drop (Int.toNat c17.1) (List.take (Int.toNat ((List.length s12.2.2.2) : Int)) s12.2.2.2)))
          ck ((decide ((0 : Int) = (0 : Int))) && (decide ((((List.length (List.take (Int.toNat c17.1) s12.2.2.2)) + (List.length n20)) * (8 : Nat)) ≤ (140737488355328 : Nat)))) <|
          let n21 : (List Int) := ((List.take (Int.toNat c17.1) s12.2.2.2) ++ n20)
          let n22 : Int := (w64 (s12.1 + (1 : Int)))
          some (.inl (n22, (c17.2.1, (c17.2.2, n21))))
        else
          some (.inr (s12.2.1, (s12.2.2.1, s12.2.2.2)))) ((0 : Int), (s11.1, (s11.2.1, ([] : (List Int)))))) fun (s23 : ((List Int) × (Int × (List Int)))) =>
    Option.bind (
      Option.bind (f11 s11.2.2) fun (c24 : Int) =>
      Option.bind (f11 s23.2.2) fun (c25 : Int) =>
      let n26 : Bool := (!(decide (c24 = c25)))
      bif n26 then
        some true
      else
        Option.bind (f12 s11.2.2) fun (c27 : Int) =>
        ck (true && (decide ((((List.length s23.2.2) + (List.length s11.2.2)) * (8 : Nat)) ≤ (140737488355328 : Nat)))) <|
        let n28 : (List Int) := (s23.2.2 ++ s11.2.2)
        Option.bind (f12 n28) fun (c29 : Int) =>
        let n30 : Bool := (!(decide (c27 = c29)))
        let n31 : Bool := n30
        some n31) fun (s32 : Bool) =>
    bif s32 then
      some false
    else
      let n33 : Int := ((List.length s11.2.2) : Int)
      let n34 : Bool := (decide (n33 = (0 : Int)))
      bif n34 then
        Option.bind (f13 s11.2.2) fun (c35 : Int) =>
        let n36 : Bool := (decide (c35 = (0 : Int)))
        some n36
      else
        let n37 : Int := ((List.length s11.2.2) : Int)
        Option.bind (f10 n37 s23.1 s23.2.1) fun (c38 : (Int × ((List Int) × Int))) =>
        ck (true && (decide ((((List.length ([] : (List Int))) + (List.length s11.2.2)) * (8 : Nat)) ≤ (140737488355328 : Nat)))) <|
        let n39 : (List Int) := (([] : (List Int)) ++ s11.2.2)
        ck (inB c38.1 (List.length n39)) <|
        let n40 : (List Int) := (List.set n39 (Int.toNat ((Int.toNat c38.1) : Int)) p1)
        Option.bind (f13 s11.2.2) fun (c41 : Int) =>
        Option.bind (f13 n40) fun (c42 : Int) =>
        let n43 : Bool := (decide (c41 = c42))
        ck (inB c38.1 (List.length s11.2.2)) <|
        let n44 : Int := (List.getD s11.2.2 (Int.toNat ((Int.toNat c38.1) : Int)) (0 : Int))
        let n45 : Bool := (decide (n44 = p1))
        let n46 : Bool := (n43 == n45)
        some n46
noncomputable def sp4 : TSpec := ⟨sg4, fun x => f4 x.1 x.2⟩
theorem sound4 : TSound Try.prog 4 sp4 :=
  tsound_of (T := TTab.of [(6, sp6), (9, sp9), (10, sp10), (11, sp11), (12, sp12), (13, sp13)]) (ety := ety) [.tmp 4] an4 Try.func4 rfl rfl rfl (show sg4.er.ok = true by decide +kernel) rfl (show sg4.nargs ≤ Try.f4.ntmps by decide +kernel) rfl (TAll.sound ⟨sound6, sound9, sound10, sound11, sound12, sound13, trivial⟩) ttok mixed fun x => by kernel_rfl

/-- warmpath/warmpathlaw02.FingerprintExact -/
noncomputable def f5 (p0 : Int) (p1 : Int) (p2 : (List Int)) (p3 : (List UInt8)) (p4 : (List Int)) : Option Bool :=
  Option.bind (
    Option.bind (f6) fun (c0 : Bool) =>
    let n1 : Bool := (!c0)
    bif n1 then
      some true
    else
      let n2 : Int := ((List.length p2) : Int)
      let n3 : Bool := (decide ((3000 : Int) < n2))
      let n4 : Bool := n3
      bif n4 then
        some true
      else
        let n5 : Int := ((List.length p3) : Int)
        let n6 : Bool := (decide ((3000 : Int) < n5))
        let n7 : Bool := n6
        bif n7 then
          some true
        else
          let n8 : Int := ((List.length p4) : Int)
          let n9 : Bool := (decide ((300 : Int) < n8))
          let n10 : Bool := n9
          some n10) fun (s11 : Bool) =>
  bif s11 then
    Option.bind (
      let n12 : Int := ((List.length p2) : Int)
      let n13 : Bool := (decide ((3000 : Int) < n12))
      bif n13 then
        some true
      else
        let n14 : Int := ((List.length p3) : Int)
        let n15 : Bool := (decide ((3000 : Int) < n14))
        let n16 : Bool := n15
        bif n16 then
          some true
        else
          let n17 : Int := ((List.length p4) : Int)
          let n18 : Bool := (decide ((300 : Int) < n17))
          let n19 : Bool := n18
          some n19) fun (s20 : Bool) =>
    some s20
  else
    Option.bind (
      Option.bind (f7 p0) fun (c21 : Int) =>
      Option.bind (f14 p0) fun (c22 : Int) =>
      let n23 : Bool := (decide (c21 = c22))
      bif n23 then
        Option.bind (f8 p0 p1) fun (c24 : Int) =>
        Option.bind (f15 p0 p1) fun (c25 : Int) =>
        let n26 : Bool := (decide (c24 = c25))
        let n27 : Bool := n26
        bif n27 then
          Option.bind (f16 p2) fun (c28 : Int) =>
          Option.bind (f17 p2) fun (c29 : Int) =>
          let n30 : Bool := (decide (c28 = c29))
          let n31 : Bool := n30
          bif n31 then
            Option.bind (f18 p3) fun (c32 : Int) =>
            Option.bind (f19 p3) fun (c33 : Int) =>
            let n34 : Bool := (decide (c32 = c33))
            let n35 : Bool := n34
            bif n35 then
              Option.bind (f13 p4) fun (c36 : Int) =>
              Option.bind (f20 p4) fun (c37 : Int) =>
              let n38 : Bool := (decide (c36 = c37))
              let n39 : Bool := n38
              bif n39 then
                Option.bind (f11 p4) fun (c40 : Int) =>
                Option.bind (f21 p4) fun (c41 : Int) =>
                let n42 : Bool := (decide (c40 = c41))
                let n43 : Bool := n42
                bif n43 then
                  Option.bind (f12 p4) fun (c44 : Int) =>
                  Option.bind (f22 p4) fun (c45 : Int) =>
                  let n46 : Bool := (decide (c44 = c45))
                  let n47 : Bool := n46
                  some n47
                else
                  some false
              else
                some false
            else
              some false
          else
            some false
        else
          some false
      else
        some false) fun (s48 : Bool) =>
    some s48
noncomputable def sp5 : TSpec := ⟨sg5, fun x => f5 x.1 x.2.1 x.2.2.1 x.2.2.2.1 x.2.2.2.2⟩
end Go.Fg.Ytjkkbncbgpfliaa
