/-
  The law FingerprintExact as a plain function, printed by a program (wip/gen).
-/
import Derived.Test.YtjkkbncbgpfliaaFgB
namespace Go.Fg.Ytjkkbncbgpfliaa
open Go.Fw Go.Proofs Go.Fw.Ytjkkbncbgpfliaa
set_option linter.unusedVariables false
set_option maxRecDepth 100000

noncomputable def f5G (g6 : Option Bool) (g7 : Int → Option Int) (g14 : Int → Option Int) (g8 : Int → Int → Option Int) (g15 : Int → Int → Option Int) (g16 : (List Int) → Option Int) (g17 : (List Int) → Option Int) (g18 : (List UInt8) → Option Int) (g19 : (List UInt8) → Option Int) (g13 : (List Int) → Option Int) (g20 : (List Int) → Option Int) (g11 : (List Int) → Option Int) (g21 : (List Int) → Option Int) (g12 : (List Int) → Option Int) (g22 : (List Int) → Option Int) (p0 : Int) (p1 : Int) (p2 : (List Int)) (p3 : (List UInt8)) (p4 : (List Int)) : Option Bool :=
  Option.bind (
    Option.bind (g6) fun (c0 : Bool) =>
    let n1 : Bool := (!c0)
    bif n1 then
      some true
    else
      let n2 : Int := ((List.length p2) : Int)
      let n3 : Bool := (decide ((3000 : Int) < n2))
      let n4 : Bool := n3
      bif n4 then
        some true
      else
        let n5 : Int := ((List.length p3) : Int)
        let n6 : Bool := (decide ((3000 : Int) < n5))
        let n7 : Bool := n6
        bif n7 then
          some true
        else
          let n8 : Int := ((List.length p4) : Int)
          let n9 : Bool := (decide ((300 : Int) < n8))
          let n10 : Bool := n9
          some n10) fun (s11 : Bool) =>
  bif s11 then
    Option.bind (
      let n12 : Int := ((List.length p2) : Int)
      let n13 : Bool := (decide ((3000 : Int) < n12))
      bif n13 then
        some true
      else
        let n14 : Int := ((List.length p3) : Int)
        let n15 : Bool := (decide ((3000 : Int) < n14))
        let n16 : Bool := n15
        bif n16 then
          some true
        else
          let n17 : Int := ((List.length p4) : Int)
          let n18 : Bool := (decide ((300 : Int) < n17))
          let n19 : Bool := n18
          some n19) fun (s20 : Bool) =>
    some s20
  else
    Option.bind (
      Option.bind (g7 p0) fun (c21 : Int) =>
      Option.bind (g14 p0) fun (c22 : Int) =>
      let n23 : Bool := (decide (c21 = c22))
      bif n23 then
        Option.bind (g8 p0 p1) fun (c24 : Int) =>
        Option.bind (g15 p0 p1) fun (c25 : Int) =>
        let n26 : Bool := (decide (c24 = c25))
        let n27 : Bool := n26
        bif n27 then
          Option.bind (g16 p2) fun (c28 : Int) =>
          Option.bind (g17 p2) fun (c29 : Int) =>
          let n30 : Bool := (decide (c28 = c29))
          let n31 : Bool := n30
          bif n31 then
            Option.bind (g18 p3) fun (c32 : Int) =>
            Option.bind (g19 p3) fun (c33 : Int) =>
            let n34 : Bool := (decide (c32 = c33))
            let n35 : Bool := n34
            bif n35 then
              Option.bind (g13 p4) fun (c36 : Int) =>
              Option.bind (g20 p4) fun (c37 : Int) =>
              let n38 : Bool := (decide (c36 = c37))
              let n39 : Bool := n38
              bif n39 then
                Option.bind (g11 p4) fun (c40 : Int) =>
                Option.bind (g21 p4) fun (c41 : Int) =>
                let n42 : Bool := (decide (c40 = c41))
                let n43 : Bool := n42
                bif n43 then
                  Option.bind (g12 p4) fun (c44 : Int) =>
                  Option.bind (g22 p4) fun (c45 : Int) =>
                  let n46 : Bool := (decide (c44 = c45))
                  let n47 : Bool := n46
                  some n47
                else
                  some false
              else
                some false
            else
              some false
          else
            some false
        else
          some false
      else
        some false) fun (s48 : Bool) =>
    some s48
theorem run5G (g6 : Option Bool) (g7 : Int → Option Int) (g14 : Int → Option Int) (g8 : Int → Int → Option Int) (g15 : Int → Int → Option Int) (g16 : (List Int) → Option Int) (g17 : (List Int) → Option Int) (g18 : (List UInt8) → Option Int) (g19 : (List UInt8) → Option Int) (g13 : (List Int) → Option Int) (g20 : (List Int) → Option Int) (g11 : (List Int) → Option Int) (g21 : (List Int) → Option Int) (g12 : (List Int) → Option Int) (g22 : (List Int) → Option Int) : ∀ x, (tfunL (TTab.of [(6, (⟨sg6, fun x => g6⟩ : TSpec)), (7, (⟨sg7, fun x => g7 x⟩ : TSpec)), (14, (⟨sg14, fun x => g14 x⟩ : TSpec)), (8, (⟨sg8, fun x => g8 x.1 x.2⟩ : TSpec)), (15, (⟨sg15, fun x => g15 x.1 x.2⟩ : TSpec)), (16, (⟨sg16, fun x => g16 x⟩ : TSpec)), (17, (⟨sg17, fun x => g17 x⟩ : TSpec)), (18, (⟨sg18, fun x => g18 x⟩ : TSpec)), (19, (⟨sg19, fun x => g19 x⟩ : TSpec)), (13, (⟨sg13, fun x => g13 x⟩ : TSpec)), (20, (⟨sg20, fun x => g20 x⟩ : TSpec)), (11, (⟨sg11, fun x => g11 x⟩ : TSpec)), (21, (⟨sg21, fun x => g21 x⟩ : TSpec)), (12, (⟨sg12, fun x => g12 x⟩ : TSpec)), (22, (⟨sg22, fun x => g22 x⟩ : TSpec))]) tt ety Try.f5.ntmps sg5 [.tmp 10] (Try.f5.body.getD .skip) an5 x).run = f5G g6 g7 g14 g8 g15 g16 g17 g18 g19 g13 g20 g11 g21 g12 g22 x.1 x.2.1 x.2.2.1 x.2.2.2.1 x.2.2.2.2 := fun x => by kernel_rfl
theorem sound5 : TSound Try.prog 5 sp5 :=
  tsound_of (T := TTab.of [(6, sp6), (7, sp7), (14, sp14), (8, sp8), (15, sp15), (16, sp16), (17, sp17), (18, sp18), (19, sp19), (13, sp13), (20, sp20), (11, sp11), (21, sp21), (12, sp12), (22, sp22)]) (ety := ety) [.tmp 10] an5 Try.func5 rfl rfl rfl (show sg5.er.ok = true by decide +kernel) rfl (show sg5.nargs ≤ Try.f5.ntmps by decide +kernel) rfl (TAll.sound ⟨sound6, sound7, sound14, sound8, sound15, sound16, sound17, sound18, sound19, sound13, sound20, sound11, sound21, sound12, sound22, trivial⟩) ttok mixed (run5G f6 f7 f14 f8 f15 f16 f17 f18 f19 f13 f20 f11 f21 f12 f22)
end Go.Fg.Ytjkkbncbgpfliaa
