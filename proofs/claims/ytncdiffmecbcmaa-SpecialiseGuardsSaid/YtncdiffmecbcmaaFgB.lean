/-
  What the functions of the seat compute, printed by a program (wip/gen).
-/
import Derived.Test.YtncdiffmecbcmaaFgA
import Derived.Test.YtncdiffmecbcmaaZd
namespace Go.Fg.Ytncdiffmecbcmaa
open Go.Fw Go.Proofs Go.Fw.Ytncdiffmecbcmaa
set_option linter.unusedVariables false
set_option maxRecDepth 100000
noncomputable def f7:Option (Int×(Int×(List au))):=
  let n0:(List aC):=[(aC.mk ([]:(List aK)) (3:Int) (0:Int) (0:Int) (0:Int) (0:Int) (0:Int) (0:Int))]
  let n1:(List Int):=[(0:Int)]
  let n2:(List aK):=[(aK.mk (14:Int) (0:Int) (1:Int) (0:Int) (0:Int) (1:Int) ([]:(List Int))),(aK.mk (12:Int) (0:Int) (0:Int) (1:Int) (0:Int) (0:Int) n1)]
  let n3:(List aC):=[(aC.mk n2 (1:Int) (0:Int) (1:Int) (0:Int) (0:Int) (0:Int) (0:Int)),(aC.mk ([]:(List aK)) (1:Int) (0:Int) (2:Int) (0:Int) (0:Int) (0:Int) (0:Int)),(aC.mk ([]:(List aK)) (3:Int) (0:Int) (0:Int) (0:Int) (0:Int) (0:Int) (0:Int))]
  let n4:(List au):=[(au.mk [(109:UInt8),(97:UInt8),(105:UInt8),(110:UInt8)] (0:Int) (2:Int) n3),(au.mk [(102:UInt8)] (1:Int) (1:Int) n0)]
  some ((2:Int),((0:Int),n4))
noncomputable def sp7:bT:=⟨sg7,fun x=>f7⟩
theorem aaU:bg Try.prog 7 sp7:=
  aJ (T:=dw.of []) (ety:=ety) [.cell 0 39] an7 Try.func7 rfl rfl rfl (show sg7.er.ok=true by decide +kernel) rfl (show sg7.aO≤Try.f7.ntmps by decide +kernel) rfl (fC.sound trivial) fV mixed fun x=>by kernel_rfl
noncomputable def f9 (p0:(List aG)) (p1:(List au)) (p2 p3 p4 p5 p6:Int):Option (Int×(Int×(Int×(Int×(Int×(Int×((List Int)×Bool))))))):=
  Option.bind (
    let n0:Bool:=(decide (p4<(0:Int)))
    bif n0 then
      some true
    else
      let n1:Int:=((List.length p1):Int)
      let n2:Bool:=(decide (n1≤p4))
      let n3:Bool:=n2
      bif n3 then
        some true
      else
        let n4:Bool:=(decide (p5<(0:Int)))
        let n5:Bool:=n4
        bif n5 then
          some true
        else
          ck (inB p4 (List.length p1)) <|
          let n6:au:=(List.getD p1 (Int.toNat p4) (au.mk ([]:(List UInt8)) (0:Int) (0:Int) ([]:(List aC))))
          let n7:Int:=((List.length n6.blocks):Int)
          let n8:Bool:=(decide (n7≤p5))
          let n9:Bool:=n8
          some n9) fun (s10:Bool)=>
  bif s10 then
    some ((0:Int),((0:Int),((0:Int),((0:Int),((0:Int),((0:Int),(([]:(List Int)),false)))))))
  else
    ck (inB p4 (List.length p1)) <|
    let n11:au:=(List.getD p1 (Int.toNat p4) (au.mk ([]:(List UInt8)) (0:Int) (0:Int) ([]:(List aC))))
    ck (inB p5 (List.length n11.blocks)) <|
    let n12:aC:=(List.getD n11.blocks (Int.toNat p5) (aC.mk ([]:(List aK)) (0:Int) (0:Int) (0:Int) (0:Int) (0:Int) (0:Int) (0:Int)))
    Option.bind (
      let n13:Bool:=(decide (p6<(0:Int)))
      bif n13 then
        some true
      else
        let n14:Int:=((List.length n12.instrs):Int)
        let n15:Bool:=(decide (n14≤p6))
        let n16:Bool:=n15
        bif n16 then
          some true
        else
          ck (inB p6 (List.length n12.instrs)) <|
          let n17:aK:=(List.getD n12.instrs (Int.toNat p6) (aK.mk (0:Int) (0:Int) (0:Int) (0:Int) (0:Int) (0:Int) ([]:(List Int))))
          let n18:Bool:=(!(decide (n17.kind=(12:Int))))
          let n19:Bool:=n18
          some n19) fun (s20:Bool)=>
    bif s20 then
      some ((0:Int),((0:Int),((0:Int),((0:Int),((0:Int),((0:Int),(([]:(List Int)),false)))))))
    else
      ck (inB p6 (List.length n12.instrs)) <|
      let n21:aK:=(List.getD n12.instrs (Int.toNat p6) (aK.mk (0:Int) (0:Int) (0:Int) (0:Int) (0:Int) (0:Int) ([]:(List Int))))
      some (n21.kind,(n21.op,(n21.dst,(n21.a,(n21.b,(n21.value,(n21.args,true)))))))
noncomputable def sp9:bT:=⟨sg9,fun x=>f9 x.1 x.2.1 x.2.2.1 x.2.2.2.1 x.2.2.2.2.1 x.2.2.2.2.2.1 x.2.2.2.2.2.2⟩
theorem Wi:bg Try.prog 9 sp9:=
  aJ (T:=dw.of []) (ety:=ety) [.cell 4 25,.tmp 5] an9 Try.func9 rfl rfl rfl (show sg9.er.ok=true by decide +kernel) rfl (show sg9.aO≤Try.f9.ntmps by decide +kernel) rfl (fC.sound trivial) fV mixed fun x=>by kernel_rfl
noncomputable def f11 (p0:(List aG)) (p1:(List au)) (p2 p3 p4 p5 p6:Int):Option (List Int):=
  Option.bind (f9 p0 p1 p2 p3 p4 p5 p6) fun (c0:(Int×(Int×(Int×(Int×(Int×(Int×((List Int)×Bool))))))))=>
  let n1:Bool:=(!c0.2.2.2.2.2.2.2)
  bif n1 then
    some ([]:(List Int))
  else
    let n2:Int:=((List.length p1):Int)
    Option.bind (
      jV (fun (s3:(Int×(List Int)))=>
        let n4:Bool:=(decide (s3.1<n2))
        bif n4 then
          ck (inB s3.1 (List.length p1)) <|
          let n5:au:=(List.getD p1 (Int.toNat s3.1) (au.mk ([]:(List UInt8)) (0:Int) (0:Int) ([]:(List aC))))
          Option.bind (
            let n6:Bool:=(decide (s3.1<p2))
            bif n6 then
              let n7:Int:=((List.length c0.2.2.2.2.2.2.1):Int)
              let n8:Bool:=(decide (n5.params=n7))
              let n9:Bool:=n8
              some n9
            else
              some false) fun (s10:Bool)=>
          Option.bind (
            bif s10 then
              let n11:(List Int):=[s3.1]
              ck (true&&(decide ((((List.length s3.2)+(List.length n11))*(8:Nat))≤(140737488355328:Nat)))) <|
              let n12:(List Int):=(s3.2++n11)
              some n12
            else
              some s3.2) fun (s13:(List Int))=>
          let n14:Int:=(jW (s3.1+(1:Int)))
          some (.inl (n14,s13))
        else
          some (.inr s3.2)) ((0:Int),([]:(List Int)))) fun (s15:(List Int))=>
    some s15
noncomputable def ab7:bT:=⟨aak,fun x=>f11 x.1 x.2.1 x.2.2.1 x.2.2.2.1 x.2.2.2.2.1 x.2.2.2.2.2.1 x.2.2.2.2.2.2⟩
theorem XR:bg Try.prog 11 ab7:=
  aJ (T:=dw.of [(9,sp9)]) (ety:=ety) [.tmp 4] adR Try.func11 rfl rfl rfl (show aak.er.ok=true by decide +kernel) rfl (show aak.aO≤Try.f11.ntmps by decide +kernel) rfl (fC.sound ⟨Wi,trivial⟩) fV mixed fun x=>by kernel_rfl
theorem zH {α:Type} {p0:List α} {c:Bool} {y:List α} (h:ck c (some p0)=some y):(bif p0.isEmpty then both (some ([]:List α)) (ck c (some ([]++p0))) else ck c (some ([]++p0)))=some y:=by
  cases p0 with
  |nil=>
    cases c with
    |false=>cases h
    |true=>
      cases h
      show both (some []) (some [])=some []
      unfold both
      rw [if_pos rfl]
  |cons x l=>exact h
noncomputable def ab8 (p0:(List aK)):Option (List aK):=
  bif (List.isEmpty p0) then
    both (
      some ([]:(List aK))) (
      ck (true&&(decide ((((List.length ([]:(List aK)))+(List.length p0))*(72:Nat))≤(140737488355328:Nat)))) <|
      let n0:(List aK):=(([]:(List aK))++p0)
      some n0)
  else
    ck (true&&(decide ((((List.length ([]:(List aK)))+(List.length p0))*(72:Nat))≤(140737488355328:Nat)))) <|
    let n1:(List aK):=(([]:(List aK))++p0)
    some n1
noncomputable def ab9:bT:=⟨V8,fun x=>ab8 x⟩
theorem Wj:bg Try.prog 12 ab9:=
  qI (T:=dw.of []) (ety:=ety) [.tmp 2] adS Try.func12 rfl rfl rfl (show V8.er.ok=true by decide +kernel) rfl (show V8.aO≤Try.f12.ntmps by decide +kernel) rfl (fC.sound trivial) fV mixed fun x=>by kernel_rfl
noncomputable def f12 (p0:(List aK)):Option (List aK):=ck (true&&(decide ((((List.length ([]:(List aK)))+(List.length p0))*(72:Nat))≤(140737488355328:Nat)))) (some p0)
noncomputable def ab_:bT:=⟨V8,fun x=>f12 x⟩
theorem XT:bg Try.prog 12 ab_:=bg.le (sg:=V8) (F:=fun x=>f12 x) (F':=fun x=>ab8 x) Wj fun x y h=>zH h
noncomputable def acd (p0:(List aC)):Option (List aC):=
  bif (List.isEmpty p0) then
    both (
      some ([]:(List aC))) (
      ck (true&&(decide ((((List.length ([]:(List aC)))+(List.length p0))*(80:Nat))≤(140737488355328:Nat)))) <|
      let n0:(List aC):=(([]:(List aC))++p0)
      some n0)
  else
    ck (true&&(decide ((((List.length ([]:(List aC)))+(List.length p0))*(80:Nat))≤(140737488355328:Nat)))) <|
    let n1:(List aC):=(([]:(List aC))++p0)
    some n1
noncomputable def ace:bT:=⟨V9,fun x=>acd x⟩
theorem Wn:bg Try.prog 13 ace:=
  qI (T:=dw.of []) (ety:=ety) [.tmp 2] adT Try.func13 rfl rfl rfl (show V9.er.ok=true by decide +kernel) rfl (show V9.aO≤Try.f13.ntmps by decide +kernel) rfl (fC.sound trivial) fV mixed fun x=>by kernel_rfl
noncomputable def f13 (p0:(List aC)):Option (List aC):=ck (true&&(decide ((((List.length ([]:(List aC)))+(List.length p0))*(80:Nat))≤(140737488355328:Nat)))) (some p0)
noncomputable def acf:bT:=⟨V9,fun x=>f13 x⟩
theorem XU:bg Try.prog 13 acf:=bg.le (sg:=V9) (F:=fun x=>f13 x) (F':=fun x=>acd x) Wn fun x y h=>zH h
noncomputable def acg (p0:(List Int)):Option (List Int):=
  bif (List.isEmpty p0) then
    both (
      some ([]:(List Int))) (
      ck (true&&(decide ((((List.length ([]:(List Int)))+(List.length p0))*(8:Nat))≤(140737488355328:Nat)))) <|
      let n0:(List Int):=(([]:(List Int))++p0)
      some n0)
  else
    ck (true&&(decide ((((List.length ([]:(List Int)))+(List.length p0))*(8:Nat))≤(140737488355328:Nat)))) <|
    let n1:(List Int):=(([]:(List Int))++p0)
    some n1
noncomputable def ach:bT:=⟨V_,fun x=>acg x⟩
theorem Wp:bg Try.prog 14 ach:=
  qI (T:=dw.of []) (ety:=ety) [.tmp 2] adU Try.func14 rfl rfl rfl (show V_.er.ok=true by decide +kernel) rfl (show V_.aO≤Try.f14.ntmps by decide +kernel) rfl (fC.sound trivial) fV mixed fun x=>by kernel_rfl
noncomputable def f14 (p0:(List Int)):Option (List Int):=ck (true&&(decide ((((List.length ([]:(List Int)))+(List.length p0))*(8:Nat))≤(140737488355328:Nat)))) (some p0)
noncomputable def aaV:bT:=⟨V_,fun x=>f14 x⟩
theorem QC:bg Try.prog 14 aaV:=bg.le (sg:=V_) (F:=fun x=>f14 x) (F':=fun x=>acg x) Wp fun x y h=>zH h
noncomputable def f15 (p0:(List UInt8)) (p1 p2:Int) (p3:(List aC)):Option Int:=
  let n0:Int:=((List.length p3):Int)
  Option.bind (
    jV (fun (s1:(Int×Int))=>
      let n2:Bool:=(decide (s1.2<n0))
      bif n2 then
        ck (inB s1.2 (List.length p3)) <|
        let n3:aC:=(List.getD p3 (Int.toNat s1.2) (aC.mk ([]:(List aK)) (0:Int) (0:Int) (0:Int) (0:Int) (0:Int) (0:Int) (0:Int)))
        let n4:Int:=((List.length n3.instrs):Int)
        let n5:Int:=(jW (n4+(1:Int)))
        let n6:Int:=(jW (s1.1+n5))
        let n7:Int:=(jW (s1.2+(1:Int)))
        some (.inl (n6,n7))
      else
        some (.inr s1.1)) ((0:Int),(0:Int))) fun (s8:Int)=>
  some s8
noncomputable def aaW:bT:=⟨aal,fun x=>f15 x.1 x.2.1 x.2.2.1 x.2.2.2⟩
theorem QD:bg Try.prog 15 aaW:=
  aJ (T:=dw.of []) (ety:=ety) [.tmp 2] adV Try.func15 rfl rfl rfl (show aal.er.ok=true by decide +kernel) rfl (show aal.aO≤Try.f15.ntmps by decide +kernel) rfl (fC.sound trivial) fV mixed fun x=>by kernel_rfl
noncomputable def aci (p0:(List au)):Option (List au):=
  bif (List.isEmpty p0) then
    both (
      some ([]:(List au))) (
      ck (true&&(decide ((((List.length ([]:(List au)))+(List.length p0))*(56:Nat))≤(140737488355328:Nat)))) <|
      let n0:(List au):=(([]:(List au))++p0)
      some n0)
  else
    ck (true&&(decide ((((List.length ([]:(List au)))+(List.length p0))*(56:Nat))≤(140737488355328:Nat)))) <|
    let n1:(List au):=(([]:(List au))++p0)
    some n1
noncomputable def acj:bT:=⟨Wh,fun x=>aci x⟩
theorem Wq:bg Try.prog 16 acj:=
  qI (T:=dw.of []) (ety:=ety) [.tmp 2] adW Try.func16 rfl rfl rfl (show Wh.er.ok=true by decide +kernel) rfl (show Wh.aO≤Try.f16.ntmps by decide +kernel) rfl (fC.sound trivial) fV mixed fun x=>by kernel_rfl
noncomputable def f16 (p0:(List au)):Option (List au):=ck (true&&(decide ((((List.length ([]:(List au)))+(List.length p0))*(56:Nat))≤(140737488355328:Nat)))) (some p0)
noncomputable def acn:bT:=⟨Wh,fun x=>f16 x⟩
theorem XV:bg Try.prog 16 acn:=bg.le (sg:=Wh) (F:=fun x=>f16 x) (F':=fun x=>aci x) Wq fun x y h=>zH h
noncomputable def f17 (p0 p1:Int):Option (Int×Int):=
  let n0:Int:=(UL p0 (1099511627776:Int))
  let n1:Int:=(RS (0:Int) n0)
  let n2:Int:=(UL p1 (400:Int))
  let n3:Int:=(RS (0:Int) n2)
  some (n1,n3)
noncomputable def aco:bT:=⟨aam,fun x=>f17 x.1 x.2⟩
theorem XW:bg Try.prog 17 aco:=
  aJ (T:=dw.of []) (ety:=ety) [.cell 2 55] adX Try.func17 rfl rfl rfl (show aam.er.ok=true by decide +kernel) rfl (show aam.aO≤Try.f17.ntmps by decide +kernel) rfl (fC.sound trivial) fV mixed fun x=>by kernel_rfl
noncomputable def f18 (p0:(List aG)) (p1:(List au)) (p2 p3:Int):Option (List aj):=
  Option.bind (
    jV (fun (s0:(Int×(List aj)))=>
      let n1:Int:=((List.length p1):Int)
      let n2:Bool:=(decide (s0.1<n1))
      bif n2 then
        ck (inB s0.1 (List.length p1)) <|
        let n3:au:=(List.getD p1 (Int.toNat s0.1) (au.mk ([]:(List UInt8)) (0:Int) (0:Int) ([]:(List aC))))
        let n4:Int:=((List.length n3.blocks):Int)
        ck (En (8:Nat) n4 n4) <|
        let n5:(List Int):=(List.replicate (Int.toNat n4) (0:Int))
        ck (En (16:Nat) n4 n4) <|
        let n6:(List (Int×Int)):=(List.replicate (Int.toNat n4) ((0:Int),(0:Int)))
        let n7:(List aj):=[(aj.mk (0:Int) n5 n6 ([]:(List bH)))]
        ck (true&&(decide ((((List.length s0.2)+(List.length n7))*(80:Nat))≤(140737488355328:Nat)))) <|
        let n8:(List aj):=(s0.2++n7)
        let n9:Int:=(jW (s0.1+(1:Int)))
        some (.inl (n9,n8))
      else
        some (.inr s0.2)) ((0:Int),([]:(List aj)))) fun (s10:(List aj))=>
  some s10
noncomputable def acp:bT:=⟨aan,fun x=>f18 x.1 x.2.1 x.2.2.1 x.2.2.2⟩
theorem XY:bg Try.prog 18 acp:=
  aJ (T:=dw.of []) (ety:=YU) [.cell 2 49] adY Try.func18 rfl rfl rfl (show aan.er.ok=true by decide +kernel) rfl (show aan.aO≤Try.f18.ntmps by decide +kernel) rfl (fC.sound trivial) fV mixed fun x=>by kernel_rfl
noncomputable def f19 (p0:Int) (p1:(List Int)) (p2:Int) (p3:(List aG)) (p4:(List au)) (p5 p6:Int) (p7:(List Int)) (p8 p9 p10 p11 p12 p13:Int) (qJ:(List ah)) (kW:(List (List Int))) (p16:(List Int)) (su:(List aj)) (bG:(List Int)):Option (Bool×((List aG)×((List au)×(Int×(Int×((List Int)×(Int×(Int×(Int×(Int×(Int×(Int×((List (List Int))×((List Int)×((List aj)×((List Int)×(List ah))))))))))))))))):=
  Option.bind (
    ck (inB p0 (List.length p4)) <|
    let n0:au:=(List.getD p4 (Int.toNat p0) (au.mk ([]:(List UInt8)) (0:Int) (0:Int) ([]:(List aC))))
    Option.bind (
      let n1:Int:=((List.length qJ):Int)
      let n2:Bool:=(decide (p9≤n1))
      bif n2 then
        some true
      else
        let n3:Int:=(jW (p10+n0.regs))
        let n4:Bool:=(decide (p8<n3))
        let n5:Bool:=n4
        some n5) fun (s6:Bool)=>
    bif s6 then
      some (false,(p3,(p4,(p5,(p6,(p7,(p8,(p9,(p10,((3:Int),(p12,(p13,(kW,(p16,(su,(bG,qJ))))))))))))))))
    else
      let n7:Int:=(jW (p10+n0.regs))
      ck (En (8:Nat) n0.regs n0.regs) <|
      let n8:(List Int):=(List.replicate (Int.toNat n0.regs) (0:Int))
      Option.bind (
        jV (fun (s9:(Int×(List Int)))=>
          let n10:Int:=((List.length p1):Int)
          let n11:Bool:=(decide (s9.1<n10))
          bif n11 then
            ck (inB s9.1 (List.length p1)) <|
            let n12:Int:=(List.getD p1 (Int.toNat s9.1) (0:Int))
            ck (inB s9.1 (List.length s9.2)) <|
            let n13:(List Int):=(List.set s9.2 (Int.toNat ((Int.toNat s9.1):Int)) n12)
            let n14:Int:=(jW (s9.1+(1:Int)))
            some (.inl (n14,n13))
          else
            some (.inr s9.2)) ((0:Int),n8)) fun (s15:(List Int))=>
      let n16:(List ah):=[(ah.mk p0 (0:Int) (0:Int) s15 p2)]
      ck (true&&(decide ((((List.length qJ)+(List.length n16))*(56:Nat))≤(140737488355328:Nat)))) <|
      let n17:(List ah):=(qJ++n16)
      ck (inB p0 (List.length su)) <|
      let n18:aj:=(List.getD su (Int.toNat ((Int.toNat p0):Int)) (aj.mk (0:Int) ([]:(List Int)) ([]:(List (Int×Int))) ([]:(List bH))))
      let n19:Int:=(jW (n18.entries+(1:Int)))
      ck (inB p0 (List.length su)) <|
      let n20:(List aj):=(List.set su (Int.toNat ((Int.toNat p0):Int)) (aj.mk n19 (List.getD su (Int.toNat ((Int.toNat p0):Int)) (aj.mk (0:Int) ([]:(List Int)) ([]:(List (Int×Int))) ([]:(List bH)))).blocks (List.getD su (Int.toNat ((Int.toNat p0):Int)) (aj.mk (0:Int) ([]:(List Int)) ([]:(List (Int×Int))) ([]:(List bH)))).edges (List.getD su (Int.toNat ((Int.toNat p0):Int)) (aj.mk (0:Int) ([]:(List Int)) ([]:(List (Int×Int))) ([]:(List bH)))).sites))
      ck (inB p0 (List.length n20)) <|
      ck (inB (0:Int) (List.length (List.getD n20 (Int.toNat ((Int.toNat p0):Int)) (aj.mk (0:Int) ([]:(List Int)) ([]:(List (Int×Int))) ([]:(List bH)))).blocks)) <|
      let n21:Int:=(List.getD (List.getD n20 (Int.toNat ((Int.toNat p0):Int)) (aj.mk (0:Int) ([]:(List Int)) ([]:(List (Int×Int))) ([]:(List bH)))).blocks (Int.toNat ((Int.toNat (0:Int)):Int)) (0:Int))
      let n22:Int:=(jW (n21+(1:Int)))
      ck (inB (0:Int) (List.length (List.getD n20 (Int.toNat ((Int.toNat p0):Int)) (aj.mk (0:Int) ([]:(List Int)) ([]:(List (Int×Int))) ([]:(List bH)))).blocks)) <|
      let n23:(List Int):=(List.set (List.getD n20 (Int.toNat ((Int.toNat p0):Int)) (aj.mk (0:Int) ([]:(List Int)) ([]:(List (Int×Int))) ([]:(List bH)))).blocks (Int.toNat ((Int.toNat (0:Int)):Int)) n22)
      some (true,(p3,(p4,(p5,(p6,(p7,(p8,(p9,(n7,(p11,(p12,(p13,(kW,(p16,((List.set n20 (Int.toNat ((Int.toNat p0):Int)) (aj.mk (List.getD n20 (Int.toNat ((Int.toNat p0):Int)) (aj.mk (0:Int) ([]:(List Int)) ([]:(List (Int×Int))) ([]:(List bH)))).entries n23 (List.getD n20 (Int.toNat ((Int.toNat p0):Int)) (aj.mk (0:Int) ([]:(List Int)) ([]:(List (Int×Int))) ([]:(List bH)))).edges (List.getD n20 (Int.toNat ((Int.toNat p0):Int)) (aj.mk (0:Int) ([]:(List Int)) ([]:(List (Int×Int))) ([]:(List bH)))).sites)),(bG,n17))))))))))))))))) fun (s24:(Bool×((List aG)×((List au)×(Int×(Int×((List Int)×(Int×(Int×(Int×(Int×(Int×(Int×((List (List Int))×((List Int)×((List aj)×((List Int)×(List ah))))))))))))))))))=>
  ck (decide ((List.length kW)=(List.length s24.2.2.2.2.2.2.2.2.2.2.2.2.1))) <|
  ck (decide ((List.length p16)=(List.length s24.2.2.2.2.2.2.2.2.2.2.2.2.2.1))) <|
  ck (decide ((List.length su)=(List.length s24.2.2.2.2.2.2.2.2.2.2.2.2.2.2.1))) <|
  ck (decide ((List.length bG)=(List.length s24.2.2.2.2.2.2.2.2.2.2.2.2.2.2.2.1))) <|
  some s24
noncomputable def aaX:bT:=⟨aao,fun x=>f19 x.1 x.2.1 x.2.2.1 x.2.2.2.1 x.2.2.2.2.1 x.2.2.2.2.2.1 x.2.2.2.2.2.2.1 x.2.2.2.2.2.2.2.1 x.2.2.2.2.2.2.2.2.1 x.2.2.2.2.2.2.2.2.2.1 x.2.2.2.2.2.2.2.2.2.2.1 x.2.2.2.2.2.2.2.2.2.2.2.1 x.2.2.2.2.2.2.2.2.2.2.2.2.1 x.2.2.2.2.2.2.2.2.2.2.2.2.2.1 x.2.2.2.2.2.2.2.2.2.2.2.2.2.2.1 x.2.2.2.2.2.2.2.2.2.2.2.2.2.2.2.1 x.2.2.2.2.2.2.2.2.2.2.2.2.2.2.2.2.1 x.2.2.2.2.2.2.2.2.2.2.2.2.2.2.2.2.2.1 x.2.2.2.2.2.2.2.2.2.2.2.2.2.2.2.2.2.2⟩
theorem QE:bg Try.prog 19 aaX:=
  aJ (T:=dw.of []) (ety:=YV) [.tmp 8] adZ Try.func19 rfl rfl rfl (show aao.er.ok=true by decide +kernel) rfl (show aao.aO≤Try.f19.ntmps by decide +kernel) rfl (fC.sound trivial) fV mixed fun x=>by kernel_rfl
noncomputable def f21 (p0 p1 p2 p3:Int) (p4:(List aG)) (p5:(List au)) (p6 p7:Int) (p8:(List Int)) (p9 p10 p11 p12 p13 qJ:Int) (kW:(List ah)) (p16:(List (List Int))) (su:(List Int)) (bG:(List aj)) (kZ:(List Int)):Option ((List aG)×((List au)×(Int×(Int×((List Int)×(Int×(Int×(Int×(Int×(Int×(Int×((List (List Int))×((List Int)×((List aj)×((List Int)×(List ah)))))))))))))))):=
  Option.bind (
    let n0:Int:=((List.length kW):Int)
    let n1:Int:=(jW (n0-(1:Int)))
    ck (inB n1 (List.length kW)) <|
    let n2:ah:=(List.getD kW (Int.toNat ((Int.toNat n1):Int)) (ah.mk (0:Int) (0:Int) (0:Int) ([]:(List Int)) (0:Int)))
    ck (inB n2.fn (List.length bG)) <|
    let n3:Bool:=(decide (p0=(3:Int)))
    bif n3 then
      ck (inB p1 (List.length (List.getD kW (Int.toNat ((Int.toNat n1):Int)) (ah.mk (0:Int) (0:Int) (0:Int) ([]:(List Int)) (0:Int))).regs)) <|
      let n4:Int:=(List.getD (List.getD kW (Int.toNat ((Int.toNat n1):Int)) (ah.mk (0:Int) (0:Int) (0:Int) ([]:(List Int)) (0:Int))).regs (Int.toNat ((Int.toNat p1):Int)) (0:Int))
      let n5:ah:=(List.getD kW (Int.toNat ((Int.toNat n1):Int)) (ah.mk (0:Int) (0:Int) (0:Int) ([]:(List Int)) (0:Int)))
      let n6:Int:=((List.length kW):Int)
      let n7:Int:=(jW (n6-(1:Int)))
      ck ((decide ((0:Int)≤n7))&&(decide (n7≤((List.length (List.set kW (Int.toNat ((Int.toNat n1):Int)) (ah.mk (List.getD kW (Int.toNat ((Int.toNat n1):Int)) (ah.mk (0:Int) (0:Int) (0:Int) ([]:(List Int)) (0:Int))).fn (List.getD kW (Int.toNat ((Int.toNat n1):Int)) (ah.mk (0:Int) (0:Int) (0:Int) ([]:(List Int)) (0:Int))).block (List.getD kW (Int.toNat ((Int.toNat n1):Int)) (ah.mk (0:Int) (0:Int) (0:Int) ([]:(List Int)) (0:Int))).at' (List.getD kW (Int.toNat ((Int.toNat n1):Int)) (ah.mk (0:Int) (0:Int) (0:Int) ([]:(List Int)) (0:Int))).regs (List.getD kW (Int.toNat ((Int.toNat n1):Int)) (ah.mk (0:Int) (0:Int) (0:Int) ([]:(List Int)) (0:Int))).dst))):Int)))) <|
      let n8:(List ah):=(List.take (Int.toNat n7) (List.set kW (Int.toNat ((Int.toNat n1):Int)) (ah.mk (List.getD kW (Int.toNat ((Int.toNat n1):Int)) (ah.mk (0:Int) (0:Int) (0:Int) ([]:(List Int)) (0:Int))).fn (List.getD kW (Int.toNat ((Int.toNat n1):Int)) (ah.mk (0:Int) (0:Int) (0:Int) ([]:(List Int)) (0:Int))).block (List.getD kW (Int.toNat ((Int.toNat n1):Int)) (ah.mk (0:Int) (0:Int) (0:Int) ([]:(List Int)) (0:Int))).at' (List.getD kW (Int.toNat ((Int.toNat n1):Int)) (ah.mk (0:Int) (0:Int) (0:Int) ([]:(List Int)) (0:Int))).regs (List.getD kW (Int.toNat ((Int.toNat n1):Int)) (ah.mk (0:Int) (0:Int) (0:Int) ([]:(List Int)) (0:Int))).dst)))
      let n9:Int:=((List.length n8):Int)
      let n10:Bool:=(decide (n9=(0:Int)))
      bif n10 then
        some (p4,(p5,(p6,(p7,(p8,(p9,(p10,(p11,((1:Int),(p13,(n4,(p16,(su,(bG,(kZ,n8)))))))))))))))
      else
        let n11:Int:=((List.length n8):Int)
        let n12:Int:=(jW (n11-(1:Int)))
        ck (inB n12 (List.length n8)) <|
        ck (inB n5.dst (List.length (List.getD n8 (Int.toNat ((Int.toNat n12):Int)) (ah.mk (0:Int) (0:Int) (0:Int) ([]:(List Int)) (0:Int))).regs)) <|
        let n13:(List Int):=(List.set (List.getD n8 (Int.toNat ((Int.toNat n12):Int)) (ah.mk (0:Int) (0:Int) (0:Int) ([]:(List Int)) (0:Int))).regs (Int.toNat ((Int.toNat n5.dst):Int)) n4)
        some (p4,(p5,(p6,(p7,(p8,(p9,(p10,(p11,(p12,(p13,(qJ,(p16,(su,(bG,(kZ,(List.set n8 (Int.toNat ((Int.toNat n12):Int)) (ah.mk (List.getD n8 (Int.toNat ((Int.toNat n12):Int)) (ah.mk (0:Int) (0:Int) (0:Int) ([]:(List Int)) (0:Int))).fn (List.getD n8 (Int.toNat ((Int.toNat n12):Int)) (ah.mk (0:Int) (0:Int) (0:Int) ([]:(List Int)) (0:Int))).block (List.getD n8 (Int.toNat ((Int.toNat n12):Int)) (ah.mk (0:Int) (0:Int) (0:Int) ([]:(List Int)) (0:Int))).at' n13 (List.getD n8 (Int.toNat ((Int.toNat n12):Int)) (ah.mk (0:Int) (0:Int) (0:Int) ([]:(List Int)) (0:Int))).dst)))))))))))))))))
    else
      Option.bind (
        let n14:Bool:=(decide (p0=(2:Int)))
        bif n14 then
          ck (inB p1 (List.length (List.getD kW (Int.toNat ((Int.toNat n1):Int)) (ah.mk (0:Int) (0:Int) (0:Int) ([]:(List Int)) (0:Int))).regs)) <|
          let n15:Int:=(List.getD (List.getD kW (Int.toNat ((Int.toNat n1):Int)) (ah.mk (0:Int) (0:Int) (0:Int) ([]:(List Int)) (0:Int))).regs (Int.toNat ((Int.toNat p1):Int)) (0:Int))
          let n16:Bool:=(decide (n15=(0:Int)))
          let n17:Bool:=n16
          some (n17,(List.set kW (Int.toNat ((Int.toNat n1):Int)) (ah.mk (List.getD kW (Int.toNat ((Int.toNat n1):Int)) (ah.mk (0:Int) (0:Int) (0:Int) ([]:(List Int)) (0:Int))).fn (List.getD kW (Int.toNat ((Int.toNat n1):Int)) (ah.mk (0:Int) (0:Int) (0:Int) ([]:(List Int)) (0:Int))).block (List.getD kW (Int.toNat ((Int.toNat n1):Int)) (ah.mk (0:Int) (0:Int) (0:Int) ([]:(List Int)) (0:Int))).at' (List.getD kW (Int.toNat ((Int.toNat n1):Int)) (ah.mk (0:Int) (0:Int) (0:Int) ([]:(List Int)) (0:Int))).regs (List.getD kW (Int.toNat ((Int.toNat n1):Int)) (ah.mk (0:Int) (0:Int) (0:Int) ([]:(List Int)) (0:Int))).dst)))
        else
          some (false,kW)) fun (XZ:(Bool×(List ah)))=>
      Option.bind (
        bif XZ.1 then
          some ((1:Int),p3)
        else
          some ((0:Int),p2)) fun (X0:(Int×Int))=>
      Option.bind (
        let n20:ah:=(List.getD XZ.2 (Int.toNat ((Int.toNat n1):Int)) (ah.mk (0:Int) (0:Int) (0:Int) ([]:(List Int)) (0:Int)))
        ck (inB n20.block (List.length (List.getD bG (Int.toNat ((Int.toNat n2.fn):Int)) (aj.mk (0:Int) ([]:(List Int)) ([]:(List (Int×Int))) ([]:(List bH)))).edges)) <|
        bif (Wy X0.1 (0:Int)) then
          let n21:(Int×Int):=(List.getD (List.getD bG (Int.toNat ((Int.toNat n2.fn):Int)) (aj.mk (0:Int) ([]:(List Int)) ([]:(List (Int×Int))) ([]:(List bH)))).edges (Int.toNat ((Int.toNat n20.block):Int)) ((0:Int),(0:Int)))
          let n22:Int:=(jW (n21.1+(1:Int)))
          ck (inB n20.block (List.length (List.getD bG (Int.toNat ((Int.toNat n2.fn):Int)) (aj.mk (0:Int) ([]:(List Int)) ([]:(List (Int×Int))) ([]:(List bH)))).edges)) <|
          let n23:(List (Int×Int)):=(List.set (List.getD bG (Int.toNat ((Int.toNat n2.fn):Int)) (aj.mk (0:Int) ([]:(List Int)) ([]:(List (Int×Int))) ([]:(List bH)))).edges (Int.toNat ((Int.toNat n20.block):Int)) (n22,(List.getD (List.getD bG (Int.toNat ((Int.toNat n2.fn):Int)) (aj.mk (0:Int) ([]:(List Int)) ([]:(List (Int×Int))) ([]:(List bH)))).edges (Int.toNat ((Int.toNat n20.block):Int)) ((0:Int),(0:Int))).2))
          some (List.set bG (Int.toNat ((Int.toNat n2.fn):Int)) (aj.mk (List.getD bG (Int.toNat ((Int.toNat n2.fn):Int)) (aj.mk (0:Int) ([]:(List Int)) ([]:(List (Int×Int))) ([]:(List bH)))).entries (List.getD bG (Int.toNat ((Int.toNat n2.fn):Int)) (aj.mk (0:Int) ([]:(List Int)) ([]:(List (Int×Int))) ([]:(List bH)))).blocks n23 (List.getD bG (Int.toNat ((Int.toNat n2.fn):Int)) (aj.mk (0:Int) ([]:(List Int)) ([]:(List (Int×Int))) ([]:(List bH)))).sites))
        else
          ck (Wy X0.1 (1:Int)) <|
          let n24:(Int×Int):=(List.getD (List.getD bG (Int.toNat ((Int.toNat n2.fn):Int)) (aj.mk (0:Int) ([]:(List Int)) ([]:(List (Int×Int))) ([]:(List bH)))).edges (Int.toNat ((Int.toNat n20.block):Int)) ((0:Int),(0:Int)))
          let n25:Int:=(jW (n24.2+(1:Int)))
          ck (inB n20.block (List.length (List.getD bG (Int.toNat ((Int.toNat n2.fn):Int)) (aj.mk (0:Int) ([]:(List Int)) ([]:(List (Int×Int))) ([]:(List bH)))).edges)) <|
          let n26:(List (Int×Int)):=(List.set (List.getD bG (Int.toNat ((Int.toNat n2.fn):Int)) (aj.mk (0:Int) ([]:(List Int)) ([]:(List (Int×Int))) ([]:(List bH)))).edges (Int.toNat ((Int.toNat n20.block):Int)) ((List.getD (List.getD bG (Int.toNat ((Int.toNat n2.fn):Int)) (aj.mk (0:Int) ([]:(List Int)) ([]:(List (Int×Int))) ([]:(List bH)))).edges (Int.toNat ((Int.toNat n20.block):Int)) ((0:Int),(0:Int))).1,n25))
          some (List.set bG (Int.toNat ((Int.toNat n2.fn):Int)) (aj.mk (List.getD bG (Int.toNat ((Int.toNat n2.fn):Int)) (aj.mk (0:Int) ([]:(List Int)) ([]:(List (Int×Int))) ([]:(List bH)))).entries (List.getD bG (Int.toNat ((Int.toNat n2.fn):Int)) (aj.mk (0:Int) ([]:(List Int)) ([]:(List (Int×Int))) ([]:(List bH)))).blocks n26 (List.getD bG (Int.toNat ((Int.toNat n2.fn):Int)) (aj.mk (0:Int) ([]:(List Int)) ([]:(List (Int×Int))) ([]:(List bH)))).sites))) fun (Y1:(List aj))=>
      ck (inB X0.2 (List.length (List.getD Y1 (Int.toNat ((Int.toNat n2.fn):Int)) (aj.mk (0:Int) ([]:(List Int)) ([]:(List (Int×Int))) ([]:(List bH)))).blocks)) <|
      let n28:Int:=(List.getD (List.getD Y1 (Int.toNat ((Int.toNat n2.fn):Int)) (aj.mk (0:Int) ([]:(List Int)) ([]:(List (Int×Int))) ([]:(List bH)))).blocks (Int.toNat ((Int.toNat X0.2):Int)) (0:Int))
      let n29:Int:=(jW (n28+(1:Int)))
      ck (inB X0.2 (List.length (List.getD Y1 (Int.toNat ((Int.toNat n2.fn):Int)) (aj.mk (0:Int) ([]:(List Int)) ([]:(List (Int×Int))) ([]:(List bH)))).blocks)) <|
      let n30:(List Int):=(List.set (List.getD Y1 (Int.toNat ((Int.toNat n2.fn):Int)) (aj.mk (0:Int) ([]:(List Int)) ([]:(List (Int×Int))) ([]:(List bH)))).blocks (Int.toNat ((Int.toNat X0.2):Int)) n29)
      let n31:(List ah):=(List.set XZ.2 (Int.toNat ((Int.toNat n1):Int)) (ah.mk (List.getD XZ.2 (Int.toNat ((Int.toNat n1):Int)) (ah.mk (0:Int) (0:Int) (0:Int) ([]:(List Int)) (0:Int))).fn X0.2 (List.getD XZ.2 (Int.toNat ((Int.toNat n1):Int)) (ah.mk (0:Int) (0:Int) (0:Int) ([]:(List Int)) (0:Int))).at' (List.getD XZ.2 (Int.toNat ((Int.toNat n1):Int)) (ah.mk (0:Int) (0:Int) (0:Int) ([]:(List Int)) (0:Int))).regs (List.getD XZ.2 (Int.toNat ((Int.toNat n1):Int)) (ah.mk (0:Int) (0:Int) (0:Int) ([]:(List Int)) (0:Int))).dst))
      let n32:(List ah):=(List.set n31 (Int.toNat ((Int.toNat n1):Int)) (ah.mk (List.getD n31 (Int.toNat ((Int.toNat n1):Int)) (ah.mk (0:Int) (0:Int) (0:Int) ([]:(List Int)) (0:Int))).fn (List.getD n31 (Int.toNat ((Int.toNat n1):Int)) (ah.mk (0:Int) (0:Int) (0:Int) ([]:(List Int)) (0:Int))).block (0:Int) (List.getD n31 (Int.toNat ((Int.toNat n1):Int)) (ah.mk (0:Int) (0:Int) (0:Int) ([]:(List Int)) (0:Int))).regs (List.getD n31 (Int.toNat ((Int.toNat n1):Int)) (ah.mk (0:Int) (0:Int) (0:Int) ([]:(List Int)) (0:Int))).dst))
      some (p4,(p5,(p6,(p7,(p8,(p9,(p10,(p11,(p12,(p13,(qJ,(p16,(su,((List.set Y1 (Int.toNat ((Int.toNat n2.fn):Int)) (aj.mk (List.getD Y1 (Int.toNat ((Int.toNat n2.fn):Int)) (aj.mk (0:Int) ([]:(List Int)) ([]:(List (Int×Int))) ([]:(List bH)))).entries n30 (List.getD Y1 (Int.toNat ((Int.toNat n2.fn):Int)) (aj.mk (0:Int) ([]:(List Int)) ([]:(List (Int×Int))) ([]:(List bH)))).edges (List.getD Y1 (Int.toNat ((Int.toNat n2.fn):Int)) (aj.mk (0:Int) ([]:(List Int)) ([]:(List (Int×Int))) ([]:(List bH)))).sites)),(kZ,n32)))))))))))))))) fun (s33:((List aG)×((List au)×(Int×(Int×((List Int)×(Int×(Int×(Int×(Int×(Int×(Int×((List (List Int))×((List Int)×((List aj)×((List Int)×(List ah)))))))))))))))))=>
  ck (decide ((List.length p16)=(List.length s33.2.2.2.2.2.2.2.2.2.2.2.1))) <|
  ck (decide ((List.length su)=(List.length s33.2.2.2.2.2.2.2.2.2.2.2.2.1))) <|
  ck (decide ((List.length bG)=(List.length s33.2.2.2.2.2.2.2.2.2.2.2.2.2.1))) <|
  ck (decide ((List.length kZ)=(List.length s33.2.2.2.2.2.2.2.2.2.2.2.2.2.2.1))) <|
  some s33
noncomputable def acs:bT:=⟨aap,fun x=>f21 x.1 x.2.1 x.2.2.1 x.2.2.2.1 x.2.2.2.2.1 x.2.2.2.2.2.1 x.2.2.2.2.2.2.1 x.2.2.2.2.2.2.2.1 x.2.2.2.2.2.2.2.2.1 x.2.2.2.2.2.2.2.2.2.1 x.2.2.2.2.2.2.2.2.2.2.1 x.2.2.2.2.2.2.2.2.2.2.2.1 x.2.2.2.2.2.2.2.2.2.2.2.2.1 x.2.2.2.2.2.2.2.2.2.2.2.2.2.1 x.2.2.2.2.2.2.2.2.2.2.2.2.2.2.1 x.2.2.2.2.2.2.2.2.2.2.2.2.2.2.2.1 x.2.2.2.2.2.2.2.2.2.2.2.2.2.2.2.2.1 x.2.2.2.2.2.2.2.2.2.2.2.2.2.2.2.2.2.1 x.2.2.2.2.2.2.2.2.2.2.2.2.2.2.2.2.2.2.1 x.2.2.2.2.2.2.2.2.2.2.2.2.2.2.2.2.2.2.2⟩
theorem X3:bg Try.prog 21 acs:=
  aJ (T:=dw.of []) (ety:=YW) [] ad4 Try.func21 rfl rfl rfl (show aap.er.ok=true by decide +kernel) rfl (show aap.aO≤Try.f21.ntmps by decide +kernel) rfl (fC.sound trivial) fV mixed fun x=>by kernel_rfl
noncomputable def f22 (p0 p1 p2:Int):Option Bool:=
  Option.bind (
    let n0:Bool:=(decide (p1≤p0))
    bif n0 then
      let n1:Bool:=(decide (p0≤p2))
      let n2:Bool:=n1
      some n2
    else
      some false) fun (s3:Bool)=>
  some s3
noncomputable def Gw:bT:=⟨aaq,fun x=>f22 x.1 x.2.1 x.2.2⟩
theorem mZ:bg Try.prog 22 Gw:=
  aJ (T:=dw.of []) (ety:=ety) [.tmp 6] ad5 Try.func22 rfl rfl rfl (show aaq.er.ok=true by decide +kernel) rfl (show aaq.aO≤Try.f22.ntmps by decide +kernel) rfl (fC.sound trivial) fV mixed fun x=>by kernel_rfl
noncomputable def f24 (p0:(List UInt8)) (p1:Int):Option Bool:=
  Option.bind (f22 p1 (0:Int) (1024:Int)) fun (c0:Bool)=>
  let n1:Bool:=(!c0)
  some n1
noncomputable def aaY:bT:=⟨aar,fun x=>f24 x.1 x.2⟩
theorem QF:bg Try.prog 24 aaY:=
  aJ (T:=dw.of [(22,Gw)]) (ety:=ety) [.tmp 2] ad6 Try.func24 rfl rfl rfl (show aar.er.ok=true by decide +kernel) rfl (show aar.aO≤Try.f24.ntmps by decide +kernel) rfl (fC.sound ⟨mZ,trivial⟩) fV mixed fun x=>by kernel_rfl
noncomputable def f26 (p0:(List Int)) (p1:Int):Option Int:=
  let n0:Int:=((List.length p0):Int)
  fQ (
    jV (fun (s1:Int)=>
      let n2:Bool:=(decide (s1<n0))
      bif n2 then
        ck (inB s1 (List.length p0)) <|
        let n3:Int:=(List.getD p0 (Int.toNat s1) (0:Int))
        let n4:Bool:=(decide (p1=n3))
        bif n4 then
          some (.inr (.inr s1))
        else
          let n5:Int:=(jW (s1+(1:Int)))
          some (.inl n5)
      else
        some (.inr (.inl ()))) (0:Int)) fun (s6:PUnit)=>
  some (-1:Int)
noncomputable def acu:bT:=⟨aas,fun x=>f26 x.1 x.2⟩
theorem X4:bg Try.prog 26 acu:=
  aJ (T:=dw.of []) (ety:=ety) [.tmp 4] ad7 Try.func26 rfl rfl rfl (show aas.er.ok=true by decide +kernel) rfl (show aas.aO≤Try.f26.ntmps by decide +kernel) rfl (fC.sound trivial) fV mixed fun x=>by kernel_rfl
noncomputable def f29 (p0:Int) (p1:(List aG)) (p2:(List au)) (p3 p4:Int) (p5:(List Int)) (p6 p7 p8 p9 p10 p11:Int) (p12:(List ah)) (p13:(List (List Int))) (qJ:(List Int)) (kW:(List aj)) (p16:(List Int)):Option ((List aG)×((List au)×(Int×(Int×((List Int)×(Int×(Int×(Int×(Int×(Int×(Int×((List ah)×((List (List Int))×((List Int)×((List aj)×(List Int)))))))))))))))):=
  Option.bind (
    some (p1,(p2,(p3,(p4,(p5,(p6,(p7,(p8,((2:Int),(p0,(p11,(p12,(p13,(qJ,(kW,p16)))))))))))))))) fun (s0:((List aG)×((List au)×(Int×(Int×((List Int)×(Int×(Int×(Int×(Int×(Int×(Int×((List ah)×((List (List Int))×((List Int)×((List aj)×(List Int)))))))))))))))))=>
  ck (decide ((List.length p12)=(List.length s0.2.2.2.2.2.2.2.2.2.2.2.1))) <|
  ck (decide ((List.length p13)=(List.length s0.2.2.2.2.2.2.2.2.2.2.2.2.1))) <|
  ck (decide ((List.length qJ)=(List.length s0.2.2.2.2.2.2.2.2.2.2.2.2.2.1))) <|
  ck (decide ((List.length kW)=(List.length s0.2.2.2.2.2.2.2.2.2.2.2.2.2.2.1))) <|
  ck (decide ((List.length p16)=(List.length s0.2.2.2.2.2.2.2.2.2.2.2.2.2.2.2))) <|
  some s0
noncomputable def acv:bT:=⟨aat,fun x=>f29 x.1 x.2.1 x.2.2.1 x.2.2.2.1 x.2.2.2.2.1 x.2.2.2.2.2.1 x.2.2.2.2.2.2.1 x.2.2.2.2.2.2.2.1 x.2.2.2.2.2.2.2.2.1 x.2.2.2.2.2.2.2.2.2.1 x.2.2.2.2.2.2.2.2.2.2.1 x.2.2.2.2.2.2.2.2.2.2.2.1 x.2.2.2.2.2.2.2.2.2.2.2.2.1 x.2.2.2.2.2.2.2.2.2.2.2.2.2.1 x.2.2.2.2.2.2.2.2.2.2.2.2.2.2.1 x.2.2.2.2.2.2.2.2.2.2.2.2.2.2.2.1 x.2.2.2.2.2.2.2.2.2.2.2.2.2.2.2.2⟩
theorem X5:bg Try.prog 29 acv:=
  aJ (T:=dw.of []) (ety:=YX) [] ad8 Try.func29 rfl rfl rfl (show aat.er.ok=true by decide +kernel) rfl (show aat.aO≤Try.f29.ntmps by decide +kernel) rfl (fC.sound trivial) fV mixed fun x=>by kernel_rfl
noncomputable def f30 (p0 p1:(List Int)):Option ((List Int)×(List Int)):=
  Option.bind (
    Option.bind (
      jV (fun (s0:(Int×(List Int)))=>
        let n1:Int:=((List.length p0):Int)
        let n2:Bool:=(decide (s0.1<n1))
        bif n2 then
          ck (inB s0.1 (List.length p0)) <|
          let n3:Int:=(List.getD p0 (Int.toNat s0.1) (0:Int))
          ck (inB n3 (List.length p1)) <|
          let n4:Int:=(List.getD p1 (Int.toNat ((Int.toNat n3):Int)) (0:Int))
          let n5:(List Int):=[n4]
          ck (true&&(decide ((((List.length s0.2)+(List.length n5))*(8:Nat))≤(140737488355328:Nat)))) <|
          let n6:(List Int):=(s0.2++n5)
          let n7:Int:=(jW (s0.1+(1:Int)))
          some (.inl (n7,n6))
        else
          some (.inr s0.2)) ((0:Int),([]:(List Int)))) fun (s8:(List Int))=>
    some (p1,s8)) fun (s9:((List Int)×(List Int)))=>
  ck (decide ((List.length p1)=(List.length s9.1))) <|
  some s9
noncomputable def acw:bT:=⟨aau,fun x=>f30 x.1 x.2⟩
theorem X6:bg Try.prog 30 acw:=
  aJ (T:=dw.of []) (ety:=ety) [.tmp 4] ad9 Try.func30 rfl rfl rfl (show aau.er.ok=true by decide +kernel) rfl (show aau.aO≤Try.f30.ntmps by decide +kernel) rfl (fC.sound trivial) fV mixed fun x=>by kernel_rfl
noncomputable def f32 (p0:(List aG)):Option Int:=
  let n0:Int:=((List.length p0):Int)
  fQ (
    jV (fun (s1:Int)=>
      let n2:Bool:=(decide (s1<n0))
      bif n2 then
        ck (inB s1 (List.length p0)) <|
        let n3:aG:=(List.getD p0 (Int.toNat s1) (aG.mk ([]:(List UInt8)) (0:Int)))
        Option.bind (f24 n3.name n3.size) fun (c4:Bool)=>
        bif c4 then
          some (.inr (.inr s1))
        else
          let n5:Int:=(jW (s1+(1:Int)))
          some (.inl n5)
      else
        some (.inr (.inl ()))) (0:Int)) fun (s6:PUnit)=>
  some (-1:Int)
noncomputable def acy:bT:=⟨aav,fun x=>f32 x⟩
theorem X7:bg Try.prog 32 acy:=
  aJ (T:=dw.of [(24,aaY)]) (ety:=ety) [.tmp 4] ad_ Try.func32 rfl rfl rfl (show aav.er.ok=true by decide +kernel) rfl (show aav.aO≤Try.f32.ntmps by decide +kernel) rfl (fC.sound ⟨QF,trivial⟩) fV mixed fun x=>by kernel_rfl
noncomputable def f37 (p0:Bool):Option Int:=
  bif p0 then
    some (1:Int)
  else
    some (0:Int)
noncomputable def aaZ:bT:=⟨aaw,fun x=>f37 x⟩
theorem QG:bg Try.prog 37 aaZ:=
  aJ (T:=dw.of []) (ety:=ety) [.tmp 2] aea Try.func37 rfl rfl rfl (show aaw.er.ok=true by decide +kernel) rfl (show aaw.aO≤Try.f37.ntmps by decide +kernel) rfl (fC.sound trivial) fV mixed fun x=>by kernel_rfl
noncomputable def f38 (p0:(List bK)) (p1:Int):Option (List bK):=
  Option.bind (
    jV (fun (s0:(Bool×(Int×(List bK))))=>
      let n1:Int:=((List.length p0):Int)
      let n2:Bool:=(decide (s0.2.1<n1))
      bif n2 then
        Option.bind (
          Option.bind (
            let n3:Bool:=(!s0.1)
            bif n3 then
              ck (inB s0.2.1 (List.length p0)) <|
              let n4:bK:=(List.getD p0 (Int.toNat s0.2.1) (bK.mk (0:Int) (0:Int)))
              let n5:Bool:=(decide (p1≤n4.func))
              let n6:Bool:=n5
              some n6
            else
              some false) fun (s7:Bool)=>
          fQ (
            bif s7 then
              ck (inB s0.2.1 (List.length p0)) <|
              let n8:bK:=(List.getD p0 (Int.toNat s0.2.1) (bK.mk (0:Int) (0:Int)))
              let n9:Bool:=(decide (n8.func=p1))
              bif n9 then
                ck (inB s0.2.1 (List.length p0)) <|
                let n10:bK:=(List.getD p0 (Int.toNat s0.2.1) (bK.mk (0:Int) (0:Int)))
                let n11:Int:=(jW (n10.count+(1:Int)))
                let n12:(List bK):=[(bK.mk p1 n11)]
                ck (true&&(decide ((((List.length s0.2.2)+(List.length n12))*(16:Nat))≤(140737488355328:Nat)))) <|
                let n13:(List bK):=(s0.2.2++n12)
                some (.inr (true,n13))
              else
                let n14:(List bK):=[(bK.mk p1 (1:Int))]
                ck (true&&(decide ((((List.length s0.2.2)+(List.length n14))*(16:Nat))≤(140737488355328:Nat)))) <|
                let n15:(List bK):=(s0.2.2++n14)
                some (.inl (true,n15))
            else
              some (.inl (s0.1,s0.2.2))) fun (s16:(Bool×(List bK)))=>
          ck (inB s0.2.1 (List.length p0)) <|
          let n17:bK:=(List.getD p0 (Int.toNat s0.2.1) (bK.mk (0:Int) (0:Int)))
          let n18:(List bK):=[(bK.mk n17.func n17.count)]
          ck (true&&(decide ((((List.length s16.2)+(List.length n18))*(16:Nat))≤(140737488355328:Nat)))) <|
          let n19:(List bK):=(s16.2++n18)
          some (s16.1,n19)) fun (s20:(Bool×(List bK)))=>
        let n21:Int:=(jW (s0.2.1+(1:Int)))
        some (.inl (s20.1,(n21,s20.2)))
      else
        some (.inr (s0.1,s0.2.2))) (false,((0:Int),([]:(List bK))))) fun (Y2:(Bool×(List bK)))=>
  let n23:Bool:=(!Y2.1)
  Option.bind (
    bif n23 then
      let n24:(List bK):=[(bK.mk p1 (1:Int))]
      ck (true&&(decide ((((List.length Y2.2)+(List.length n24))*(16:Nat))≤(140737488355328:Nat)))) <|
      let n25:(List bK):=(Y2.2++n24)
      some n25
    else
      some Y2.2) fun (s26:(List bK))=>
  some s26
noncomputable def acz:bT:=⟨aax,fun x=>f38 x.1 x.2⟩
theorem X8:bg Try.prog 38 acz:=
  aJ (T:=dw.of []) (ety:=ety) [.tmp 4] aeb Try.func38 rfl rfl rfl (show aax.er.ok=true by decide +kernel) rfl (show aax.aO≤Try.f38.ntmps by decide +kernel) rfl (fC.sound trivial) fV mixed fun x=>by kernel_rfl
noncomputable def f39 (p0 p1 p2 p3 p4 p5:Int) (p6:(List Int)):Option Bool:=
  let n0:Bool:=(decide (p0=(3:Int)))
  bif n0 then
    Option.bind (f22 p1 (1:Int) (2:Int)) fun (c1:Bool)=>
    some c1
  else
    let n2:Bool:=(decide (p0=(4:Int)))
    bif n2 then
      Option.bind (f22 p1 (3:Int) (11:Int)) fun (c3:Bool)=>
      some c3
    else
      Option.bind (f22 p0 (1:Int) (14:Int)) fun (c4:Bool)=>
      some c4
noncomputable def acA:bT:=⟨aay,fun x=>f39 x.1 x.2.1 x.2.2.1 x.2.2.2.1 x.2.2.2.2.1 x.2.2.2.2.2.1 x.2.2.2.2.2.2⟩
theorem X9:bg Try.prog 39 acA:=
  aJ (T:=dw.of [(22,Gw)]) (ety:=ety) [.tmp 2] aec Try.func39 rfl rfl rfl (show aay.er.ok=true by decide +kernel) rfl (show aay.aO≤Try.f39.ntmps by decide +kernel) rfl (fC.sound ⟨mZ,trivial⟩) fV mixed fun x=>by kernel_rfl
noncomputable def f40 (p0 p1 p2 p3 p4 p5:Int) (p6:(List Int)):Option (List Int):=
  let n0:Bool:=(decide (p0=(2:Int)))
  Option.bind (
    bif n0 then
      some true
    else
      let n1:Bool:=(decide (p0=(3:Int)))
      Option.bind (
        bif n1 then
          some true
        else
          let n2:Bool:=(decide (p0=(6:Int)))
          Option.bind (
            bif n2 then
              some true
            else
              let n3:Bool:=(decide (p0=(7:Int)))
              Option.bind (
                bif n3 then
                  some true
                else
                  let n4:Bool:=(decide (p0=(10:Int)))
                  some n4) fun (s5:Bool)=>
              some s5) fun (s6:Bool)=>
          some s6) fun (s7:Bool)=>
      some s7) fun (s8:Bool)=>
  bif s8 then
    let n9:(List Int):=[p3]
    some n9
  else
    let n10:Bool:=(decide (p0=(4:Int)))
    Option.bind (
      bif n10 then
        some true
      else
        let n11:Bool:=(decide (p0=(8:Int)))
        some n11) fun (s12:Bool)=>
    bif s12 then
      let n13:(List Int):=[p3,p4]
      some n13
    else
      let n14:Bool:=(decide (p0=(11:Int)))
      bif n14 then
        Option.bind (f14 p6) fun (c15:(List Int))=>
        some c15
      else
        let n16:Bool:=(decide (p0=(12:Int)))
        bif n16 then
          let n17:(List Int):=[p3]
          ck (true&&(decide ((((List.length n17)+(List.length p6))*(8:Nat))≤(140737488355328:Nat)))) <|
          let n18:(List Int):=(n17++p6)
          some n18
        else
          some ([]:(List Int))
noncomputable def acB:bT:=⟨aaz,fun x=>f40 x.1 x.2.1 x.2.2.1 x.2.2.2.1 x.2.2.2.2.1 x.2.2.2.2.2.1 x.2.2.2.2.2.2⟩
theorem X_:bg Try.prog 40 acB:=
  aJ (T:=dw.of [(14,aaV)]) (ety:=ety) [.tmp 2] aed Try.func40 rfl rfl rfl (show aaz.er.ok=true by decide +kernel) rfl (show aaz.aO≤Try.f40.ntmps by decide +kernel) rfl (fC.sound ⟨QC,trivial⟩) fV mixed fun x=>by kernel_rfl
noncomputable def f41 (p0 p1 p2 p3 p4 p5:Int) (p6:(List Int)):Option (Int×Bool):=
  let n0:Bool:=(decide (p0=(6:Int)))
  Option.bind (
    bif n0 then
      some true
    else
      let n1:Bool:=(decide (p0=(8:Int)))
      Option.bind (
        bif n1 then
          some true
        else
          let n2:Bool:=(decide (p0=(10:Int)))
          Option.bind (
            bif n2 then
              some true
            else
              let n3:Bool:=(decide (p0=(13:Int)))
              some n3) fun (s4:Bool)=>
          some s4) fun (s5:Bool)=>
      some s5) fun (s6:Bool)=>
  bif s6 then
    some ((0:Int),false)
  else
    Option.bind (f22 p0 (1:Int) (14:Int)) fun (c7:Bool)=>
    let n8:Bool:=(!c7)
    bif n8 then
      some ((0:Int),false)
    else
      some (p2,true)
noncomputable def acC:bT:=⟨aaA,fun x=>f41 x.1 x.2.1 x.2.2.1 x.2.2.2.1 x.2.2.2.2.1 x.2.2.2.2.2.1 x.2.2.2.2.2.2⟩
theorem Ya:bg Try.prog 41 acC:=
  aJ (T:=dw.of [(22,Gw)]) (ety:=ety) [.tmp 2,.tmp 3] aee Try.func41 rfl rfl rfl (show aaA.er.ok=true by decide +kernel) rfl (show aaA.aO≤Try.f41.ntmps by decide +kernel) rfl (fC.sound ⟨mZ,trivial⟩) fV mixed fun x=>by kernel_rfl
noncomputable def f44 (p0 p1 p2 p3:Int):Option (List Int):=
  Option.bind (
    let n0:Bool:=(decide (p0=(2:Int)))
    bif n0 then
      some true
    else
      let n1:Bool:=(decide (p0=(3:Int)))
      let n2:Bool:=n1
      some n2) fun (s3:Bool)=>
  bif s3 then
    let n4:(List Int):=[p1]
    some n4
  else
    some ([]:(List Int))
noncomputable def acD:bT:=⟨aaB,fun x=>f44 x.1 x.2.1 x.2.2.1 x.2.2.2⟩
theorem Yb:bg Try.prog 44 acD:=
  aJ (T:=dw.of []) (ety:=ety) [.tmp 2] aef Try.func44 rfl rfl rfl (show aaB.er.ok=true by decide +kernel) rfl (show aaB.aO≤Try.f44.ntmps by decide +kernel) rfl (fC.sound trivial) fV mixed fun x=>by kernel_rfl
noncomputable def f45 (p0 p1 p2 p3:Int):Option (List Int):=
  let n0:Bool:=(decide (p0=(1:Int)))
  Option.bind (
    bif n0 then
      some true
    else
      Option.bind (
        let n1:Bool:=(decide (p0=(2:Int)))
        bif n1 then
          let n2:Bool:=(decide (p2=p3))
          let n3:Bool:=n2
          some n3
        else
          some false) fun (s4:Bool)=>
      some s4) fun (s5:Bool)=>
  bif s5 then
    let n6:(List Int):=[p2]
    some n6
  else
    let n7:Bool:=(decide (p0=(2:Int)))
    bif n7 then
      let n8:(List Int):=[p2,p3]
      some n8
    else
      some ([]:(List Int))
noncomputable def aa0:bT:=⟨aaC,fun x=>f45 x.1 x.2.1 x.2.2.1 x.2.2.2⟩
theorem QH:bg Try.prog 45 aa0:=
  aJ (T:=dw.of []) (ety:=ety) [.tmp 2] aeg Try.func45 rfl rfl rfl (show aaC.er.ok=true by decide +kernel) rfl (show aaC.aO≤Try.f45.ntmps by decide +kernel) rfl (fC.sound trivial) fV mixed fun x=>by kernel_rfl
noncomputable def f46 (p0:Int) (p1:(List UInt8)) (p2 p3:Int) (p4:(List aC)):Option (Bool×((List UInt8)×(Int×(Int×(List aC))))):=
  let n0:Int:=((List.length p4):Int)
  let n1:Int:=(jW (n0-(1:Int)))
  Option.bind (f22 p0 (0:Int) n1) fun (c2:Bool)=>
  let n3:Bool:=(!c2)
  some (n3,(p1,(p2,(p3,p4))))
noncomputable def Yc:bT:=⟨aaD,fun x=>f46 x.1 x.2.1 x.2.2.1 x.2.2.2.1 x.2.2.2.2⟩
theorem JV:bg Try.prog 46 Yc:=
  aJ (T:=dw.of [(22,Gw)]) (ety:=ety) [.tmp 3] aeh Try.func46 rfl rfl rfl (show aaD.er.ok=true by decide +kernel) rfl (show aaD.aO≤Try.f46.ntmps by decide +kernel) rfl (fC.sound ⟨mZ,trivial⟩) fV mixed fun x=>by kernel_rfl
noncomputable def f47 (p0:(List Bool)) (p1:Bool):Option Int:=
  let n0:Int:=((List.length p0):Int)
  fQ (
    jV (fun (s1:Int)=>
      let n2:Bool:=(decide (s1<n0))
      bif n2 then
        ck (inB s1 (List.length p0)) <|
        let n3:Bool:=(List.getD p0 (Int.toNat s1) false)
        let n4:Bool:=(p1==n3)
        bif n4 then
          some (.inr (.inr s1))
        else
          let n5:Int:=(jW (s1+(1:Int)))
          some (.inl n5)
      else
        some (.inr (.inl ()))) (0:Int)) fun (s6:PUnit)=>
  some (-1:Int)
noncomputable def acE:bT:=⟨aaE,fun x=>f47 x.1 x.2⟩
theorem Yd:bg Try.prog 47 acE:=
  aJ (T:=dw.of []) (ety:=ety) [.tmp 4] aei Try.func47 rfl rfl rfl (show aaE.er.ok=true by decide +kernel) rfl (show aaE.aO≤Try.f47.ntmps by decide +kernel) rfl (fC.sound trivial) fV mixed fun x=>by kernel_rfl
noncomputable def f48 (p0 p1:(List Int)):Option (List Int):=
  ck (true&&(decide ((((List.length p1)+(List.length p0))*(8:Nat))≤(140737488355328:Nat)))) <|
  let n0:(List Int):=(p1++p0)
  some n0
noncomputable def acF:bT:=⟨aaF,fun x=>f48 x.1 x.2⟩
theorem Ye:bg Try.prog 48 acF:=
  aJ (T:=dw.of []) (ety:=ety) [] aej Try.func48 rfl rfl rfl (show aaF.er.ok=true by decide +kernel) rfl (show aaF.aO≤Try.f48.ntmps by decide +kernel) rfl (fC.sound trivial) fV mixed fun x=>by kernel_rfl
noncomputable def f49 (p0:(List Int)):Option (Int×(Bool×(List Int))):=
  let n0:Int:=((List.length p0):Int)
  let n1:Bool:=(decide (n0=(0:Int)))
  bif n1 then
    some ((0:Int),(false,p0))
  else
    let n2:Int:=((List.length p0):Int)
    let n3:Int:=(jW (n2-(1:Int)))
    ck (inB n3 (List.length p0)) <|
    let n4:Int:=(List.getD p0 (Int.toNat ((Int.toNat n3):Int)) (0:Int))
    let n5:Int:=((List.length p0):Int)
    let n6:Int:=(jW (n5-(1:Int)))
    ck ((decide ((0:Int)≤n6))&&(decide (n6≤((List.length p0):Int)))) <|
    let n7:(List Int):=(List.take (Int.toNat n6) p0)
    some (n4,(true,n7))
noncomputable def acG:bT:=⟨aaG,fun x=>f49 x⟩
theorem Yf:bg Try.prog 49 acG:=
  aJ (T:=dw.of []) (ety:=YZ) [.tmp 2,.tmp 3] aek Try.func49 rfl rfl rfl (show aaG.er.ok=true by decide +kernel) rfl (show aaG.aO≤Try.f49.ntmps by decide +kernel) rfl (fC.sound trivial) fV mixed fun x=>by kernel_rfl
noncomputable def f51 (p0:Int) (p1:(List UInt8)) (p2 p3:Int) (p4:(List aC)):Option (Bool×((List UInt8)×(Int×(Int×(List aC))))):=
  let n0:Int:=(jW (p3-(1:Int)))
  Option.bind (f22 p0 (0:Int) n0) fun (c1:Bool)=>
  let n2:Bool:=(!c1)
  some (n2,(p1,(p2,(p3,p4))))
noncomputable def Yg:bT:=⟨aaH,fun x=>f51 x.1 x.2.1 x.2.2.1 x.2.2.2.1 x.2.2.2.2⟩
theorem JW:bg Try.prog 51 Yg:=
  aJ (T:=dw.of [(22,Gw)]) (ety:=ety) [.tmp 3] ael Try.func51 rfl rfl rfl (show aaH.er.ok=true by decide +kernel) rfl (show aaH.aO≤Try.f51.ntmps by decide +kernel) rfl (fC.sound ⟨mZ,trivial⟩) fV mixed fun x=>by kernel_rfl
noncomputable def f10 (p0:(List Int)) (p1:Int):Option Bool:=
  Option.bind (f26 p0 p1) fun (c0:Int)=>
  let n1:Bool:=(decide ((0:Int)≤c0))
  some n1
noncomputable def acH:bT:=⟨aaI,fun x=>f10 x.1 x.2⟩
theorem Yh:bg Try.prog 10 acH:=
  aJ (T:=dw.of [(26,acu)]) (ety:=ety) [.tmp 4] aem Try.func10 rfl rfl rfl (show aaI.er.ok=true by decide +kernel) rfl (show aaI.aO≤Try.f10.ntmps by decide +kernel) rfl (fC.sound ⟨X4,trivial⟩) fV mixed fun x=>by kernel_rfl
noncomputable def f23 (p0:(List aG)):Option Bool:=
  Option.bind (f32 p0) fun (c0:Int)=>
  let n1:Bool:=(decide ((0:Int)≤c0))
  some n1
noncomputable def acI:bT:=⟨aaJ,fun x=>f23 x⟩
theorem Yi:bg Try.prog 23 acI:=
  aJ (T:=dw.of [(32,acy),(24,aaY)]) (ety:=ety) [.tmp 4] aen Try.func23 rfl rfl rfl (show aaJ.er.ok=true by decide +kernel) rfl (show aaJ.aO≤Try.f23.ntmps by decide +kernel) rfl (fC.sound ⟨X7,QF,trivial⟩) fV mixed fun x=>by kernel_rfl
noncomputable def f27 (p0 p1:Int):Option Int:=
  let n0:Bool:=(decide (p0=(1:Int)))
  bif n0 then
    let n1:Int:=(jW (ZF p1))
    some n1
  else
    let n2:Bool:=(decide (p0=(2:Int)))
    bif n2 then
      let n3:Bool:=(decide (p1=(0:Int)))
      Option.bind (f37 n3) fun (c4:Int)=>
      some c4
    else
      some (0:Int)
noncomputable def acJ:bT:=⟨aaK,fun x=>f27 x.1 x.2⟩
theorem Yj:bg Try.prog 27 acJ:=
  aJ (T:=dw.of [(37,aaZ)]) (ety:=ety) [.tmp 4] aeo Try.func27 rfl rfl rfl (show aaK.er.ok=true by decide +kernel) rfl (show aaK.aO≤Try.f27.ntmps by decide +kernel) rfl (fC.sound ⟨QG,trivial⟩) fV mixed fun x=>by kernel_rfl
noncomputable def f28 (p0 p1 p2:Int):Option (Int×Bool):=
  let n0:Bool:=(decide (p0=(3:Int)))
  bif n0 then
    let n1:Int:=(jW (p1+p2))
    some (n1,true)
  else
    let n2:Bool:=(decide (p0=(4:Int)))
    bif n2 then
      let n3:Int:=(jW (p1-p2))
      some (n3,true)
    else
      let n4:Bool:=(decide (p0=(5:Int)))
      bif n4 then
        let n5:Int:=(jW (p1*p2))
        some (n5,true)
      else
        let n6:Bool:=(decide (p0=(6:Int)))
        Option.bind (
          bif n6 then
            some true
          else
            let n7:Bool:=(decide (p0=(7:Int)))
            some n7) fun (s8:Bool)=>
        bif s8 then
          let n9:Bool:=(decide (p2=(0:Int)))
          bif n9 then
            some ((0:Int),false)
          else
            let n10:Int:=(jW (ZF p1))
            let n11:Bool:=(!(decide (p2=(-1:Int))))
            Option.bind (
              bif n11 then
                ck (!(decide (p2=(0:Int)))) <|
                let n12:Int:=(jW (Int.tdiv p1 p2))
                ck (!(decide (p2=(0:Int)))) <|
                let n13:Int:=(Int.tmod p1 p2)
                some (n12,n13)
              else
                some (n10,(0:Int))) fun (s14:(Int×Int))=>
            let n15:Bool:=(decide (p0=(6:Int)))
            bif n15 then
              some (s14.1,true)
            else
              some (s14.2,true)
        else
          let n16:Bool:=(decide (p0=(8:Int)))
          bif n16 then
            let n17:Bool:=(decide (p1<p2))
            Option.bind (f37 n17) fun (c18:Int)=>
            some (c18,true)
          else
            let n19:Bool:=(decide (p0=(9:Int)))
            bif n19 then
              let n20:Bool:=(decide (p1≤p2))
              Option.bind (f37 n20) fun (c21:Int)=>
              some (c21,true)
            else
              let n22:Bool:=(decide (p0=(10:Int)))
              bif n22 then
                let n23:Bool:=(decide (p1=p2))
                Option.bind (f37 n23) fun (c24:Int)=>
                some (c24,true)
              else
                let n25:Bool:=(decide (p0=(11:Int)))
                bif n25 then
                  let n26:Bool:=(!(decide (p1=p2)))
                  Option.bind (f37 n26) fun (c27:Int)=>
                  some (c27,true)
                else
                  some ((0:Int),false)
noncomputable def acK:bT:=⟨aaL,fun x=>f28 x.1 x.2.1 x.2.2⟩
theorem Yk:bg Try.prog 28 acK:=
  aJ (T:=dw.of [(37,aaZ)]) (ety:=ety) [.tmp 6,.tmp 7] aep Try.func28 rfl rfl rfl (show aaL.er.ok=true by decide +kernel) rfl (show aaL.aO≤Try.f28.ntmps by decide +kernel) rfl (fC.sound ⟨QG,trivial⟩) fV mixed fun x=>by kernel_rfl
noncomputable def f31 (p0:(List bH)) (p1 p2 p3:Int):Option (List bH):=
  Option.bind (
    jV (fun (s0:(Bool×(Int×(List bH))))=>
      let n1:Int:=((List.length p0):Int)
      let n2:Bool:=(decide (s0.2.1<n1))
      bif n2 then
        Option.bind (
          ck (inB s0.2.1 (List.length p0)) <|
          let n3:bH:=(List.getD p0 (Int.toNat s0.2.1) (bH.mk (0:Int) (0:Int) ([]:(List bK))))
          Option.bind (
            let n4:Bool:=(!s0.1)
            bif n4 then
              let n5:Bool:=(decide (p1<n3.block))
              bif n5 then
                let n6:Bool:=true
                some n6
              else
                let n7:Bool:=(decide (n3.block=p1))
                bif n7 then
                  let n8:Bool:=(decide (p2≤n3.instr))
                  let n9:Bool:=n8
                  let n10:Bool:=n9
                  let n11:Bool:=n10
                  some n11
                else
                  let n12:Bool:=false
                  let n13:Bool:=n12
                  some n13
            else
              some false) fun (s14:Bool)=>
          fQ (
            bif s14 then
              Option.bind (
                let n15:Bool:=(decide (n3.block=p1))
                bif n15 then
                  let n16:Bool:=(decide (n3.instr=p2))
                  let n17:Bool:=n16
                  some n17
                else
                  some false) fun (XZ:Bool)=>
              bif XZ then
                Option.bind (f38 n3.targets p3) fun (c19:(List bK))=>
                let n20:(List bH):=[(bH.mk p1 p2 c19)]
                ck (true&&(decide ((((List.length s0.2.2)+(List.length n20))*(40:Nat))≤(140737488355328:Nat)))) <|
                let n21:(List bH):=(s0.2.2++n20)
                some (.inr (true,n21))
              else
                Option.bind (f38 ([]:(List bK)) p3) fun (c22:(List bK))=>
                let n23:(List bH):=[(bH.mk p1 p2 c22)]
                ck (true&&(decide ((((List.length s0.2.2)+(List.length n23))*(40:Nat))≤(140737488355328:Nat)))) <|
                let n24:(List bH):=(s0.2.2++n23)
                some (.inl (true,n24))
            else
              some (.inl (s0.1,s0.2.2))) fun (s25:(Bool×(List bH)))=>
          let n26:(List bH):=[(bH.mk n3.block n3.instr n3.targets)]
          ck (true&&(decide ((((List.length s25.2)+(List.length n26))*(40:Nat))≤(140737488355328:Nat)))) <|
          let n27:(List bH):=(s25.2++n26)
          some (s25.1,n27)) fun (s28:(Bool×(List bH)))=>
        let n29:Int:=(jW (s0.2.1+(1:Int)))
        some (.inl (s28.1,(n29,s28.2)))
      else
        some (.inr (s0.1,s0.2.2))) (false,((0:Int),([]:(List bH))))) fun (s30:(Bool×(List bH)))=>
  let n31:Bool:=(!s30.1)
  Option.bind (
    bif n31 then
      Option.bind (f38 ([]:(List bK)) p3) fun (c32:(List bK))=>
      let n33:(List bH):=[(bH.mk p1 p2 c32)]
      ck (true&&(decide ((((List.length s30.2)+(List.length n33))*(40:Nat))≤(140737488355328:Nat)))) <|
      let n34:(List bH):=(s30.2++n33)
      some n34
    else
      some s30.2) fun (s35:(List bH))=>
  some s35
noncomputable def acL:bT:=⟨aaM,fun x=>f31 x.1 x.2.1 x.2.2.1 x.2.2.2⟩
theorem Yl:bg Try.prog 31 acL:=
  aJ (T:=dw.of [(38,acz)]) (ety:=ety) [.tmp 8] aer Try.func31 rfl rfl rfl (show aaM.er.ok=true by decide +kernel) rfl (show aaM.aO≤Try.f31.ntmps by decide +kernel) rfl (fC.sound ⟨X8,trivial⟩) fV mixed fun x=>by kernel_rfl
noncomputable def f35 (p0:(List Bool)) (p1:Bool):Option Bool:=
  Option.bind (f47 p0 p1) fun (c0:Int)=>
  let n1:Bool:=(decide ((0:Int)≤c0))
  some n1
noncomputable def acM:bT:=⟨aaN,fun x=>f35 x.1 x.2⟩
theorem Ym:bg Try.prog 35 acM:=
  aJ (T:=dw.of [(47,acE)]) (ety:=ety) [.tmp 4] aes Try.func35 rfl rfl rfl (show aaN.er.ok=true by decide +kernel) rfl (show aaN.aO≤Try.f35.ntmps by decide +kernel) rfl (fC.sound ⟨Yd,trivial⟩) fV mixed fun x=>by kernel_rfl
noncomputable def f36 (p0:(List UInt8)) (p1 p2:Int) (p3:(List aC)):Option (List Bool):=
  let n0:Int:=((List.length p3):Int)
  ck (En (1:Nat) n0 n0) <|
  let n1:(List Bool):=(List.replicate (Int.toNat n0) false)
  Option.bind (
    some ([]:(List Int))) fun (s2:(List Int))=>
  let n3:(List Int):=[(0:Int)]
  Option.bind (f48 n3 s2) fun (c4:(List Int))=>
  Option.bind (f49 c4) fun (c5:(Int×(Bool×(List Int))))=>
  Option.bind (
    jV (fun (s6:(Int×(Bool×((List Bool)×(List Int)))))=>
      bif s6.2.1 then
        ck (inB s6.1 (List.length s6.2.2.1)) <|
        let n7:Bool:=(List.getD s6.2.2.1 (Int.toNat ((Int.toNat s6.1):Int)) false)
        let n8:Bool:=(!n7)
        Option.bind (
          bif n8 then
            ck (inB s6.1 (List.length s6.2.2.1)) <|
            let n9:(List Bool):=(List.set s6.2.2.1 (Int.toNat ((Int.toNat s6.1):Int)) true)
            ck (inB s6.1 (List.length p3)) <|
            let n10:aC:=(List.getD p3 (Int.toNat s6.1) (aC.mk ([]:(List aK)) (0:Int) (0:Int) (0:Int) (0:Int) (0:Int) (0:Int) (0:Int)))
            Option.bind (f45 n10.mJ n10.Ce n10.uT n10.kG) fun (c11:(List Int))=>
            Option.bind (f48 c11 s6.2.2.2) fun (c12:(List Int))=>
            some (n9,c12)
          else
            some (s6.2.2.1,s6.2.2.2)) fun (s13:((List Bool)×(List Int)))=>
        Option.bind (f49 s13.2) fun (c14:(Int×(Bool×(List Int))))=>
        some (.inl (c14.1,(c14.2.1,(s13.1,c14.2.2))))
      else
        some (.inr s6.2.2.1)) (c5.1,(c5.2.1,(n1,c5.2.2)))) fun (s15:(List Bool))=>
  some s15
noncomputable def acN:bT:=⟨aaO,fun x=>f36 x.1 x.2.1 x.2.2.1 x.2.2.2⟩
theorem Yn:bg Try.prog 36 acN:=
  aJ (T:=dw.of [(48,acF),(49,acG),(45,aa0)]) (ety:=ety) [.tmp 2] aeu Try.func36 rfl rfl rfl (show aaO.er.ok=true by decide +kernel) rfl (show aaO.aO≤Try.f36.ntmps by decide +kernel) rfl (fC.sound ⟨Ye,Yf,QH,trivial⟩) fV mixed fun x=>by kernel_rfl
noncomputable def f43 (p0:(List UInt8)) (p1 p2:Int) (p3:(List aC)):Option ((List UInt8)×(Int×(Int×(List aC)))):=
  some (p0,(p1,(p2,p3)))
noncomputable def aa1:bT:=⟨aaP,fun x=>f43 x.1 x.2.1 x.2.2.1 x.2.2.2⟩
theorem QI:bg Try.prog 43 aa1:=
  aJ (T:=dw.of [(51,Yg)]) (ety:=ety) [.tmp 2] aev Try.func43 rfl rfl rfl (show aaP.er.ok=true by decide +kernel) rfl (show aaP.aO≤Try.f43.ntmps by decide +kernel) rfl (fC.sound ⟨JW,trivial⟩) fV mixed fun x=>by kernel_rfl
noncomputable def Ij (p0:(List Int)) (p1:(List UInt8)) (p2 p3:Int) (p4:(List aC)):Option (Int×((List UInt8)×(Int×(Int×(List aC))))):=
  let n0:Int:=((List.length p0):Int)
  fQ (
    jV (fun (s1:(Int×((List UInt8)×(Int×(Int×(List aC))))))=>
      let n2:Bool:=(decide (s1.1<n0))
      bif n2 then
        ck (inB s1.1 (List.length p0)) <|
        let n3:Int:=(List.getD p0 (Int.toNat s1.1) (0:Int))
        Option.bind (f46 n3 s1.2.1 s1.2.2.1 s1.2.2.2.1 s1.2.2.2.2) fun (c4:(Bool×((List UInt8)×(Int×(Int×(List aC))))))=>
        bif c4.1 then
          some (.inr (.inr (s1.1,(c4.2.1,(c4.2.2.1,(c4.2.2.2.1,c4.2.2.2.2))))))
        else
          let n5:Int:=(jW (s1.1+(1:Int)))
          some (.inl (n5,(c4.2.1,(c4.2.2.1,(c4.2.2.2.1,c4.2.2.2.2)))))
      else
        some (.inr (.inl (s1.2.1,(s1.2.2.1,(s1.2.2.2.1,s1.2.2.2.2)))))) ((0:Int),(p1,(p2,(p3,p4))))) fun (s6:((List UInt8)×(Int×(Int×(List aC)))))=>
  some ((-1:Int),(s6.1,(s6.2.1,(s6.2.2.1,s6.2.2.2))))
noncomputable def FP:bT:=⟨xZ,fun x=>Ij x.1 x.2.1 x.2.2.1 x.2.2.2.1 x.2.2.2.2⟩
theorem Gx:bg Try.prog 50 FP:=
  aJ (T:=dw.of [(46,Yc)]) (ety:=ety) [.tmp 4] OV Try.func50 rfl rfl rfl (show xZ.er.ok=true by decide +kernel) rfl (show xZ.aO≤Try.f50.ntmps by decide +kernel) rfl (fC.sound ⟨JV,trivial⟩) fV mixed fun x=>by kernel_rfl
noncomputable def Ik (p0:(List Int)) (p1:(List UInt8)) (p2 p3:Int) (p4:(List aC)):Option (Int×((List UInt8)×(Int×(Int×(List aC))))):=
  let n0:Int:=((List.length p0):Int)
  fQ (
    jV (fun (s1:(Int×((List UInt8)×(Int×(Int×(List aC))))))=>
      let n2:Bool:=(decide (s1.1<n0))
      bif n2 then
        ck (inB s1.1 (List.length p0)) <|
        let n3:Int:=(List.getD p0 (Int.toNat s1.1) (0:Int))
        Option.bind (f51 n3 s1.2.1 s1.2.2.1 s1.2.2.2.1 s1.2.2.2.2) fun (c4:(Bool×((List UInt8)×(Int×(Int×(List aC))))))=>
        bif c4.1 then
          some (.inr (.inr (s1.1,(c4.2.1,(c4.2.2.1,(c4.2.2.2.1,c4.2.2.2.2))))))
        else
          let n5:Int:=(jW (s1.1+(1:Int)))
          some (.inl (n5,(c4.2.1,(c4.2.2.1,(c4.2.2.2.1,c4.2.2.2.2)))))
      else
        some (.inr (.inl (s1.2.1,(s1.2.2.1,(s1.2.2.2.1,s1.2.2.2.2)))))) ((0:Int),(p1,(p2,(p3,p4))))) fun (s6:((List UInt8)×(Int×(Int×(List aC)))))=>
  some ((-1:Int),(s6.1,(s6.2.1,(s6.2.2.1,s6.2.2.2))))
noncomputable def FQ:bT:=⟨x9,fun x=>Ik x.1 x.2.1 x.2.2.1 x.2.2.2.1 x.2.2.2.2⟩
theorem Gy:bg Try.prog 50 FQ:=
  aJ (T:=dw.of [(51,Yg)]) (ety:=ety) [.tmp 4] OW Try.func50 rfl rfl rfl (show x9.er.ok=true by decide +kernel) rfl (show x9.aO≤Try.f50.ntmps by decide +kernel) rfl (fC.sound ⟨JW,trivial⟩) fV mixed fun x=>by kernel_rfl
noncomputable def f20 (p0 p1 p2 p3 p4 p5:Int) (p6:(List Int)) (p7:(List aG)) (p8:(List au)) (p9 p10:Int) (p11:(List Int)) (p12 p13 qJ kW p16 su:Int) (bG:(List ah)) (kZ:(List (List Int))) (CP:(List Int)) (Dj:(List aj)) (zI:(List Int)):Option ((List aG)×((List au)×(Int×(Int×((List Int)×(Int×(Int×(Int×(Int×(Int×(Int×((List (List Int))×((List aj)×((List Int)×((List ah)×(List Int)))))))))))))))):=
  Option.bind (
    let n0:Int:=((List.length bG):Int)
    let n1:Int:=(jW (n0-(1:Int)))
    ck (inB n1 (List.length bG)) <|
    fQ (
      let n2:Bool:=(decide (p0=(1:Int)))
      bif n2 then
        fQ (
          ck (inB p2 (List.length (List.getD bG (Int.toNat ((Int.toNat n1):Int)) (ah.mk (0:Int) (0:Int) (0:Int) ([]:(List Int)) (0:Int))).regs)) <|
          let n3:(List Int):=(List.set (List.getD bG (Int.toNat ((Int.toNat n1):Int)) (ah.mk (0:Int) (0:Int) (0:Int) ([]:(List Int)) (0:Int))).regs (Int.toNat ((Int.toNat p2):Int)) p5)
          some (.inl (p7,(p8,(p9,(p10,(p11,(p12,(p13,(qJ,(kW,(p16,(su,(kZ,(Dj,(zI,((List.set bG (Int.toNat ((Int.toNat n1):Int)) (ah.mk (List.getD bG (Int.toNat ((Int.toNat n1):Int)) (ah.mk (0:Int) (0:Int) (0:Int) ([]:(List Int)) (0:Int))).fn (List.getD bG (Int.toNat ((Int.toNat n1):Int)) (ah.mk (0:Int) (0:Int) (0:Int) ([]:(List Int)) (0:Int))).block (List.getD bG (Int.toNat ((Int.toNat n1):Int)) (ah.mk (0:Int) (0:Int) (0:Int) ([]:(List Int)) (0:Int))).at' n3 (List.getD bG (Int.toNat ((Int.toNat n1):Int)) (ah.mk (0:Int) (0:Int) (0:Int) ([]:(List Int)) (0:Int))).dst)),CP))))))))))))))))) fun (s4:((List aG)×((List au)×(Int×(Int×((List Int)×(Int×(Int×(Int×(Int×(Int×(Int×((List (List Int))×((List aj)×((List Int)×((List ah)×(List Int)))))))))))))))))=>
        some (.inl (s4.1,(s4.2.1,(s4.2.2.1,(s4.2.2.2.1,(s4.2.2.2.2.1,(s4.2.2.2.2.2.1,(s4.2.2.2.2.2.2.1,(s4.2.2.2.2.2.2.2.1,(s4.2.2.2.2.2.2.2.2.1,(s4.2.2.2.2.2.2.2.2.2.1,(s4.2.2.2.2.2.2.2.2.2.2.1,(s4.2.2.2.2.2.2.2.2.2.2.2.1,(s4.2.2.2.2.2.2.2.2.2.2.2.2.1,(s4.2.2.2.2.2.2.2.2.2.2.2.2.2.1,(s4.2.2.2.2.2.2.2.2.2.2.2.2.2.2.1,s4.2.2.2.2.2.2.2.2.2.2.2.2.2.2.2))))))))))))))))
      else
        let n5:Bool:=(decide (p0=(14:Int)))
        fQ (
          bif n5 then
            ck (inB p2 (List.length (List.getD bG (Int.toNat ((Int.toNat n1):Int)) (ah.mk (0:Int) (0:Int) (0:Int) ([]:(List Int)) (0:Int))).regs)) <|
            let n6:(List Int):=(List.set (List.getD bG (Int.toNat ((Int.toNat n1):Int)) (ah.mk (0:Int) (0:Int) (0:Int) ([]:(List Int)) (0:Int))).regs (Int.toNat ((Int.toNat p2):Int)) p5)
            some (.inl (p7,(p8,(p9,(p10,(p11,(p12,(p13,(qJ,(kW,(p16,(su,(kZ,(Dj,(zI,((List.set bG (Int.toNat ((Int.toNat n1):Int)) (ah.mk (List.getD bG (Int.toNat ((Int.toNat n1):Int)) (ah.mk (0:Int) (0:Int) (0:Int) ([]:(List Int)) (0:Int))).fn (List.getD bG (Int.toNat ((Int.toNat n1):Int)) (ah.mk (0:Int) (0:Int) (0:Int) ([]:(List Int)) (0:Int))).block (List.getD bG (Int.toNat ((Int.toNat n1):Int)) (ah.mk (0:Int) (0:Int) (0:Int) ([]:(List Int)) (0:Int))).at' n6 (List.getD bG (Int.toNat ((Int.toNat n1):Int)) (ah.mk (0:Int) (0:Int) (0:Int) ([]:(List Int)) (0:Int))).dst)),CP))))))))))))))))
          else
            let n7:Bool:=(decide (p0=(2:Int)))
            fQ (
              bif n7 then
                ck (inB p3 (List.length (List.getD bG (Int.toNat ((Int.toNat n1):Int)) (ah.mk (0:Int) (0:Int) (0:Int) ([]:(List Int)) (0:Int))).regs)) <|
                let n8:Int:=(List.getD (List.getD bG (Int.toNat ((Int.toNat n1):Int)) (ah.mk (0:Int) (0:Int) (0:Int) ([]:(List Int)) (0:Int))).regs (Int.toNat ((Int.toNat p3):Int)) (0:Int))
                ck (inB p2 (List.length (List.getD bG (Int.toNat ((Int.toNat n1):Int)) (ah.mk (0:Int) (0:Int) (0:Int) ([]:(List Int)) (0:Int))).regs)) <|
                let n9:(List Int):=(List.set (List.getD bG (Int.toNat ((Int.toNat n1):Int)) (ah.mk (0:Int) (0:Int) (0:Int) ([]:(List Int)) (0:Int))).regs (Int.toNat ((Int.toNat p2):Int)) n8)
                some (.inl (p7,(p8,(p9,(p10,(p11,(p12,(p13,(qJ,(kW,(p16,(su,(kZ,(Dj,(zI,((List.set bG (Int.toNat ((Int.toNat n1):Int)) (ah.mk (List.getD bG (Int.toNat ((Int.toNat n1):Int)) (ah.mk (0:Int) (0:Int) (0:Int) ([]:(List Int)) (0:Int))).fn (List.getD bG (Int.toNat ((Int.toNat n1):Int)) (ah.mk (0:Int) (0:Int) (0:Int) ([]:(List Int)) (0:Int))).block (List.getD bG (Int.toNat ((Int.toNat n1):Int)) (ah.mk (0:Int) (0:Int) (0:Int) ([]:(List Int)) (0:Int))).at' n9 (List.getD bG (Int.toNat ((Int.toNat n1):Int)) (ah.mk (0:Int) (0:Int) (0:Int) ([]:(List Int)) (0:Int))).dst)),CP))))))))))))))))
              else
                let n10:Bool:=(decide (p0=(3:Int)))
                fQ (
                  bif n10 then
                    ck (inB p3 (List.length (List.getD bG (Int.toNat ((Int.toNat n1):Int)) (ah.mk (0:Int) (0:Int) (0:Int) ([]:(List Int)) (0:Int))).regs)) <|
                    let n11:Int:=(List.getD (List.getD bG (Int.toNat ((Int.toNat n1):Int)) (ah.mk (0:Int) (0:Int) (0:Int) ([]:(List Int)) (0:Int))).regs (Int.toNat ((Int.toNat p3):Int)) (0:Int))
                    Option.bind (f27 p1 n11) fun (c12:Int)=>
                    ck (inB p2 (List.length (List.getD bG (Int.toNat ((Int.toNat n1):Int)) (ah.mk (0:Int) (0:Int) (0:Int) ([]:(List Int)) (0:Int))).regs)) <|
                    let n13:(List Int):=(List.set (List.getD bG (Int.toNat ((Int.toNat n1):Int)) (ah.mk (0:Int) (0:Int) (0:Int) ([]:(List Int)) (0:Int))).regs (Int.toNat ((Int.toNat p2):Int)) c12)
                    some (.inl (p7,(p8,(p9,(p10,(p11,(p12,(p13,(qJ,(kW,(p16,(su,(kZ,(Dj,(zI,((List.set bG (Int.toNat ((Int.toNat n1):Int)) (ah.mk (List.getD bG (Int.toNat ((Int.toNat n1):Int)) (ah.mk (0:Int) (0:Int) (0:Int) ([]:(List Int)) (0:Int))).fn (List.getD bG (Int.toNat ((Int.toNat n1):Int)) (ah.mk (0:Int) (0:Int) (0:Int) ([]:(List Int)) (0:Int))).block (List.getD bG (Int.toNat ((Int.toNat n1):Int)) (ah.mk (0:Int) (0:Int) (0:Int) ([]:(List Int)) (0:Int))).at' n13 (List.getD bG (Int.toNat ((Int.toNat n1):Int)) (ah.mk (0:Int) (0:Int) (0:Int) ([]:(List Int)) (0:Int))).dst)),CP))))))))))))))))
                  else
                    let n14:Bool:=(decide (p0=(4:Int)))
                    fQ (
                      bif n14 then
                        ck (inB p3 (List.length (List.getD bG (Int.toNat ((Int.toNat n1):Int)) (ah.mk (0:Int) (0:Int) (0:Int) ([]:(List Int)) (0:Int))).regs)) <|
                        let n15:Int:=(List.getD (List.getD bG (Int.toNat ((Int.toNat n1):Int)) (ah.mk (0:Int) (0:Int) (0:Int) ([]:(List Int)) (0:Int))).regs (Int.toNat ((Int.toNat p3):Int)) (0:Int))
                        ck (inB p4 (List.length (List.getD bG (Int.toNat ((Int.toNat n1):Int)) (ah.mk (0:Int) (0:Int) (0:Int) ([]:(List Int)) (0:Int))).regs)) <|
                        let n16:Int:=(List.getD (List.getD bG (Int.toNat ((Int.toNat n1):Int)) (ah.mk (0:Int) (0:Int) (0:Int) ([]:(List Int)) (0:Int))).regs (Int.toNat ((Int.toNat p4):Int)) (0:Int))
                        Option.bind (f28 p1 n15 n16) fun (c17:(Int×Bool))=>
                        let n18:Bool:=(!c17.2)
                        bif n18 then
                          Option.bind (f29 (1:Int) p7 p8 p9 p10 p11 p12 p13 qJ kW p16 su (List.set bG (Int.toNat ((Int.toNat n1):Int)) (ah.mk (List.getD bG (Int.toNat ((Int.toNat n1):Int)) (ah.mk (0:Int) (0:Int) (0:Int) ([]:(List Int)) (0:Int))).fn (List.getD bG (Int.toNat ((Int.toNat n1):Int)) (ah.mk (0:Int) (0:Int) (0:Int) ([]:(List Int)) (0:Int))).block (List.getD bG (Int.toNat ((Int.toNat n1):Int)) (ah.mk (0:Int) (0:Int) (0:Int) ([]:(List Int)) (0:Int))).at' (List.getD bG (Int.toNat ((Int.toNat n1):Int)) (ah.mk (0:Int) (0:Int) (0:Int) ([]:(List Int)) (0:Int))).regs (List.getD bG (Int.toNat ((Int.toNat n1):Int)) (ah.mk (0:Int) (0:Int) (0:Int) ([]:(List Int)) (0:Int))).dst)) kZ CP Dj zI) fun (c19:((List aG)×((List au)×(Int×(Int×((List Int)×(Int×(Int×(Int×(Int×(Int×(Int×((List ah)×((List (List Int))×((List Int)×((List aj)×(List Int)))))))))))))))))=>
                          some (.inr (.inr (.inr (.inr (.inr (c19.1,(c19.2.1,(c19.2.2.1,(c19.2.2.2.1,(c19.2.2.2.2.1,(c19.2.2.2.2.2.1,(c19.2.2.2.2.2.2.1,(c19.2.2.2.2.2.2.2.1,(c19.2.2.2.2.2.2.2.2.1,(c19.2.2.2.2.2.2.2.2.2.1,(c19.2.2.2.2.2.2.2.2.2.2.1,(c19.2.2.2.2.2.2.2.2.2.2.2.2.1,(c19.2.2.2.2.2.2.2.2.2.2.2.2.2.2.1,(c19.2.2.2.2.2.2.2.2.2.2.2.2.2.2.2,(c19.2.2.2.2.2.2.2.2.2.2.2.1,c19.2.2.2.2.2.2.2.2.2.2.2.2.2.1))))))))))))))))))))
                        else
                          ck (inB p2 (List.length (List.getD bG (Int.toNat ((Int.toNat n1):Int)) (ah.mk (0:Int) (0:Int) (0:Int) ([]:(List Int)) (0:Int))).regs)) <|
                          let n20:(List Int):=(List.set (List.getD bG (Int.toNat ((Int.toNat n1):Int)) (ah.mk (0:Int) (0:Int) (0:Int) ([]:(List Int)) (0:Int))).regs (Int.toNat ((Int.toNat p2):Int)) c17.1)
                          some (.inl (p7,(p8,(p9,(p10,(p11,(p12,(p13,(qJ,(kW,(p16,(su,(kZ,(Dj,(zI,((List.set bG (Int.toNat ((Int.toNat n1):Int)) (ah.mk (List.getD bG (Int.toNat ((Int.toNat n1):Int)) (ah.mk (0:Int) (0:Int) (0:Int) ([]:(List Int)) (0:Int))).fn (List.getD bG (Int.toNat ((Int.toNat n1):Int)) (ah.mk (0:Int) (0:Int) (0:Int) ([]:(List Int)) (0:Int))).block (List.getD bG (Int.toNat ((Int.toNat n1):Int)) (ah.mk (0:Int) (0:Int) (0:Int) ([]:(List Int)) (0:Int))).at' n20 (List.getD bG (Int.toNat ((Int.toNat n1):Int)) (ah.mk (0:Int) (0:Int) (0:Int) ([]:(List Int)) (0:Int))).dst)),CP))))))))))))))))
                      else
                        let n21:Bool:=(decide (p0=(5:Int)))
                        fQ (
                          bif n21 then
                            ck (inB p5 (List.length kZ)) <|
                            ck (inB (0:Int) (List.length (List.getD kZ (Int.toNat ((Int.toNat p5):Int)) ([]:(List Int))))) <|
                            let n22:Int:=(List.getD (List.getD kZ (Int.toNat ((Int.toNat p5):Int)) ([]:(List Int))) (Int.toNat ((Int.toNat (0:Int)):Int)) (0:Int))
                            ck (inB p2 (List.length (List.getD bG (Int.toNat ((Int.toNat n1):Int)) (ah.mk (0:Int) (0:Int) (0:Int) ([]:(List Int)) (0:Int))).regs)) <|
                            let n23:(List Int):=(List.set (List.getD bG (Int.toNat ((Int.toNat n1):Int)) (ah.mk (0:Int) (0:Int) (0:Int) ([]:(List Int)) (0:Int))).regs (Int.toNat ((Int.toNat p2):Int)) n22)
                            some (.inl (p7,(p8,(p9,(p10,(p11,(p12,(p13,(qJ,(kW,(p16,(su,((List.set kZ (Int.toNat ((Int.toNat p5):Int)) (List.getD kZ (Int.toNat ((Int.toNat p5):Int)) ([]:(List Int)))),(Dj,(zI,((List.set bG (Int.toNat ((Int.toNat n1):Int)) (ah.mk (List.getD bG (Int.toNat ((Int.toNat n1):Int)) (ah.mk (0:Int) (0:Int) (0:Int) ([]:(List Int)) (0:Int))).fn (List.getD bG (Int.toNat ((Int.toNat n1):Int)) (ah.mk (0:Int) (0:Int) (0:Int) ([]:(List Int)) (0:Int))).block (List.getD bG (Int.toNat ((Int.toNat n1):Int)) (ah.mk (0:Int) (0:Int) (0:Int) ([]:(List Int)) (0:Int))).at' n23 (List.getD bG (Int.toNat ((Int.toNat n1):Int)) (ah.mk (0:Int) (0:Int) (0:Int) ([]:(List Int)) (0:Int))).dst)),CP))))))))))))))))
                          else
                            let n24:Bool:=(decide (p0=(6:Int)))
                            fQ (
                              bif n24 then
                                ck (inB p5 (List.length kZ)) <|
                                ck (inB p3 (List.length (List.getD bG (Int.toNat ((Int.toNat n1):Int)) (ah.mk (0:Int) (0:Int) (0:Int) ([]:(List Int)) (0:Int))).regs)) <|
                                let n25:Int:=(List.getD (List.getD bG (Int.toNat ((Int.toNat n1):Int)) (ah.mk (0:Int) (0:Int) (0:Int) ([]:(List Int)) (0:Int))).regs (Int.toNat ((Int.toNat p3):Int)) (0:Int))
                                ck (inB (0:Int) (List.length (List.getD kZ (Int.toNat ((Int.toNat p5):Int)) ([]:(List Int))))) <|
                                let n26:(List Int):=(List.set (List.getD kZ (Int.toNat ((Int.toNat p5):Int)) ([]:(List Int))) (Int.toNat ((Int.toNat (0:Int)):Int)) n25)
                                some (.inl (p7,(p8,(p9,(p10,(p11,(p12,(p13,(qJ,(kW,(p16,(su,((List.set kZ (Int.toNat ((Int.toNat p5):Int)) n26),(Dj,(zI,((List.set bG (Int.toNat ((Int.toNat n1):Int)) (ah.mk (List.getD bG (Int.toNat ((Int.toNat n1):Int)) (ah.mk (0:Int) (0:Int) (0:Int) ([]:(List Int)) (0:Int))).fn (List.getD bG (Int.toNat ((Int.toNat n1):Int)) (ah.mk (0:Int) (0:Int) (0:Int) ([]:(List Int)) (0:Int))).block (List.getD bG (Int.toNat ((Int.toNat n1):Int)) (ah.mk (0:Int) (0:Int) (0:Int) ([]:(List Int)) (0:Int))).at' (List.getD bG (Int.toNat ((Int.toNat n1):Int)) (ah.mk (0:Int) (0:Int) (0:Int) ([]:(List Int)) (0:Int))).regs (List.getD bG (Int.toNat ((Int.toNat n1):Int)) (ah.mk (0:Int) (0:Int) (0:Int) ([]:(List Int)) (0:Int))).dst)),CP))))))))))))))))
                              else
                                let n27:Bool:=(decide (p0=(7:Int)))
                                bif n27 then
                                  fQ (
                                    ck (inB p5 (List.length kZ)) <|
                                    ck (inB p3 (List.length (List.getD bG (Int.toNat ((Int.toNat n1):Int)) (ah.mk (0:Int) (0:Int) (0:Int) ([]:(List Int)) (0:Int))).regs)) <|
                                    let n28:Int:=(List.getD (List.getD bG (Int.toNat ((Int.toNat n1):Int)) (ah.mk (0:Int) (0:Int) (0:Int) ([]:(List Int)) (0:Int))).regs (Int.toNat ((Int.toNat p3):Int)) (0:Int))
                                    let n29:Bool:=(decide (n28<(0:Int)))
                                    bif n29 then
                                      Option.bind (f29 (2:Int) p7 p8 p9 p10 p11 p12 p13 qJ kW p16 su (List.set bG (Int.toNat ((Int.toNat n1):Int)) (ah.mk (List.getD bG (Int.toNat ((Int.toNat n1):Int)) (ah.mk (0:Int) (0:Int) (0:Int) ([]:(List Int)) (0:Int))).fn (List.getD bG (Int.toNat ((Int.toNat n1):Int)) (ah.mk (0:Int) (0:Int) (0:Int) ([]:(List Int)) (0:Int))).block (List.getD bG (Int.toNat ((Int.toNat n1):Int)) (ah.mk (0:Int) (0:Int) (0:Int) ([]:(List Int)) (0:Int))).at' (List.getD bG (Int.toNat ((Int.toNat n1):Int)) (ah.mk (0:Int) (0:Int) (0:Int) ([]:(List Int)) (0:Int))).regs (List.getD bG (Int.toNat ((Int.toNat n1):Int)) (ah.mk (0:Int) (0:Int) (0:Int) ([]:(List Int)) (0:Int))).dst)) (List.set kZ (Int.toNat ((Int.toNat p5):Int)) (List.getD kZ (Int.toNat ((Int.toNat p5):Int)) ([]:(List Int)))) CP Dj zI) fun (Nl:((List aG)×((List au)×(Int×(Int×((List Int)×(Int×(Int×(Int×(Int×(Int×(Int×((List ah)×((List (List Int))×((List Int)×((List aj)×(List Int)))))))))))))))))=>
                                      some (.inr (.inr (.inr (.inr (.inr (.inr (.inr (.inr (Nl.1,(Nl.2.1,(Nl.2.2.1,(Nl.2.2.2.1,(Nl.2.2.2.2.1,(Nl.2.2.2.2.2.1,(Nl.2.2.2.2.2.2.1,(Nl.2.2.2.2.2.2.2.1,(Nl.2.2.2.2.2.2.2.2.1,(Nl.2.2.2.2.2.2.2.2.2.1,(Nl.2.2.2.2.2.2.2.2.2.2.1,(Nl.2.2.2.2.2.2.2.2.2.2.2.2.1,(Nl.2.2.2.2.2.2.2.2.2.2.2.2.2.2.1,(Nl.2.2.2.2.2.2.2.2.2.2.2.2.2.2.2,(Nl.2.2.2.2.2.2.2.2.2.2.2.1,Nl.2.2.2.2.2.2.2.2.2.2.2.2.2.1)))))))))))))))))))))))
                                    else
                                      ck (inB p3 (List.length (List.getD bG (Int.toNat ((Int.toNat n1):Int)) (ah.mk (0:Int) (0:Int) (0:Int) ([]:(List Int)) (0:Int))).regs)) <|
                                      let n31:Int:=(List.getD (List.getD bG (Int.toNat ((Int.toNat n1):Int)) (ah.mk (0:Int) (0:Int) (0:Int) ([]:(List Int)) (0:Int))).regs (Int.toNat ((Int.toNat p3):Int)) (0:Int))
                                      let n32:Int:=((List.length (List.getD kZ (Int.toNat ((Int.toNat p5):Int)) ([]:(List Int)))):Int)
                                      let n33:Bool:=(decide (n32≤n31))
                                      let n34:Bool:=n33
                                      bif n34 then
                                        Option.bind (f29 (2:Int) p7 p8 p9 p10 p11 p12 p13 qJ kW p16 su (List.set bG (Int.toNat ((Int.toNat n1):Int)) (ah.mk (List.getD bG (Int.toNat ((Int.toNat n1):Int)) (ah.mk (0:Int) (0:Int) (0:Int) ([]:(List Int)) (0:Int))).fn (List.getD bG (Int.toNat ((Int.toNat n1):Int)) (ah.mk (0:Int) (0:Int) (0:Int) ([]:(List Int)) (0:Int))).block (List.getD bG (Int.toNat ((Int.toNat n1):Int)) (ah.mk (0:Int) (0:Int) (0:Int) ([]:(List Int)) (0:Int))).at' (List.getD bG (Int.toNat ((Int.toNat n1):Int)) (ah.mk (0:Int) (0:Int) (0:Int) ([]:(List Int)) (0:Int))).regs (List.getD bG (Int.toNat ((Int.toNat n1):Int)) (ah.mk (0:Int) (0:Int) (0:Int) ([]:(List Int)) (0:Int))).dst)) (List.set kZ (Int.toNat ((Int.toNat p5):Int)) (List.getD kZ (Int.toNat ((Int.toNat p5):Int)) ([]:(List Int)))) CP Dj zI) fun (vI:((List aG)×((List au)×(Int×(Int×((List Int)×(Int×(Int×(Int×(Int×(Int×(Int×((List ah)×((List (List Int))×((List Int)×((List aj)×(List Int)))))))))))))))))=>
                                        some (.inr (.inr (.inr (.inr (.inr (.inr (.inr (.inr (vI.1,(vI.2.1,(vI.2.2.1,(vI.2.2.2.1,(vI.2.2.2.2.1,(vI.2.2.2.2.2.1,(vI.2.2.2.2.2.2.1,(vI.2.2.2.2.2.2.2.1,(vI.2.2.2.2.2.2.2.2.1,(vI.2.2.2.2.2.2.2.2.2.1,(vI.2.2.2.2.2.2.2.2.2.2.1,(vI.2.2.2.2.2.2.2.2.2.2.2.2.1,(vI.2.2.2.2.2.2.2.2.2.2.2.2.2.2.1,(vI.2.2.2.2.2.2.2.2.2.2.2.2.2.2.2,(vI.2.2.2.2.2.2.2.2.2.2.2.1,vI.2.2.2.2.2.2.2.2.2.2.2.2.2.1)))))))))))))))))))))))
                                      else
                                        let n36:Bool:=(decide (p0=(7:Int)))
                                        Option.bind (
                                          bif n36 then
                                            ck (inB p3 (List.length (List.getD bG (Int.toNat ((Int.toNat n1):Int)) (ah.mk (0:Int) (0:Int) (0:Int) ([]:(List Int)) (0:Int))).regs)) <|
                                            let n37:Int:=(List.getD (List.getD bG (Int.toNat ((Int.toNat n1):Int)) (ah.mk (0:Int) (0:Int) (0:Int) ([]:(List Int)) (0:Int))).regs (Int.toNat ((Int.toNat p3):Int)) (0:Int))
                                            ck (inB n37 (List.length (List.getD kZ (Int.toNat ((Int.toNat p5):Int)) ([]:(List Int))))) <|
                                            let n38:Int:=(List.getD (List.getD kZ (Int.toNat ((Int.toNat p5):Int)) ([]:(List Int))) (Int.toNat ((Int.toNat n37):Int)) (0:Int))
                                            ck (inB p2 (List.length (List.getD bG (Int.toNat ((Int.toNat n1):Int)) (ah.mk (0:Int) (0:Int) (0:Int) ([]:(List Int)) (0:Int))).regs)) <|
                                            let n39:(List Int):=(List.set (List.getD bG (Int.toNat ((Int.toNat n1):Int)) (ah.mk (0:Int) (0:Int) (0:Int) ([]:(List Int)) (0:Int))).regs (Int.toNat ((Int.toNat p2):Int)) n38)
                                            some ((List.set kZ (Int.toNat ((Int.toNat p5):Int)) (List.getD kZ (Int.toNat ((Int.toNat p5):Int)) ([]:(List Int)))),(List.set bG (Int.toNat ((Int.toNat n1):Int)) (ah.mk (List.getD bG (Int.toNat ((Int.toNat n1):Int)) (ah.mk (0:Int) (0:Int) (0:Int) ([]:(List Int)) (0:Int))).fn (List.getD bG (Int.toNat ((Int.toNat n1):Int)) (ah.mk (0:Int) (0:Int) (0:Int) ([]:(List Int)) (0:Int))).block (List.getD bG (Int.toNat ((Int.toNat n1):Int)) (ah.mk (0:Int) (0:Int) (0:Int) ([]:(List Int)) (0:Int))).at' n39 (List.getD bG (Int.toNat ((Int.toNat n1):Int)) (ah.mk (0:Int) (0:Int) (0:Int) ([]:(List Int)) (0:Int))).dst)))
                                          else
                                            ck (inB p3 (List.length (List.getD bG (Int.toNat ((Int.toNat n1):Int)) (ah.mk (0:Int) (0:Int) (0:Int) ([]:(List Int)) (0:Int))).regs)) <|
                                            let n40:Int:=(List.getD (List.getD bG (Int.toNat ((Int.toNat n1):Int)) (ah.mk (0:Int) (0:Int) (0:Int) ([]:(List Int)) (0:Int))).regs (Int.toNat ((Int.toNat p3):Int)) (0:Int))
                                            ck (inB p4 (List.length (List.getD bG (Int.toNat ((Int.toNat n1):Int)) (ah.mk (0:Int) (0:Int) (0:Int) ([]:(List Int)) (0:Int))).regs)) <|
                                            let n41:Int:=(List.getD (List.getD bG (Int.toNat ((Int.toNat n1):Int)) (ah.mk (0:Int) (0:Int) (0:Int) ([]:(List Int)) (0:Int))).regs (Int.toNat ((Int.toNat p4):Int)) (0:Int))
                                            ck (inB n40 (List.length (List.getD kZ (Int.toNat ((Int.toNat p5):Int)) ([]:(List Int))))) <|
                                            let n42:(List Int):=(List.set (List.getD kZ (Int.toNat ((Int.toNat p5):Int)) ([]:(List Int))) (Int.toNat ((Int.toNat n40):Int)) n41)
                                            some ((List.set kZ (Int.toNat ((Int.toNat p5):Int)) n42),(List.set bG (Int.toNat ((Int.toNat n1):Int)) (ah.mk (List.getD bG (Int.toNat ((Int.toNat n1):Int)) (ah.mk (0:Int) (0:Int) (0:Int) ([]:(List Int)) (0:Int))).fn (List.getD bG (Int.toNat ((Int.toNat n1):Int)) (ah.mk (0:Int) (0:Int) (0:Int) ([]:(List Int)) (0:Int))).block (List.getD bG (Int.toNat ((Int.toNat n1):Int)) (ah.mk (0:Int) (0:Int) (0:Int) ([]:(List Int)) (0:Int))).at' (List.getD bG (Int.toNat ((Int.toNat n1):Int)) (ah.mk (0:Int) (0:Int) (0:Int) ([]:(List Int)) (0:Int))).regs (List.getD bG (Int.toNat ((Int.toNat n1):Int)) (ah.mk (0:Int) (0:Int) (0:Int) ([]:(List Int)) (0:Int))).dst)))) fun (s43:((List (List Int))×(List ah)))=>
                                        some (.inl (p7,(p8,(p9,(p10,(p11,(p12,(p13,(qJ,(kW,(p16,(su,(s43.1,(Dj,(zI,(s43.2,CP))))))))))))))))) fun (s44:((List aG)×((List au)×(Int×(Int×((List Int)×(Int×(Int×(Int×(Int×(Int×(Int×((List (List Int))×((List aj)×((List Int)×((List ah)×(List Int)))))))))))))))))=>
                                  some (.inl (s44.1,(s44.2.1,(s44.2.2.1,(s44.2.2.2.1,(s44.2.2.2.2.1,(s44.2.2.2.2.2.1,(s44.2.2.2.2.2.2.1,(s44.2.2.2.2.2.2.2.1,(s44.2.2.2.2.2.2.2.2.1,(s44.2.2.2.2.2.2.2.2.2.1,(s44.2.2.2.2.2.2.2.2.2.2.1,(s44.2.2.2.2.2.2.2.2.2.2.2.1,(s44.2.2.2.2.2.2.2.2.2.2.2.2.1,(s44.2.2.2.2.2.2.2.2.2.2.2.2.2.1,(s44.2.2.2.2.2.2.2.2.2.2.2.2.2.2.1,s44.2.2.2.2.2.2.2.2.2.2.2.2.2.2.2))))))))))))))))
                                else
                                  let n45:Bool:=(decide (p0=(8:Int)))
                                  fQ (
                                    bif n45 then
                                      ck (inB p5 (List.length kZ)) <|
                                      ck (inB p3 (List.length (List.getD bG (Int.toNat ((Int.toNat n1):Int)) (ah.mk (0:Int) (0:Int) (0:Int) ([]:(List Int)) (0:Int))).regs)) <|
                                      let n46:Int:=(List.getD (List.getD bG (Int.toNat ((Int.toNat n1):Int)) (ah.mk (0:Int) (0:Int) (0:Int) ([]:(List Int)) (0:Int))).regs (Int.toNat ((Int.toNat p3):Int)) (0:Int))
                                      let n47:Bool:=(decide (n46<(0:Int)))
                                      bif n47 then
                                        Option.bind (f29 (2:Int) p7 p8 p9 p10 p11 p12 p13 qJ kW p16 su (List.set bG (Int.toNat ((Int.toNat n1):Int)) (ah.mk (List.getD bG (Int.toNat ((Int.toNat n1):Int)) (ah.mk (0:Int) (0:Int) (0:Int) ([]:(List Int)) (0:Int))).fn (List.getD bG (Int.toNat ((Int.toNat n1):Int)) (ah.mk (0:Int) (0:Int) (0:Int) ([]:(List Int)) (0:Int))).block (List.getD bG (Int.toNat ((Int.toNat n1):Int)) (ah.mk (0:Int) (0:Int) (0:Int) ([]:(List Int)) (0:Int))).at' (List.getD bG (Int.toNat ((Int.toNat n1):Int)) (ah.mk (0:Int) (0:Int) (0:Int) ([]:(List Int)) (0:Int))).regs (List.getD bG (Int.toNat ((Int.toNat n1):Int)) (ah.mk (0:Int) (0:Int) (0:Int) ([]:(List Int)) (0:Int))).dst)) (List.set kZ (Int.toNat ((Int.toNat p5):Int)) (List.getD kZ (Int.toNat ((Int.toNat p5):Int)) ([]:(List Int)))) CP Dj zI) fun (JX:((List aG)×((List au)×(Int×(Int×((List Int)×(Int×(Int×(Int×(Int×(Int×(Int×((List ah)×((List (List Int))×((List Int)×((List aj)×(List Int)))))))))))))))))=>
                                        some (.inr (.inr (.inr (.inr (.inr (.inr (.inr (.inr (JX.1,(JX.2.1,(JX.2.2.1,(JX.2.2.2.1,(JX.2.2.2.2.1,(JX.2.2.2.2.2.1,(JX.2.2.2.2.2.2.1,(JX.2.2.2.2.2.2.2.1,(JX.2.2.2.2.2.2.2.2.1,(JX.2.2.2.2.2.2.2.2.2.1,(JX.2.2.2.2.2.2.2.2.2.2.1,(JX.2.2.2.2.2.2.2.2.2.2.2.2.1,(JX.2.2.2.2.2.2.2.2.2.2.2.2.2.2.1,(JX.2.2.2.2.2.2.2.2.2.2.2.2.2.2.2,(JX.2.2.2.2.2.2.2.2.2.2.2.1,JX.2.2.2.2.2.2.2.2.2.2.2.2.2.1)))))))))))))))))))))))
                                      else
                                        ck (inB p3 (List.length (List.getD bG (Int.toNat ((Int.toNat n1):Int)) (ah.mk (0:Int) (0:Int) (0:Int) ([]:(List Int)) (0:Int))).regs)) <|
                                        let n49:Int:=(List.getD (List.getD bG (Int.toNat ((Int.toNat n1):Int)) (ah.mk (0:Int) (0:Int) (0:Int) ([]:(List Int)) (0:Int))).regs (Int.toNat ((Int.toNat p3):Int)) (0:Int))
                                        let n50:Int:=((List.length (List.getD kZ (Int.toNat ((Int.toNat p5):Int)) ([]:(List Int)))):Int)
                                        let n51:Bool:=(decide (n50≤n49))
                                        let n52:Bool:=n51
                                        bif n52 then
                                          Option.bind (f29 (2:Int) p7 p8 p9 p10 p11 p12 p13 qJ kW p16 su (List.set bG (Int.toNat ((Int.toNat n1):Int)) (ah.mk (List.getD bG (Int.toNat ((Int.toNat n1):Int)) (ah.mk (0:Int) (0:Int) (0:Int) ([]:(List Int)) (0:Int))).fn (List.getD bG (Int.toNat ((Int.toNat n1):Int)) (ah.mk (0:Int) (0:Int) (0:Int) ([]:(List Int)) (0:Int))).block (List.getD bG (Int.toNat ((Int.toNat n1):Int)) (ah.mk (0:Int) (0:Int) (0:Int) ([]:(List Int)) (0:Int))).at' (List.getD bG (Int.toNat ((Int.toNat n1):Int)) (ah.mk (0:Int) (0:Int) (0:Int) ([]:(List Int)) (0:Int))).regs (List.getD bG (Int.toNat ((Int.toNat n1):Int)) (ah.mk (0:Int) (0:Int) (0:Int) ([]:(List Int)) (0:Int))).dst)) (List.set kZ (Int.toNat ((Int.toNat p5):Int)) (List.getD kZ (Int.toNat ((Int.toNat p5):Int)) ([]:(List Int)))) CP Dj zI) fun (c53:((List aG)×((List au)×(Int×(Int×((List Int)×(Int×(Int×(Int×(Int×(Int×(Int×((List ah)×((List (List Int))×((List Int)×((List aj)×(List Int)))))))))))))))))=>
                                          some (.inr (.inr (.inr (.inr (.inr (.inr (.inr (.inr (c53.1,(c53.2.1,(c53.2.2.1,(c53.2.2.2.1,(c53.2.2.2.2.1,(c53.2.2.2.2.2.1,(c53.2.2.2.2.2.2.1,(c53.2.2.2.2.2.2.2.1,(c53.2.2.2.2.2.2.2.2.1,(c53.2.2.2.2.2.2.2.2.2.1,(c53.2.2.2.2.2.2.2.2.2.2.1,(c53.2.2.2.2.2.2.2.2.2.2.2.2.1,(c53.2.2.2.2.2.2.2.2.2.2.2.2.2.2.1,(c53.2.2.2.2.2.2.2.2.2.2.2.2.2.2.2,(c53.2.2.2.2.2.2.2.2.2.2.2.1,c53.2.2.2.2.2.2.2.2.2.2.2.2.2.1)))))))))))))))))))))))
                                        else
                                          let n54:Bool:=(decide (p0=(7:Int)))
                                          Option.bind (
                                            bif n54 then
                                              ck (inB p3 (List.length (List.getD bG (Int.toNat ((Int.toNat n1):Int)) (ah.mk (0:Int) (0:Int) (0:Int) ([]:(List Int)) (0:Int))).regs)) <|
                                              let n55:Int:=(List.getD (List.getD bG (Int.toNat ((Int.toNat n1):Int)) (ah.mk (0:Int) (0:Int) (0:Int) ([]:(List Int)) (0:Int))).regs (Int.toNat ((Int.toNat p3):Int)) (0:Int))
                                              ck (inB n55 (List.length (List.getD kZ (Int.toNat ((Int.toNat p5):Int)) ([]:(List Int))))) <|
                                              let n56:Int:=(List.getD (List.getD kZ (Int.toNat ((Int.toNat p5):Int)) ([]:(List Int))) (Int.toNat ((Int.toNat n55):Int)) (0:Int))
                                              ck (inB p2 (List.length (List.getD bG (Int.toNat ((Int.toNat n1):Int)) (ah.mk (0:Int) (0:Int) (0:Int) ([]:(List Int)) (0:Int))).regs)) <|
                                              let n57:(List Int):=(List.set (List.getD bG (Int.toNat ((Int.toNat n1):Int)) (ah.mk (0:Int) (0:Int) (0:Int) ([]:(List Int)) (0:Int))).regs (Int.toNat ((Int.toNat p2):Int)) n56)
                                              some ((List.set kZ (Int.toNat ((Int.toNat p5):Int)) (List.getD kZ (Int.toNat ((Int.toNat p5):Int)) ([]:(List Int)))),(List.set bG (Int.toNat ((Int.toNat n1):Int)) (ah.mk (List.getD bG (Int.toNat ((Int.toNat n1):Int)) (ah.mk (0:Int) (0:Int) (0:Int) ([]:(List Int)) (0:Int))).fn (List.getD bG (Int.toNat ((Int.toNat n1):Int)) (ah.mk (0:Int) (0:Int) (0:Int) ([]:(List Int)) (0:Int))).block (List.getD bG (Int.toNat ((Int.toNat n1):Int)) (ah.mk (0:Int) (0:Int) (0:Int) ([]:(List Int)) (0:Int))).at' n57 (List.getD bG (Int.toNat ((Int.toNat n1):Int)) (ah.mk (0:Int) (0:Int) (0:Int) ([]:(List Int)) (0:Int))).dst)))
                                            else
                                              ck (inB p3 (List.length (List.getD bG (Int.toNat ((Int.toNat n1):Int)) (ah.mk (0:Int) (0:Int) (0:Int) ([]:(List Int)) (0:Int))).regs)) <|
                                              let n58:Int:=(List.getD (List.getD bG (Int.toNat ((Int.toNat n1):Int)) (ah.mk (0:Int) (0:Int) (0:Int) ([]:(List Int)) (0:Int))).regs (Int.toNat ((Int.toNat p3):Int)) (0:Int))
                                              ck (inB p4 (List.length (List.getD bG (Int.toNat ((Int.toNat n1):Int)) (ah.mk (0:Int) (0:Int) (0:Int) ([]:(List Int)) (0:Int))).regs)) <|
                                              let n59:Int:=(List.getD (List.getD bG (Int.toNat ((Int.toNat n1):Int)) (ah.mk (0:Int) (0:Int) (0:Int) ([]:(List Int)) (0:Int))).regs (Int.toNat ((Int.toNat p4):Int)) (0:Int))
                                              ck (inB n58 (List.length (List.getD kZ (Int.toNat ((Int.toNat p5):Int)) ([]:(List Int))))) <|
                                              let n60:(List Int):=(List.set (List.getD kZ (Int.toNat ((Int.toNat p5):Int)) ([]:(List Int))) (Int.toNat ((Int.toNat n58):Int)) n59)
                                              some ((List.set kZ (Int.toNat ((Int.toNat p5):Int)) n60),(List.set bG (Int.toNat ((Int.toNat n1):Int)) (ah.mk (List.getD bG (Int.toNat ((Int.toNat n1):Int)) (ah.mk (0:Int) (0:Int) (0:Int) ([]:(List Int)) (0:Int))).fn (List.getD bG (Int.toNat ((Int.toNat n1):Int)) (ah.mk (0:Int) (0:Int) (0:Int) ([]:(List Int)) (0:Int))).block (List.getD bG (Int.toNat ((Int.toNat n1):Int)) (ah.mk (0:Int) (0:Int) (0:Int) ([]:(List Int)) (0:Int))).at' (List.getD bG (Int.toNat ((Int.toNat n1):Int)) (ah.mk (0:Int) (0:Int) (0:Int) ([]:(List Int)) (0:Int))).regs (List.getD bG (Int.toNat ((Int.toNat n1):Int)) (ah.mk (0:Int) (0:Int) (0:Int) ([]:(List Int)) (0:Int))).dst)))) fun (s61:((List (List Int))×(List ah)))=>
                                          some (.inl (p7,(p8,(p9,(p10,(p11,(p12,(p13,(qJ,(kW,(p16,(su,(s61.1,(Dj,(zI,(s61.2,CP))))))))))))))))
                                    else
                                      let n62:Bool:=(decide (p0=(9:Int)))
                                      fQ (
                                        bif n62 then
                                          ck (inB p2 (List.length (List.getD bG (Int.toNat ((Int.toNat n1):Int)) (ah.mk (0:Int) (0:Int) (0:Int) ([]:(List Int)) (0:Int))).regs)) <|
                                          let n63:(List Int):=(List.set (List.getD bG (Int.toNat ((Int.toNat n1):Int)) (ah.mk (0:Int) (0:Int) (0:Int) ([]:(List Int)) (0:Int))).regs (Int.toNat ((Int.toNat p2):Int)) (0:Int))
                                          let n64:Int:=((List.length p11):Int)
                                          let n65:Bool:=(decide ((0:Int)<n64))
                                          Option.bind (
                                            bif n65 then
                                              ck (inB (0:Int) (List.length p11)) <|
                                              let n66:Int:=(List.getD p11 (Int.toNat (0:Int)) (0:Int))
                                              ck (inB p2 (List.length n63)) <|
                                              let n67:(List Int):=(List.set n63 (Int.toNat ((Int.toNat p2):Int)) n66)
                                              ck (Gn (1:Int) ((List.length p11):Int) (List.length p11)) <|
                                              let n68:(List Int):=(List.drop (Int.toNat (1:Int)) (List.take (Int.toNat ((List.length p11):Int)) p11))
                                              some (p7,(p8,(p9,(p10,(n68,(p12,(p13,(qJ,(kW,(p16,(su,(List.set bG (Int.toNat ((Int.toNat n1):Int)) (ah.mk (List.getD bG (Int.toNat ((Int.toNat n1):Int)) (ah.mk (0:Int) (0:Int) (0:Int) ([]:(List Int)) (0:Int))).fn (List.getD bG (Int.toNat ((Int.toNat n1):Int)) (ah.mk (0:Int) (0:Int) (0:Int) ([]:(List Int)) (0:Int))).block (List.getD bG (Int.toNat ((Int.toNat n1):Int)) (ah.mk (0:Int) (0:Int) (0:Int) ([]:(List Int)) (0:Int))).at' n67 (List.getD bG (Int.toNat ((Int.toNat n1):Int)) (ah.mk (0:Int) (0:Int) (0:Int) ([]:(List Int)) (0:Int))).dst)))))))))))))
                                            else
                                              some (p7,(p8,(p9,(p10,(p11,(p12,(p13,(qJ,(kW,(p16,(su,(List.set bG (Int.toNat ((Int.toNat n1):Int)) (ah.mk (List.getD bG (Int.toNat ((Int.toNat n1):Int)) (ah.mk (0:Int) (0:Int) (0:Int) ([]:(List Int)) (0:Int))).fn (List.getD bG (Int.toNat ((Int.toNat n1):Int)) (ah.mk (0:Int) (0:Int) (0:Int) ([]:(List Int)) (0:Int))).block (List.getD bG (Int.toNat ((Int.toNat n1):Int)) (ah.mk (0:Int) (0:Int) (0:Int) ([]:(List Int)) (0:Int))).at' n63 (List.getD bG (Int.toNat ((Int.toNat n1):Int)) (ah.mk (0:Int) (0:Int) (0:Int) ([]:(List Int)) (0:Int))).dst)))))))))))))) fun (Tz:((List aG)×((List au)×(Int×(Int×((List Int)×(Int×(Int×(Int×(Int×(Int×(Int×(List ah)))))))))))))=>
                                          some (.inl (Tz.1,(Tz.2.1,(Tz.2.2.1,(Tz.2.2.2.1,(Tz.2.2.2.2.1,(Tz.2.2.2.2.2.1,(Tz.2.2.2.2.2.2.1,(Tz.2.2.2.2.2.2.2.1,(Tz.2.2.2.2.2.2.2.2.1,(Tz.2.2.2.2.2.2.2.2.2.1,(Tz.2.2.2.2.2.2.2.2.2.2.1,(kZ,(Dj,(zI,(Tz.2.2.2.2.2.2.2.2.2.2.2,CP))))))))))))))))
                                        else
                                          let n70:Bool:=(decide (p0=(10:Int)))
                                          fQ (
                                            bif n70 then
                                              let n71:Int:=((List.length CP):Int)
                                              let n72:Bool:=(decide ((4096:Int)≤n71))
                                              bif n72 then
                                                some (.inr (.inr (.inr (.inr (.inr (.inr (.inr (.inr (.inr (.inr (p7,(p8,(p9,(p10,(p11,(p12,(p13,(qJ,((3:Int),(p16,(su,(kZ,(Dj,(zI,((List.set bG (Int.toNat ((Int.toNat n1):Int)) (ah.mk (List.getD bG (Int.toNat ((Int.toNat n1):Int)) (ah.mk (0:Int) (0:Int) (0:Int) ([]:(List Int)) (0:Int))).fn (List.getD bG (Int.toNat ((Int.toNat n1):Int)) (ah.mk (0:Int) (0:Int) (0:Int) ([]:(List Int)) (0:Int))).block (List.getD bG (Int.toNat ((Int.toNat n1):Int)) (ah.mk (0:Int) (0:Int) (0:Int) ([]:(List Int)) (0:Int))).at' (List.getD bG (Int.toNat ((Int.toNat n1):Int)) (ah.mk (0:Int) (0:Int) (0:Int) ([]:(List Int)) (0:Int))).regs (List.getD bG (Int.toNat ((Int.toNat n1):Int)) (ah.mk (0:Int) (0:Int) (0:Int) ([]:(List Int)) (0:Int))).dst)),CP)))))))))))))))))))))))))
                                              else
                                                ck (inB p3 (List.length (List.getD bG (Int.toNat ((Int.toNat n1):Int)) (ah.mk (0:Int) (0:Int) (0:Int) ([]:(List Int)) (0:Int))).regs)) <|
                                                let n73:Int:=(List.getD (List.getD bG (Int.toNat ((Int.toNat n1):Int)) (ah.mk (0:Int) (0:Int) (0:Int) ([]:(List Int)) (0:Int))).regs (Int.toNat ((Int.toNat p3):Int)) (0:Int))
                                                let n74:(List Int):=[n73]
                                                ck (true&&(decide ((((List.length CP)+(List.length n74))*(8:Nat))≤(140737488355328:Nat)))) <|
                                                let n75:(List Int):=(CP++n74)
                                                some (.inl (p7,(p8,(p9,(p10,(p11,(p12,(p13,(qJ,(kW,(p16,(su,(kZ,(Dj,(zI,((List.set bG (Int.toNat ((Int.toNat n1):Int)) (ah.mk (List.getD bG (Int.toNat ((Int.toNat n1):Int)) (ah.mk (0:Int) (0:Int) (0:Int) ([]:(List Int)) (0:Int))).fn (List.getD bG (Int.toNat ((Int.toNat n1):Int)) (ah.mk (0:Int) (0:Int) (0:Int) ([]:(List Int)) (0:Int))).block (List.getD bG (Int.toNat ((Int.toNat n1):Int)) (ah.mk (0:Int) (0:Int) (0:Int) ([]:(List Int)) (0:Int))).at' (List.getD bG (Int.toNat ((Int.toNat n1):Int)) (ah.mk (0:Int) (0:Int) (0:Int) ([]:(List Int)) (0:Int))).regs (List.getD bG (Int.toNat ((Int.toNat n1):Int)) (ah.mk (0:Int) (0:Int) (0:Int) ([]:(List Int)) (0:Int))).dst)),n75))))))))))))))))
                                            else
                                              let n76:Bool:=(decide (p0=(11:Int)))
                                              fQ (
                                                bif n76 then
                                                  Option.bind (f30 p6 (List.getD bG (Int.toNat ((Int.toNat n1):Int)) (ah.mk (0:Int) (0:Int) (0:Int) ([]:(List Int)) (0:Int))).regs) fun (c77:((List Int)×(List Int)))=>
                                                  Option.bind (f19 p5 c77.2 p2 p7 p8 p9 p10 p11 p12 p13 qJ kW p16 su (List.set bG (Int.toNat ((Int.toNat n1):Int)) (ah.mk (List.getD bG (Int.toNat ((Int.toNat n1):Int)) (ah.mk (0:Int) (0:Int) (0:Int) ([]:(List Int)) (0:Int))).fn (List.getD bG (Int.toNat ((Int.toNat n1):Int)) (ah.mk (0:Int) (0:Int) (0:Int) ([]:(List Int)) (0:Int))).block (List.getD bG (Int.toNat ((Int.toNat n1):Int)) (ah.mk (0:Int) (0:Int) (0:Int) ([]:(List Int)) (0:Int))).at' c77.1 (List.getD bG (Int.toNat ((Int.toNat n1):Int)) (ah.mk (0:Int) (0:Int) (0:Int) ([]:(List Int)) (0:Int))).dst)) kZ CP Dj zI) fun (Np:(Bool×((List aG)×((List au)×(Int×(Int×((List Int)×(Int×(Int×(Int×(Int×(Int×(Int×((List (List Int))×((List Int)×((List aj)×((List Int)×(List ah))))))))))))))))))=>
                                                  some (.inl (Np.2.1,(Np.2.2.1,(Np.2.2.2.1,(Np.2.2.2.2.1,(Np.2.2.2.2.2.1,(Np.2.2.2.2.2.2.1,(Np.2.2.2.2.2.2.2.1,(Np.2.2.2.2.2.2.2.2.1,(Np.2.2.2.2.2.2.2.2.2.1,(Np.2.2.2.2.2.2.2.2.2.2.1,(Np.2.2.2.2.2.2.2.2.2.2.2.1,(Np.2.2.2.2.2.2.2.2.2.2.2.2.1,(Np.2.2.2.2.2.2.2.2.2.2.2.2.2.2.1,(Np.2.2.2.2.2.2.2.2.2.2.2.2.2.2.2.1,(Np.2.2.2.2.2.2.2.2.2.2.2.2.2.2.2.2,Np.2.2.2.2.2.2.2.2.2.2.2.2.2.1))))))))))))))))
                                                else
                                                  let n79:Bool:=(decide (p0=(12:Int)))
                                                  fQ (
                                                    bif n79 then
                                                      ck (inB p3 (List.length (List.getD bG (Int.toNat ((Int.toNat n1):Int)) (ah.mk (0:Int) (0:Int) (0:Int) ([]:(List Int)) (0:Int))).regs)) <|
                                                      let n80:Int:=(List.getD (List.getD bG (Int.toNat ((Int.toNat n1):Int)) (ah.mk (0:Int) (0:Int) (0:Int) ([]:(List Int)) (0:Int))).regs (Int.toNat ((Int.toNat p3):Int)) (0:Int))
                                                      let n81:Bool:=(decide (n80<(0:Int)))
                                                      bif n81 then
                                                        Option.bind (f29 (3:Int) p7 p8 p9 p10 p11 p12 p13 qJ kW p16 su (List.set bG (Int.toNat ((Int.toNat n1):Int)) (ah.mk (List.getD bG (Int.toNat ((Int.toNat n1):Int)) (ah.mk (0:Int) (0:Int) (0:Int) ([]:(List Int)) (0:Int))).fn (List.getD bG (Int.toNat ((Int.toNat n1):Int)) (ah.mk (0:Int) (0:Int) (0:Int) ([]:(List Int)) (0:Int))).block (List.getD bG (Int.toNat ((Int.toNat n1):Int)) (ah.mk (0:Int) (0:Int) (0:Int) ([]:(List Int)) (0:Int))).at' (List.getD bG (Int.toNat ((Int.toNat n1):Int)) (ah.mk (0:Int) (0:Int) (0:Int) ([]:(List Int)) (0:Int))).regs (List.getD bG (Int.toNat ((Int.toNat n1):Int)) (ah.mk (0:Int) (0:Int) (0:Int) ([]:(List Int)) (0:Int))).dst)) kZ CP Dj zI) fun (Nq:((List aG)×((List au)×(Int×(Int×((List Int)×(Int×(Int×(Int×(Int×(Int×(Int×((List ah)×((List (List Int))×((List Int)×((List aj)×(List Int)))))))))))))))))=>
                                                        some (.inr (.inr (.inr (.inr (.inr (.inr (.inr (.inr (.inr (.inr (.inr (.inr (Nq.1,(Nq.2.1,(Nq.2.2.1,(Nq.2.2.2.1,(Nq.2.2.2.2.1,(Nq.2.2.2.2.2.1,(Nq.2.2.2.2.2.2.1,(Nq.2.2.2.2.2.2.2.1,(Nq.2.2.2.2.2.2.2.2.1,(Nq.2.2.2.2.2.2.2.2.2.1,(Nq.2.2.2.2.2.2.2.2.2.2.1,(Nq.2.2.2.2.2.2.2.2.2.2.2.2.1,(Nq.2.2.2.2.2.2.2.2.2.2.2.2.2.2.1,(Nq.2.2.2.2.2.2.2.2.2.2.2.2.2.2.2,(Nq.2.2.2.2.2.2.2.2.2.2.2.1,Nq.2.2.2.2.2.2.2.2.2.2.2.2.2.1)))))))))))))))))))))))))))
                                                      else
                                                        let n83:Bool:=(decide (p9≤n80))
                                                        let n84:Bool:=n83
                                                        bif n84 then
                                                          Option.bind (f29 (3:Int) p7 p8 p9 p10 p11 p12 p13 qJ kW p16 su (List.set bG (Int.toNat ((Int.toNat n1):Int)) (ah.mk (List.getD bG (Int.toNat ((Int.toNat n1):Int)) (ah.mk (0:Int) (0:Int) (0:Int) ([]:(List Int)) (0:Int))).fn (List.getD bG (Int.toNat ((Int.toNat n1):Int)) (ah.mk (0:Int) (0:Int) (0:Int) ([]:(List Int)) (0:Int))).block (List.getD bG (Int.toNat ((Int.toNat n1):Int)) (ah.mk (0:Int) (0:Int) (0:Int) ([]:(List Int)) (0:Int))).at' (List.getD bG (Int.toNat ((Int.toNat n1):Int)) (ah.mk (0:Int) (0:Int) (0:Int) ([]:(List Int)) (0:Int))).regs (List.getD bG (Int.toNat ((Int.toNat n1):Int)) (ah.mk (0:Int) (0:Int) (0:Int) ([]:(List Int)) (0:Int))).dst)) kZ CP Dj zI) fun (c85:((List aG)×((List au)×(Int×(Int×((List Int)×(Int×(Int×(Int×(Int×(Int×(Int×((List ah)×((List (List Int))×((List Int)×((List aj)×(List Int)))))))))))))))))=>
                                                          some (.inr (.inr (.inr (.inr (.inr (.inr (.inr (.inr (.inr (.inr (.inr (.inr (c85.1,(c85.2.1,(c85.2.2.1,(c85.2.2.2.1,(c85.2.2.2.2.1,(c85.2.2.2.2.2.1,(c85.2.2.2.2.2.2.1,(c85.2.2.2.2.2.2.2.1,(c85.2.2.2.2.2.2.2.2.1,(c85.2.2.2.2.2.2.2.2.2.1,(c85.2.2.2.2.2.2.2.2.2.2.1,(c85.2.2.2.2.2.2.2.2.2.2.2.2.1,(c85.2.2.2.2.2.2.2.2.2.2.2.2.2.2.1,(c85.2.2.2.2.2.2.2.2.2.2.2.2.2.2.2,(c85.2.2.2.2.2.2.2.2.2.2.2.1,c85.2.2.2.2.2.2.2.2.2.2.2.2.2.1)))))))))))))))))))))))))))
                                                        else
                                                          ck (inB n80 (List.length p8)) <|
                                                          let n86:au:=(List.getD p8 (Int.toNat n80) (au.mk ([]:(List UInt8)) (0:Int) (0:Int) ([]:(List aC))))
                                                          let n87:Int:=((List.length p6):Int)
                                                          let n88:Bool:=(!(decide (n86.params=n87)))
                                                          let n89:Bool:=n88
                                                          bif n89 then
                                                            Option.bind (f29 (3:Int) p7 p8 p9 p10 p11 p12 p13 qJ kW p16 su (List.set bG (Int.toNat ((Int.toNat n1):Int)) (ah.mk (List.getD bG (Int.toNat ((Int.toNat n1):Int)) (ah.mk (0:Int) (0:Int) (0:Int) ([]:(List Int)) (0:Int))).fn (List.getD bG (Int.toNat ((Int.toNat n1):Int)) (ah.mk (0:Int) (0:Int) (0:Int) ([]:(List Int)) (0:Int))).block (List.getD bG (Int.toNat ((Int.toNat n1):Int)) (ah.mk (0:Int) (0:Int) (0:Int) ([]:(List Int)) (0:Int))).at' (List.getD bG (Int.toNat ((Int.toNat n1):Int)) (ah.mk (0:Int) (0:Int) (0:Int) ([]:(List Int)) (0:Int))).regs (List.getD bG (Int.toNat ((Int.toNat n1):Int)) (ah.mk (0:Int) (0:Int) (0:Int) ([]:(List Int)) (0:Int))).dst)) kZ CP Dj zI) fun (Nr:((List aG)×((List au)×(Int×(Int×((List Int)×(Int×(Int×(Int×(Int×(Int×(Int×((List ah)×((List (List Int))×((List Int)×((List aj)×(List Int)))))))))))))))))=>
                                                            some (.inr (.inr (.inr (.inr (.inr (.inr (.inr (.inr (.inr (.inr (.inr (.inr (Nr.1,(Nr.2.1,(Nr.2.2.1,(Nr.2.2.2.1,(Nr.2.2.2.2.1,(Nr.2.2.2.2.2.1,(Nr.2.2.2.2.2.2.1,(Nr.2.2.2.2.2.2.2.1,(Nr.2.2.2.2.2.2.2.2.1,(Nr.2.2.2.2.2.2.2.2.2.1,(Nr.2.2.2.2.2.2.2.2.2.2.1,(Nr.2.2.2.2.2.2.2.2.2.2.2.2.1,(Nr.2.2.2.2.2.2.2.2.2.2.2.2.2.2.1,(Nr.2.2.2.2.2.2.2.2.2.2.2.2.2.2.2,(Nr.2.2.2.2.2.2.2.2.2.2.2.1,Nr.2.2.2.2.2.2.2.2.2.2.2.2.2.1)))))))))))))))))))))))))))
                                                          else
                                                            let n91:ah:=(List.getD bG (Int.toNat ((Int.toNat n1):Int)) (ah.mk (0:Int) (0:Int) (0:Int) ([]:(List Int)) (0:Int)))
                                                            let n92:ah:=(List.getD bG (Int.toNat ((Int.toNat n1):Int)) (ah.mk (0:Int) (0:Int) (0:Int) ([]:(List Int)) (0:Int)))
                                                            let n93:ah:=(List.getD bG (Int.toNat ((Int.toNat n1):Int)) (ah.mk (0:Int) (0:Int) (0:Int) ([]:(List Int)) (0:Int)))
                                                            let n94:Int:=(jW (n93.at'-(1:Int)))
                                                            Option.bind (f30 p6 (List.getD bG (Int.toNat ((Int.toNat n1):Int)) (ah.mk (0:Int) (0:Int) (0:Int) ([]:(List Int)) (0:Int))).regs) fun (c95:((List Int)×(List Int)))=>
                                                            Option.bind (f19 n80 c95.2 p2 p7 p8 p9 p10 p11 p12 p13 qJ kW p16 su (List.set bG (Int.toNat ((Int.toNat n1):Int)) (ah.mk (List.getD bG (Int.toNat ((Int.toNat n1):Int)) (ah.mk (0:Int) (0:Int) (0:Int) ([]:(List Int)) (0:Int))).fn (List.getD bG (Int.toNat ((Int.toNat n1):Int)) (ah.mk (0:Int) (0:Int) (0:Int) ([]:(List Int)) (0:Int))).block (List.getD bG (Int.toNat ((Int.toNat n1):Int)) (ah.mk (0:Int) (0:Int) (0:Int) ([]:(List Int)) (0:Int))).at' c95.1 (List.getD bG (Int.toNat ((Int.toNat n1):Int)) (ah.mk (0:Int) (0:Int) (0:Int) ([]:(List Int)) (0:Int))).dst)) kZ CP Dj zI) fun (FT:(Bool×((List aG)×((List au)×(Int×(Int×((List Int)×(Int×(Int×(Int×(Int×(Int×(Int×((List (List Int))×((List Int)×((List aj)×((List Int)×(List ah))))))))))))))))))=>
                                                            Option.bind (
                                                              bif FT.1 then
                                                                ck (inB n91.fn (List.length FT.2.2.2.2.2.2.2.2.2.2.2.2.2.2.1)) <|
                                                                let n97:aj:=(List.getD FT.2.2.2.2.2.2.2.2.2.2.2.2.2.2.1 (Int.toNat ((Int.toNat n91.fn):Int)) (aj.mk (0:Int) ([]:(List Int)) ([]:(List (Int×Int))) ([]:(List bH))))
                                                                Option.bind (f31 n97.sites n92.block n94 n80) fun (c98:(List bH))=>
                                                                let n99:(List aj):=(List.set FT.2.2.2.2.2.2.2.2.2.2.2.2.2.2.1 (Int.toNat ((Int.toNat n91.fn):Int)) (aj.mk (List.getD FT.2.2.2.2.2.2.2.2.2.2.2.2.2.2.1 (Int.toNat ((Int.toNat n91.fn):Int)) (aj.mk (0:Int) ([]:(List Int)) ([]:(List (Int×Int))) ([]:(List bH)))).entries (List.getD FT.2.2.2.2.2.2.2.2.2.2.2.2.2.2.1 (Int.toNat ((Int.toNat n91.fn):Int)) (aj.mk (0:Int) ([]:(List Int)) ([]:(List (Int×Int))) ([]:(List bH)))).blocks (List.getD FT.2.2.2.2.2.2.2.2.2.2.2.2.2.2.1 (Int.toNat ((Int.toNat n91.fn):Int)) (aj.mk (0:Int) ([]:(List Int)) ([]:(List (Int×Int))) ([]:(List bH)))).edges c98))
                                                                some n99
                                                              else
                                                                some FT.2.2.2.2.2.2.2.2.2.2.2.2.2.2.1) fun (aeI:(List aj))=>
                                                            some (.inl (FT.2.1,(FT.2.2.1,(FT.2.2.2.1,(FT.2.2.2.2.1,(FT.2.2.2.2.2.1,(FT.2.2.2.2.2.2.1,(FT.2.2.2.2.2.2.2.1,(FT.2.2.2.2.2.2.2.2.1,(FT.2.2.2.2.2.2.2.2.2.1,(FT.2.2.2.2.2.2.2.2.2.2.1,(FT.2.2.2.2.2.2.2.2.2.2.2.1,(FT.2.2.2.2.2.2.2.2.2.2.2.2.1,(aeI,(FT.2.2.2.2.2.2.2.2.2.2.2.2.2.2.2.1,(FT.2.2.2.2.2.2.2.2.2.2.2.2.2.2.2.2,FT.2.2.2.2.2.2.2.2.2.2.2.2.2.1))))))))))))))))
                                                    else
                                                      let n101:Bool:=(decide (p0=(13:Int)))
                                                      Option.bind (
                                                        bif n101 then
                                                          ck (inB p5 (List.length zI)) <|
                                                          let n102:Int:=(List.getD zI (Int.toNat ((Int.toNat p5):Int)) (0:Int))
                                                          let n103:Int:=(jW (n102+(1:Int)))
                                                          ck (inB p5 (List.length zI)) <|
                                                          let n104:(List Int):=(List.set zI (Int.toNat ((Int.toNat p5):Int)) n103)
                                                          some (n104,(List.set bG (Int.toNat ((Int.toNat n1):Int)) (ah.mk (List.getD bG (Int.toNat ((Int.toNat n1):Int)) (ah.mk (0:Int) (0:Int) (0:Int) ([]:(List Int)) (0:Int))).fn (List.getD bG (Int.toNat ((Int.toNat n1):Int)) (ah.mk (0:Int) (0:Int) (0:Int) ([]:(List Int)) (0:Int))).block (List.getD bG (Int.toNat ((Int.toNat n1):Int)) (ah.mk (0:Int) (0:Int) (0:Int) ([]:(List Int)) (0:Int))).at' (List.getD bG (Int.toNat ((Int.toNat n1):Int)) (ah.mk (0:Int) (0:Int) (0:Int) ([]:(List Int)) (0:Int))).regs (List.getD bG (Int.toNat ((Int.toNat n1):Int)) (ah.mk (0:Int) (0:Int) (0:Int) ([]:(List Int)) (0:Int))).dst)))
                                                        else
                                                          some (zI,(List.set bG (Int.toNat ((Int.toNat n1):Int)) (ah.mk (List.getD bG (Int.toNat ((Int.toNat n1):Int)) (ah.mk (0:Int) (0:Int) (0:Int) ([]:(List Int)) (0:Int))).fn (List.getD bG (Int.toNat ((Int.toNat n1):Int)) (ah.mk (0:Int) (0:Int) (0:Int) ([]:(List Int)) (0:Int))).block (List.getD bG (Int.toNat ((Int.toNat n1):Int)) (ah.mk (0:Int) (0:Int) (0:Int) ([]:(List Int)) (0:Int))).at' (List.getD bG (Int.toNat ((Int.toNat n1):Int)) (ah.mk (0:Int) (0:Int) (0:Int) ([]:(List Int)) (0:Int))).regs (List.getD bG (Int.toNat ((Int.toNat n1):Int)) (ah.mk (0:Int) (0:Int) (0:Int) ([]:(List Int)) (0:Int))).dst)))) fun (acO:((List Int)×(List ah)))=>
                                                      some (.inl (p7,(p8,(p9,(p10,(p11,(p12,(p13,(qJ,(kW,(p16,(su,(kZ,(Dj,(acO.1,(acO.2,CP))))))))))))))))) fun (vJ:((List aG)×((List au)×(Int×(Int×((List Int)×(Int×(Int×(Int×(Int×(Int×(Int×((List (List Int))×((List aj)×((List Int)×((List ah)×(List Int)))))))))))))))))=>
                                                  some (.inl (vJ.1,(vJ.2.1,(vJ.2.2.1,(vJ.2.2.2.1,(vJ.2.2.2.2.1,(vJ.2.2.2.2.2.1,(vJ.2.2.2.2.2.2.1,(vJ.2.2.2.2.2.2.2.1,(vJ.2.2.2.2.2.2.2.2.1,(vJ.2.2.2.2.2.2.2.2.2.1,(vJ.2.2.2.2.2.2.2.2.2.2.1,(vJ.2.2.2.2.2.2.2.2.2.2.2.1,(vJ.2.2.2.2.2.2.2.2.2.2.2.2.1,(vJ.2.2.2.2.2.2.2.2.2.2.2.2.2.1,(vJ.2.2.2.2.2.2.2.2.2.2.2.2.2.2.1,vJ.2.2.2.2.2.2.2.2.2.2.2.2.2.2.2))))))))))))))))) fun (vK:((List aG)×((List au)×(Int×(Int×((List Int)×(Int×(Int×(Int×(Int×(Int×(Int×((List (List Int))×((List aj)×((List Int)×((List ah)×(List Int)))))))))))))))))=>
                                              some (.inl (vK.1,(vK.2.1,(vK.2.2.1,(vK.2.2.2.1,(vK.2.2.2.2.1,(vK.2.2.2.2.2.1,(vK.2.2.2.2.2.2.1,(vK.2.2.2.2.2.2.2.1,(vK.2.2.2.2.2.2.2.2.1,(vK.2.2.2.2.2.2.2.2.2.1,(vK.2.2.2.2.2.2.2.2.2.2.1,(vK.2.2.2.2.2.2.2.2.2.2.2.1,(vK.2.2.2.2.2.2.2.2.2.2.2.2.1,(vK.2.2.2.2.2.2.2.2.2.2.2.2.2.1,(vK.2.2.2.2.2.2.2.2.2.2.2.2.2.2.1,vK.2.2.2.2.2.2.2.2.2.2.2.2.2.2.2))))))))))))))))) fun (vM:((List aG)×((List au)×(Int×(Int×((List Int)×(Int×(Int×(Int×(Int×(Int×(Int×((List (List Int))×((List aj)×((List Int)×((List ah)×(List Int)))))))))))))))))=>
                                          some (.inl (vM.1,(vM.2.1,(vM.2.2.1,(vM.2.2.2.1,(vM.2.2.2.2.1,(vM.2.2.2.2.2.1,(vM.2.2.2.2.2.2.1,(vM.2.2.2.2.2.2.2.1,(vM.2.2.2.2.2.2.2.2.1,(vM.2.2.2.2.2.2.2.2.2.1,(vM.2.2.2.2.2.2.2.2.2.2.1,(vM.2.2.2.2.2.2.2.2.2.2.2.1,(vM.2.2.2.2.2.2.2.2.2.2.2.2.1,(vM.2.2.2.2.2.2.2.2.2.2.2.2.2.1,(vM.2.2.2.2.2.2.2.2.2.2.2.2.2.2.1,vM.2.2.2.2.2.2.2.2.2.2.2.2.2.2.2))))))))))))))))) fun (vN:((List aG)×((List au)×(Int×(Int×((List Int)×(Int×(Int×(Int×(Int×(Int×(Int×((List (List Int))×((List aj)×((List Int)×((List ah)×(List Int)))))))))))))))))=>
                                      some (.inl (vN.1,(vN.2.1,(vN.2.2.1,(vN.2.2.2.1,(vN.2.2.2.2.1,(vN.2.2.2.2.2.1,(vN.2.2.2.2.2.2.1,(vN.2.2.2.2.2.2.2.1,(vN.2.2.2.2.2.2.2.2.1,(vN.2.2.2.2.2.2.2.2.2.1,(vN.2.2.2.2.2.2.2.2.2.2.1,(vN.2.2.2.2.2.2.2.2.2.2.2.1,(vN.2.2.2.2.2.2.2.2.2.2.2.2.1,(vN.2.2.2.2.2.2.2.2.2.2.2.2.2.1,(vN.2.2.2.2.2.2.2.2.2.2.2.2.2.2.1,vN.2.2.2.2.2.2.2.2.2.2.2.2.2.2.2))))))))))))))))) fun (vO:((List aG)×((List au)×(Int×(Int×((List Int)×(Int×(Int×(Int×(Int×(Int×(Int×((List (List Int))×((List aj)×((List Int)×((List ah)×(List Int)))))))))))))))))=>
                                  some (.inl (vO.1,(vO.2.1,(vO.2.2.1,(vO.2.2.2.1,(vO.2.2.2.2.1,(vO.2.2.2.2.2.1,(vO.2.2.2.2.2.2.1,(vO.2.2.2.2.2.2.2.1,(vO.2.2.2.2.2.2.2.2.1,(vO.2.2.2.2.2.2.2.2.2.1,(vO.2.2.2.2.2.2.2.2.2.2.1,(vO.2.2.2.2.2.2.2.2.2.2.2.1,(vO.2.2.2.2.2.2.2.2.2.2.2.2.1,(vO.2.2.2.2.2.2.2.2.2.2.2.2.2.1,(vO.2.2.2.2.2.2.2.2.2.2.2.2.2.2.1,vO.2.2.2.2.2.2.2.2.2.2.2.2.2.2.2))))))))))))))))) fun (vP:((List aG)×((List au)×(Int×(Int×((List Int)×(Int×(Int×(Int×(Int×(Int×(Int×((List (List Int))×((List aj)×((List Int)×((List ah)×(List Int)))))))))))))))))=>
                            some (.inl (vP.1,(vP.2.1,(vP.2.2.1,(vP.2.2.2.1,(vP.2.2.2.2.1,(vP.2.2.2.2.2.1,(vP.2.2.2.2.2.2.1,(vP.2.2.2.2.2.2.2.1,(vP.2.2.2.2.2.2.2.2.1,(vP.2.2.2.2.2.2.2.2.2.1,(vP.2.2.2.2.2.2.2.2.2.2.1,(vP.2.2.2.2.2.2.2.2.2.2.2.1,(vP.2.2.2.2.2.2.2.2.2.2.2.2.1,(vP.2.2.2.2.2.2.2.2.2.2.2.2.2.1,(vP.2.2.2.2.2.2.2.2.2.2.2.2.2.2.1,vP.2.2.2.2.2.2.2.2.2.2.2.2.2.2.2))))))))))))))))) fun (vS:((List aG)×((List au)×(Int×(Int×((List Int)×(Int×(Int×(Int×(Int×(Int×(Int×((List (List Int))×((List aj)×((List Int)×((List ah)×(List Int)))))))))))))))))=>
                        some (.inl (vS.1,(vS.2.1,(vS.2.2.1,(vS.2.2.2.1,(vS.2.2.2.2.1,(vS.2.2.2.2.2.1,(vS.2.2.2.2.2.2.1,(vS.2.2.2.2.2.2.2.1,(vS.2.2.2.2.2.2.2.2.1,(vS.2.2.2.2.2.2.2.2.2.1,(vS.2.2.2.2.2.2.2.2.2.2.1,(vS.2.2.2.2.2.2.2.2.2.2.2.1,(vS.2.2.2.2.2.2.2.2.2.2.2.2.1,(vS.2.2.2.2.2.2.2.2.2.2.2.2.2.1,(vS.2.2.2.2.2.2.2.2.2.2.2.2.2.2.1,vS.2.2.2.2.2.2.2.2.2.2.2.2.2.2.2))))))))))))))))) fun (vT:((List aG)×((List au)×(Int×(Int×((List Int)×(Int×(Int×(Int×(Int×(Int×(Int×((List (List Int))×((List aj)×((List Int)×((List ah)×(List Int)))))))))))))))))=>
                    some (.inl (vT.1,(vT.2.1,(vT.2.2.1,(vT.2.2.2.1,(vT.2.2.2.2.1,(vT.2.2.2.2.2.1,(vT.2.2.2.2.2.2.1,(vT.2.2.2.2.2.2.2.1,(vT.2.2.2.2.2.2.2.2.1,(vT.2.2.2.2.2.2.2.2.2.1,(vT.2.2.2.2.2.2.2.2.2.2.1,(vT.2.2.2.2.2.2.2.2.2.2.2.1,(vT.2.2.2.2.2.2.2.2.2.2.2.2.1,(vT.2.2.2.2.2.2.2.2.2.2.2.2.2.1,(vT.2.2.2.2.2.2.2.2.2.2.2.2.2.2.1,vT.2.2.2.2.2.2.2.2.2.2.2.2.2.2.2))))))))))))))))) fun (vU:((List aG)×((List au)×(Int×(Int×((List Int)×(Int×(Int×(Int×(Int×(Int×(Int×((List (List Int))×((List aj)×((List Int)×((List ah)×(List Int)))))))))))))))))=>
                some (.inl (vU.1,(vU.2.1,(vU.2.2.1,(vU.2.2.2.1,(vU.2.2.2.2.1,(vU.2.2.2.2.2.1,(vU.2.2.2.2.2.2.1,(vU.2.2.2.2.2.2.2.1,(vU.2.2.2.2.2.2.2.2.1,(vU.2.2.2.2.2.2.2.2.2.1,(vU.2.2.2.2.2.2.2.2.2.2.1,(vU.2.2.2.2.2.2.2.2.2.2.2.1,(vU.2.2.2.2.2.2.2.2.2.2.2.2.1,(vU.2.2.2.2.2.2.2.2.2.2.2.2.2.1,(vU.2.2.2.2.2.2.2.2.2.2.2.2.2.2.1,vU.2.2.2.2.2.2.2.2.2.2.2.2.2.2.2))))))))))))))))) fun (vV:((List aG)×((List au)×(Int×(Int×((List Int)×(Int×(Int×(Int×(Int×(Int×(Int×((List (List Int))×((List aj)×((List Int)×((List ah)×(List Int)))))))))))))))))=>
            some (.inl (vV.1,(vV.2.1,(vV.2.2.1,(vV.2.2.2.1,(vV.2.2.2.2.1,(vV.2.2.2.2.2.1,(vV.2.2.2.2.2.2.1,(vV.2.2.2.2.2.2.2.1,(vV.2.2.2.2.2.2.2.2.1,(vV.2.2.2.2.2.2.2.2.2.1,(vV.2.2.2.2.2.2.2.2.2.2.1,(vV.2.2.2.2.2.2.2.2.2.2.2.1,(vV.2.2.2.2.2.2.2.2.2.2.2.2.1,(vV.2.2.2.2.2.2.2.2.2.2.2.2.2.1,(vV.2.2.2.2.2.2.2.2.2.2.2.2.2.2.1,vV.2.2.2.2.2.2.2.2.2.2.2.2.2.2.2))))))))))))))))) fun (vW:((List aG)×((List au)×(Int×(Int×((List Int)×(Int×(Int×(Int×(Int×(Int×(Int×((List (List Int))×((List aj)×((List Int)×((List ah)×(List Int)))))))))))))))))=>
        some (.inl (vW.1,(vW.2.1,(vW.2.2.1,(vW.2.2.2.1,(vW.2.2.2.2.1,(vW.2.2.2.2.2.1,(vW.2.2.2.2.2.2.1,(vW.2.2.2.2.2.2.2.1,(vW.2.2.2.2.2.2.2.2.1,(vW.2.2.2.2.2.2.2.2.2.1,(vW.2.2.2.2.2.2.2.2.2.2.1,(vW.2.2.2.2.2.2.2.2.2.2.2.1,(vW.2.2.2.2.2.2.2.2.2.2.2.2.1,(vW.2.2.2.2.2.2.2.2.2.2.2.2.2.1,(vW.2.2.2.2.2.2.2.2.2.2.2.2.2.2.1,vW.2.2.2.2.2.2.2.2.2.2.2.2.2.2.2))))))))))))))))) fun (vX:((List aG)×((List au)×(Int×(Int×((List Int)×(Int×(Int×(Int×(Int×(Int×(Int×((List (List Int))×((List aj)×((List Int)×((List ah)×(List Int)))))))))))))))))=>
    some (vX.1,(vX.2.1,(vX.2.2.1,(vX.2.2.2.1,(vX.2.2.2.2.1,(vX.2.2.2.2.2.1,(vX.2.2.2.2.2.2.1,(vX.2.2.2.2.2.2.2.1,(vX.2.2.2.2.2.2.2.2.1,(vX.2.2.2.2.2.2.2.2.2.1,(vX.2.2.2.2.2.2.2.2.2.2.1,(vX.2.2.2.2.2.2.2.2.2.2.2.1,(vX.2.2.2.2.2.2.2.2.2.2.2.2.1,(vX.2.2.2.2.2.2.2.2.2.2.2.2.2.1,(vX.2.2.2.2.2.2.2.2.2.2.2.2.2.2.1,vX.2.2.2.2.2.2.2.2.2.2.2.2.2.2.2)))))))))))))))) fun (Yo:((List aG)×((List au)×(Int×(Int×((List Int)×(Int×(Int×(Int×(Int×(Int×(Int×((List (List Int))×((List aj)×((List Int)×((List ah)×(List Int)))))))))))))))))=>
  ck (decide ((List.length kZ)=(List.length Yo.2.2.2.2.2.2.2.2.2.2.2.1))) <|
  ck (decide ((List.length Dj)=(List.length Yo.2.2.2.2.2.2.2.2.2.2.2.2.1))) <|
  ck (decide ((List.length zI)=(List.length Yo.2.2.2.2.2.2.2.2.2.2.2.2.2.1))) <|
  some Yo
noncomputable def acP:bT:=⟨aaQ,fun x=>f20 x.1 x.2.1 x.2.2.1 x.2.2.2.1 x.2.2.2.2.1 x.2.2.2.2.2.1 x.2.2.2.2.2.2.1 x.2.2.2.2.2.2.2.1 x.2.2.2.2.2.2.2.2.1 x.2.2.2.2.2.2.2.2.2.1 x.2.2.2.2.2.2.2.2.2.2.1 x.2.2.2.2.2.2.2.2.2.2.2.1 x.2.2.2.2.2.2.2.2.2.2.2.2.1 x.2.2.2.2.2.2.2.2.2.2.2.2.2.1 x.2.2.2.2.2.2.2.2.2.2.2.2.2.2.1 x.2.2.2.2.2.2.2.2.2.2.2.2.2.2.2.1 x.2.2.2.2.2.2.2.2.2.2.2.2.2.2.2.2.1 x.2.2.2.2.2.2.2.2.2.2.2.2.2.2.2.2.2.1 x.2.2.2.2.2.2.2.2.2.2.2.2.2.2.2.2.2.2.1 x.2.2.2.2.2.2.2.2.2.2.2.2.2.2.2.2.2.2.2.1 x.2.2.2.2.2.2.2.2.2.2.2.2.2.2.2.2.2.2.2.2.1 x.2.2.2.2.2.2.2.2.2.2.2.2.2.2.2.2.2.2.2.2.2.1 x.2.2.2.2.2.2.2.2.2.2.2.2.2.2.2.2.2.2.2.2.2.2⟩
theorem Yp:bg Try.prog 20 acP:=
  aJ (T:=dw.of [(27,acJ),(28,acK),(29,acv),(30,acw),(19,aaX),(31,acL)]) (ety:=Y0) [] aew Try.func20 rfl rfl rfl (show aaQ.er.ok=true by decide +kernel) rfl (show aaQ.aO≤Try.f20.ntmps by decide +kernel) rfl (fC.sound ⟨Yj,Yk,X5,X6,QE,Yl,trivial⟩) fV mixed fun x=>by kernel_rfl
noncomputable def Il (p0:(List Int)) (p1:(List UInt8)) (p2 p3:Int) (p4:(List aC)):Option (Bool×((List UInt8)×(Int×(Int×(List aC))))):=
  Option.bind (Ij p0 p1 p2 p3 p4) fun (c0:(Int×((List UInt8)×(Int×(Int×(List aC))))))=>
  let n1:Bool:=(decide ((0:Int)≤c0.1))
  some (n1,(c0.2.1,(c0.2.2.1,(c0.2.2.2.1,c0.2.2.2.2))))
noncomputable def yh:bT:=⟨yc,fun x=>Il x.1 x.2.1 x.2.2.1 x.2.2.2.1 x.2.2.2.2⟩
theorem wP:bg Try.prog 42 yh:=
  aJ (T:=dw.of [(47000050,FP),(46,Yc)]) (ety:=ety) [.tmp 4] OX Try.func42 rfl rfl rfl (show yc.er.ok=true by decide +kernel) rfl (show yc.aO≤Try.f42.ntmps by decide +kernel) rfl (fC.sound ⟨Gx,JV,trivial⟩) fV mixed fun x=>by kernel_rfl
noncomputable def AY (p0:(List Int)) (p1:(List UInt8)) (p2 p3:Int) (p4:(List aC)):Option (Bool×((List UInt8)×(Int×(Int×(List aC))))):=
  Option.bind (Ik p0 p1 p2 p3 p4) fun (c0:(Int×((List UInt8)×(Int×(Int×(List aC))))))=>
  let n1:Bool:=(decide ((0:Int)≤c0.1))
  some (n1,(c0.2.1,(c0.2.2.1,(c0.2.2.2.1,c0.2.2.2.2))))
noncomputable def yj:bT:=⟨yg,fun x=>AY x.1 x.2.1 x.2.2.1 x.2.2.2.1 x.2.2.2.2⟩
theorem wQ:bg Try.prog 42 yj:=
  aJ (T:=dw.of [(52000050,FQ),(51,Yg)]) (ety:=ety) [.tmp 4] OY Try.func42 rfl rfl rfl (show yg.er.ok=true by decide +kernel) rfl (show yg.aO≤Try.f42.ntmps by decide +kernel) rfl (fC.sound ⟨Gy,JW,trivial⟩) fV mixed fun x=>by kernel_rfl
noncomputable def f6 (p0:(List aG)) (p1:(List au)) (p2 p3:Int) (p4:(List Int)) (p5 p6:Int):Option (Int×(Int×(Int×((List Int)×((List aj)×(Int×((List mG)×(List Int)))))))):=
  Option.bind (
    Option.bind (f17 p5 p6) fun (c0:(Int×Int))=>
    Option.bind (f18 p0 p1 p2 p3) fun (c1:(List aj))=>
    ck (En (8:Nat) p3 p3) <|
    let n2:(List Int):=(List.replicate (Int.toNat p3) (0:Int))
    some (p0,(p1,(p2,(p3,(p4,(c0.1,(c0.2,((0:Int),((0:Int),((0:Int),((0:Int),(c1,(n2,(([]:(List ah)),(([]:(List (List Int))),([]:(List Int)))))))))))))))))) fun (s3:((List aG)×((List au)×(Int×(Int×((List Int)×(Int×(Int×(Int×(Int×(Int×(Int×((List aj)×((List Int)×((List ah)×((List (List Int))×(List Int)))))))))))))))))=>
  Option.bind (
    jV (fun (s4:(Int×((List aG)×((List au)×(Int×(Int×((List Int)×(Int×(Int×(Int×(Int×(Int×(Int×(List (List Int)))))))))))))))=>
      let n5:Int:=((List.length p0):Int)
      let n6:Bool:=(decide (s4.1<n5))
      bif n6 then
        ck (inB s4.1 (List.length p0)) <|
        let n7:aG:=(List.getD p0 (Int.toNat s4.1) (aG.mk ([]:(List UInt8)) (0:Int)))
        let n8:Int:=(RS (1:Int) n7.size)
        ck (En (8:Nat) n8 n8) <|
        let n9:(List Int):=(List.replicate (Int.toNat n8) (0:Int))
        let n10:(List (List Int)):=[n9]
        ck (true&&(decide ((((List.length s4.2.2.2.2.2.2.2.2.2.2.2.2)+(List.length n10))*(24:Nat))≤(140737488355328:Nat)))) <|
        let n11:(List (List Int)):=(s4.2.2.2.2.2.2.2.2.2.2.2.2++n10)
        let n12:Int:=(jW (s4.1+(1:Int)))
        some (.inl (n12,(s4.2.1,(s4.2.2.1,(s4.2.2.2.1,(s4.2.2.2.2.1,(s4.2.2.2.2.2.1,(s4.2.2.2.2.2.2.1,(s4.2.2.2.2.2.2.2.1,(s4.2.2.2.2.2.2.2.2.1,(s4.2.2.2.2.2.2.2.2.2.1,(s4.2.2.2.2.2.2.2.2.2.2.1,(s4.2.2.2.2.2.2.2.2.2.2.2.1,n11)))))))))))))
      else
        some (.inr (s4.2.1,(s4.2.2.1,(s4.2.2.2.1,(s4.2.2.2.2.1,(s4.2.2.2.2.2.1,(s4.2.2.2.2.2.2.1,(s4.2.2.2.2.2.2.2.1,(s4.2.2.2.2.2.2.2.2.1,(s4.2.2.2.2.2.2.2.2.2.1,(s4.2.2.2.2.2.2.2.2.2.2.1,(s4.2.2.2.2.2.2.2.2.2.2.2.1,s4.2.2.2.2.2.2.2.2.2.2.2.2))))))))))))) ((0:Int),(s3.1,(s3.2.1,(s3.2.2.1,(s3.2.2.2.1,(s3.2.2.2.2.1,(s3.2.2.2.2.2.1,(s3.2.2.2.2.2.2.1,(s3.2.2.2.2.2.2.2.1,(s3.2.2.2.2.2.2.2.2.1,(s3.2.2.2.2.2.2.2.2.2.1,(s3.2.2.2.2.2.2.2.2.2.2.1,s3.2.2.2.2.2.2.2.2.2.2.2.2.2.2.1))))))))))))) fun (s13:((List aG)×((List au)×(Int×(Int×((List Int)×(Int×(Int×(Int×(Int×(Int×(Int×(List (List Int))))))))))))))=>
  Option.bind (f19 (0:Int) ([]:(List Int)) (0:Int) s13.1 s13.2.1 s13.2.2.1 s13.2.2.2.1 s13.2.2.2.2.1 s13.2.2.2.2.2.1 s13.2.2.2.2.2.2.1 s13.2.2.2.2.2.2.2.1 s13.2.2.2.2.2.2.2.2.1 s13.2.2.2.2.2.2.2.2.2.1 s13.2.2.2.2.2.2.2.2.2.2.1 s3.2.2.2.2.2.2.2.2.2.2.2.2.2.1 s13.2.2.2.2.2.2.2.2.2.2.2 s3.2.2.2.2.2.2.2.2.2.2.2.2.2.2.2 s3.2.2.2.2.2.2.2.2.2.2.2.1 s3.2.2.2.2.2.2.2.2.2.2.2.2.1) fun (c14:(Bool×((List aG)×((List au)×(Int×(Int×((List Int)×(Int×(Int×(Int×(Int×(Int×(Int×((List (List Int))×((List Int)×((List aj)×((List Int)×(List ah))))))))))))))))))=>
  Option.bind (
    jV (fun (s15:((List aG)×((List au)×(Int×(Int×((List Int)×(Int×(Int×(Int×(Int×(Int×(Int×((List ah)×((List (List Int))×((List Int)×((List aj)×(List Int)))))))))))))))))=>
      let n16:Bool:=(decide (s15.2.2.2.2.2.2.2.2.1=(0:Int)))
      bif n16 then
        let n17:Bool:=(decide (s15.2.2.2.2.2.1≤s15.2.2.2.2.2.2.2.1))
        bif n17 then
          some (.inr (s15.1,(s15.2.1,(s15.2.2.1,(s15.2.2.2.1,(s15.2.2.2.2.1,(s15.2.2.2.2.2.1,(s15.2.2.2.2.2.2.1,(s15.2.2.2.2.2.2.2.1,((3:Int),(s15.2.2.2.2.2.2.2.2.2.1,(s15.2.2.2.2.2.2.2.2.2.2.1,(s15.2.2.2.2.2.2.2.2.2.2.2.1,(s15.2.2.2.2.2.2.2.2.2.2.2.2.1,(s15.2.2.2.2.2.2.2.2.2.2.2.2.2.1,(s15.2.2.2.2.2.2.2.2.2.2.2.2.2.2.1,s15.2.2.2.2.2.2.2.2.2.2.2.2.2.2.2))))))))))))))))
        else
          let n18:Int:=(jW (s15.2.2.2.2.2.2.2.1+(1:Int)))
          let n19:Int:=((List.length s15.2.2.2.2.2.2.2.2.2.2.2.1):Int)
          let n20:Int:=(jW (n19-(1:Int)))
          ck (inB n20 (List.length s15.2.2.2.2.2.2.2.2.2.2.2.1)) <|
          let n21:ah:=(List.getD s15.2.2.2.2.2.2.2.2.2.2.2.1 (Int.toNat ((Int.toNat n20):Int)) (ah.mk (0:Int) (0:Int) (0:Int) ([]:(List Int)) (0:Int)))
          ck (inB n21.fn (List.length p1)) <|
          let n22:au:=(List.getD p1 (Int.toNat n21.fn) (au.mk ([]:(List UInt8)) (0:Int) (0:Int) ([]:(List aC))))
          let n23:ah:=(List.getD s15.2.2.2.2.2.2.2.2.2.2.2.1 (Int.toNat ((Int.toNat n20):Int)) (ah.mk (0:Int) (0:Int) (0:Int) ([]:(List Int)) (0:Int)))
          ck (inB n23.block (List.length n22.blocks)) <|
          let n24:aC:=(List.getD n22.blocks (Int.toNat n23.block) (aC.mk ([]:(List aK)) (0:Int) (0:Int) (0:Int) (0:Int) (0:Int) (0:Int) (0:Int)))
          let n25:ah:=(List.getD s15.2.2.2.2.2.2.2.2.2.2.2.1 (Int.toNat ((Int.toNat n20):Int)) (ah.mk (0:Int) (0:Int) (0:Int) ([]:(List Int)) (0:Int)))
          let n26:Int:=((List.length n24.instrs):Int)
          let n27:Bool:=(decide (n25.at'<n26))
          Option.bind (
            bif n27 then
              let n28:ah:=(List.getD s15.2.2.2.2.2.2.2.2.2.2.2.1 (Int.toNat ((Int.toNat n20):Int)) (ah.mk (0:Int) (0:Int) (0:Int) ([]:(List Int)) (0:Int)))
              let n29:Int:=(jW (n28.at'+(1:Int)))
              let n30:(List ah):=(List.set s15.2.2.2.2.2.2.2.2.2.2.2.1 (Int.toNat ((Int.toNat n20):Int)) (ah.mk (List.getD s15.2.2.2.2.2.2.2.2.2.2.2.1 (Int.toNat ((Int.toNat n20):Int)) (ah.mk (0:Int) (0:Int) (0:Int) ([]:(List Int)) (0:Int))).fn (List.getD s15.2.2.2.2.2.2.2.2.2.2.2.1 (Int.toNat ((Int.toNat n20):Int)) (ah.mk (0:Int) (0:Int) (0:Int) ([]:(List Int)) (0:Int))).block n29 (List.getD s15.2.2.2.2.2.2.2.2.2.2.2.1 (Int.toNat ((Int.toNat n20):Int)) (ah.mk (0:Int) (0:Int) (0:Int) ([]:(List Int)) (0:Int))).regs (List.getD s15.2.2.2.2.2.2.2.2.2.2.2.1 (Int.toNat ((Int.toNat n20):Int)) (ah.mk (0:Int) (0:Int) (0:Int) ([]:(List Int)) (0:Int))).dst))
              let n31:ah:=(List.getD n30 (Int.toNat ((Int.toNat n20):Int)) (ah.mk (0:Int) (0:Int) (0:Int) ([]:(List Int)) (0:Int)))
              let n32:Int:=(jW (n31.at'-(1:Int)))
              ck (inB n32 (List.length n24.instrs)) <|
              let n33:aK:=(List.getD n24.instrs (Int.toNat n32) (aK.mk (0:Int) (0:Int) (0:Int) (0:Int) (0:Int) (0:Int) ([]:(List Int))))
              Option.bind (f20 n33.kind n33.op n33.dst n33.a n33.b n33.value n33.args s15.1 s15.2.1 s15.2.2.1 s15.2.2.2.1 s15.2.2.2.2.1 s15.2.2.2.2.2.1 s15.2.2.2.2.2.2.1 n18 s15.2.2.2.2.2.2.2.2.1 s15.2.2.2.2.2.2.2.2.2.1 s15.2.2.2.2.2.2.2.2.2.2.1 n30 s15.2.2.2.2.2.2.2.2.2.2.2.2.1 s15.2.2.2.2.2.2.2.2.2.2.2.2.2.1 s15.2.2.2.2.2.2.2.2.2.2.2.2.2.2.1 s15.2.2.2.2.2.2.2.2.2.2.2.2.2.2.2) fun (c34:((List aG)×((List au)×(Int×(Int×((List Int)×(Int×(Int×(Int×(Int×(Int×(Int×((List (List Int))×((List aj)×((List Int)×((List ah)×(List Int)))))))))))))))))=>
              some (c34.1,(c34.2.1,(c34.2.2.1,(c34.2.2.2.1,(c34.2.2.2.2.1,(c34.2.2.2.2.2.1,(c34.2.2.2.2.2.2.1,(c34.2.2.2.2.2.2.2.1,(c34.2.2.2.2.2.2.2.2.1,(c34.2.2.2.2.2.2.2.2.2.1,(c34.2.2.2.2.2.2.2.2.2.2.1,(c34.2.2.2.2.2.2.2.2.2.2.2.2.2.2.1,(c34.2.2.2.2.2.2.2.2.2.2.2.1,(c34.2.2.2.2.2.2.2.2.2.2.2.2.2.2.2,(c34.2.2.2.2.2.2.2.2.2.2.2.2.1,c34.2.2.2.2.2.2.2.2.2.2.2.2.2.1)))))))))))))))
            else
              Option.bind (f21 n24.mJ n24.Ce n24.uT n24.kG s15.1 s15.2.1 s15.2.2.1 s15.2.2.2.1 s15.2.2.2.2.1 s15.2.2.2.2.2.1 s15.2.2.2.2.2.2.1 n18 s15.2.2.2.2.2.2.2.2.1 s15.2.2.2.2.2.2.2.2.2.1 s15.2.2.2.2.2.2.2.2.2.2.1 s15.2.2.2.2.2.2.2.2.2.2.2.1 s15.2.2.2.2.2.2.2.2.2.2.2.2.1 s15.2.2.2.2.2.2.2.2.2.2.2.2.2.1 s15.2.2.2.2.2.2.2.2.2.2.2.2.2.2.1 s15.2.2.2.2.2.2.2.2.2.2.2.2.2.2.2) fun (vI:((List aG)×((List au)×(Int×(Int×((List Int)×(Int×(Int×(Int×(Int×(Int×(Int×((List (List Int))×((List Int)×((List aj)×((List Int)×(List ah)))))))))))))))))=>
              some (vI.1,(vI.2.1,(vI.2.2.1,(vI.2.2.2.1,(vI.2.2.2.2.1,(vI.2.2.2.2.2.1,(vI.2.2.2.2.2.2.1,(vI.2.2.2.2.2.2.2.1,(vI.2.2.2.2.2.2.2.2.1,(vI.2.2.2.2.2.2.2.2.2.1,(vI.2.2.2.2.2.2.2.2.2.2.1,(vI.2.2.2.2.2.2.2.2.2.2.2.2.2.2.2,(vI.2.2.2.2.2.2.2.2.2.2.2.1,(vI.2.2.2.2.2.2.2.2.2.2.2.2.1,(vI.2.2.2.2.2.2.2.2.2.2.2.2.2.1,vI.2.2.2.2.2.2.2.2.2.2.2.2.2.2.1)))))))))))))))) fun (s36:((List aG)×((List au)×(Int×(Int×((List Int)×(Int×(Int×(Int×(Int×(Int×(Int×((List ah)×((List (List Int))×((List Int)×((List aj)×(List Int)))))))))))))))))=>
          some (.inl (s36.1,(s36.2.1,(s36.2.2.1,(s36.2.2.2.1,(s36.2.2.2.2.1,(s36.2.2.2.2.2.1,(s36.2.2.2.2.2.2.1,(s36.2.2.2.2.2.2.2.1,(s36.2.2.2.2.2.2.2.2.1,(s36.2.2.2.2.2.2.2.2.2.1,(s36.2.2.2.2.2.2.2.2.2.2.1,(s36.2.2.2.2.2.2.2.2.2.2.2.1,(s36.2.2.2.2.2.2.2.2.2.2.2.2.1,(s36.2.2.2.2.2.2.2.2.2.2.2.2.2.1,(s36.2.2.2.2.2.2.2.2.2.2.2.2.2.2.1,s36.2.2.2.2.2.2.2.2.2.2.2.2.2.2.2))))))))))))))))
      else
        some (.inr (s15.1,(s15.2.1,(s15.2.2.1,(s15.2.2.2.1,(s15.2.2.2.2.1,(s15.2.2.2.2.2.1,(s15.2.2.2.2.2.2.1,(s15.2.2.2.2.2.2.2.1,(s15.2.2.2.2.2.2.2.2.1,(s15.2.2.2.2.2.2.2.2.2.1,(s15.2.2.2.2.2.2.2.2.2.2.1,(s15.2.2.2.2.2.2.2.2.2.2.2.1,(s15.2.2.2.2.2.2.2.2.2.2.2.2.1,(s15.2.2.2.2.2.2.2.2.2.2.2.2.2.1,(s15.2.2.2.2.2.2.2.2.2.2.2.2.2.2.1,s15.2.2.2.2.2.2.2.2.2.2.2.2.2.2.2))))))))))))))))) (c14.2.1,(c14.2.2.1,(c14.2.2.2.1,(c14.2.2.2.2.1,(c14.2.2.2.2.2.1,(c14.2.2.2.2.2.2.1,(c14.2.2.2.2.2.2.2.1,(c14.2.2.2.2.2.2.2.2.1,(c14.2.2.2.2.2.2.2.2.2.1,(c14.2.2.2.2.2.2.2.2.2.2.1,(c14.2.2.2.2.2.2.2.2.2.2.2.1,(c14.2.2.2.2.2.2.2.2.2.2.2.2.2.2.2.2,(c14.2.2.2.2.2.2.2.2.2.2.2.2.1,(c14.2.2.2.2.2.2.2.2.2.2.2.2.2.1,(c14.2.2.2.2.2.2.2.2.2.2.2.2.2.2.1,c14.2.2.2.2.2.2.2.2.2.2.2.2.2.2.2.1)))))))))))))))) fun (TB:((List aG)×((List au)×(Int×(Int×((List Int)×(Int×(Int×(Int×(Int×(Int×(Int×((List ah)×((List (List Int))×((List Int)×((List aj)×(List Int)))))))))))))))))=>
  let n38:Int:=((List.length TB.2.2.2.2.2.2.2.2.2.2.2.1):Int)
  let n39:Int:=(jW (n38-(1:Int)))
  Option.bind (
    jV (fun (Nh:(Int×(Int×(Int×(Int×(Int×(List mG)))))))=>
      let n41:Bool:=(decide ((0:Int)≤Nh.1))
      bif n41 then
        ck (inB Nh.1 (List.length TB.2.2.2.2.2.2.2.2.2.2.2.1)) <|
        let n42:ah:=(List.getD TB.2.2.2.2.2.2.2.2.2.2.2.1 (Int.toNat ((Int.toNat Nh.1):Int)) (ah.mk (0:Int) (0:Int) (0:Int) ([]:(List Int)) (0:Int)))
        ck (inB Nh.1 (List.length TB.2.2.2.2.2.2.2.2.2.2.2.1)) <|
        let n43:ah:=(List.getD TB.2.2.2.2.2.2.2.2.2.2.2.1 (Int.toNat ((Int.toNat Nh.1):Int)) (ah.mk (0:Int) (0:Int) (0:Int) ([]:(List Int)) (0:Int)))
        let n44:(List mG):=[(mG.mk n42.fn n43.block)]
        ck (true&&(decide ((((List.length Nh.2.2.2.2.2)+(List.length n44))*(16:Nat))≤(140737488355328:Nat)))) <|
        let n45:(List mG):=(Nh.2.2.2.2.2++n44)
        let n46:Int:=(jW (Nh.1-(1:Int)))
        some (.inl (n46,(Nh.2.1,(Nh.2.2.1,(Nh.2.2.2.1,(Nh.2.2.2.2.1,n45))))))
      else
        some (.inr (Nh.2.1,(Nh.2.2.1,(Nh.2.2.2.1,(Nh.2.2.2.2.1,Nh.2.2.2.2.2)))))) (n39,(TB.2.2.2.2.2.2.2.2.1,(TB.2.2.2.2.2.2.2.2.2.2.1,(TB.2.2.2.2.2.2.2.2.2.1,(TB.2.2.2.2.2.2.2.1,([]:(List mG)))))))) fun (s47:(Int×(Int×(Int×(Int×(List mG))))))=>
  some (s47.1,(s47.2.1,(s47.2.2.1,(TB.2.2.2.2.2.2.2.2.2.2.2.2.2.1,(TB.2.2.2.2.2.2.2.2.2.2.2.2.2.2.1,(s47.2.2.2.1,(s47.2.2.2.2,TB.2.2.2.2.2.2.2.2.2.2.2.2.2.2.2)))))))
noncomputable def sp6:bT:=⟨sg6,fun x=>f6 x.1 x.2.1 x.2.2.1 x.2.2.2.1 x.2.2.2.2.1 x.2.2.2.2.2.1 x.2.2.2.2.2.2⟩
theorem aa3:bg Try.prog 6 sp6:=
  aJ (T:=dw.of [(17,aco),(18,acp),(19,aaX),(20,acP),(21,acs)]) (ety:=ab6) [.cell 6 52] an6 Try.func6 rfl rfl rfl (show sg6.er.ok=true by decide +kernel) rfl (show sg6.aO≤Try.f6.ntmps by decide +kernel) rfl (fC.sound ⟨XW,XY,QE,Yp,X3,trivial⟩) fV mixed fun x=>by kernel_rfl
noncomputable def f33 (p0:(List aG)) (p1:(List au)) (p2 p3:Int) (p4:(List UInt8)) (p5 p6:Int) (p7:(List aC)) (p8 p9 p10 p11 p12 p13:Int) (qJ:(List Int)):Option Int:=
  Option.bind (f39 p8 p9 p10 p11 p12 p13 qJ) fun (c0:Bool)=>
  let n1:Bool:=(!c0)
  bif n1 then
    some (17:Int)
  else
    Option.bind (f40 p8 p9 p10 p11 p12 p13 qJ) fun (c2:(List Int))=>
    Option.bind (f41 p8 p9 p10 p11 p12 p13 qJ) fun (c3:(Int×Bool))=>
    Option.bind (
      bif c3.2 then
        let n4:(List Int):=[c3.1]
        ck (true&&(decide ((((List.length c2)+(List.length n4))*(8:Nat))≤(140737488355328:Nat)))) <|
        let n5:(List Int):=(c2++n4)
        some n5
      else
        some c2) fun (s6:(List Int))=>
    Option.bind (f43 p4 p5 p6 p7) fun (c7:((List UInt8)×(Int×(Int×(List aC)))))=>
    Option.bind (AY s6 c7.1 c7.2.1 c7.2.2.1 c7.2.2.2) fun (c8:(Bool×((List UInt8)×(Int×(Int×(List aC))))))=>
    bif c8.1 then
      some (14:Int)
    else
      let n9:Bool:=(decide (p8=(5:Int)))
      Option.bind (
        bif n9 then
          some true
        else
          let n10:Bool:=(decide (p8=(6:Int)))
          Option.bind (
            bif n10 then
              some true
            else
              let n11:Bool:=(decide (p8=(7:Int)))
              Option.bind (
                bif n11 then
                  some true
                else
                  let n12:Bool:=(decide (p8=(8:Int)))
                  some n12) fun (s13:Bool)=>
              some s13) fun (s14:Bool)=>
          some s14) fun (s15:Bool)=>
      fQ (
        bif s15 then
          Option.bind (
            let n16:Bool:=(decide (p8=(7:Int)))
            bif n16 then
              some true
            else
              let n17:Bool:=(decide (p8=(8:Int)))
              let n18:Bool:=n17
              some n18) fun (X0:Bool)=>
          Option.bind (
            let n20:Int:=((List.length p0):Int)
            let n21:Int:=(jW (n20-(1:Int)))
            Option.bind (f22 p13 (0:Int) n21) fun (c22:Bool)=>
            let n23:Bool:=(!c22)
            bif n23 then
              some true
            else
              ck (inB p13 (List.length p0)) <|
              let n24:aG:=(List.getD p0 (Int.toNat p13) (aG.mk ([]:(List UInt8)) (0:Int)))
              let n25:Bool:=(decide ((0:Int)<n24.size))
              let n26:Bool:=(n25 != X0)
              let n27:Bool:=n26
              some n27) fun (s28:Bool)=>
          bif s28 then
            some (.inr (16:Int))
          else
            some (.inl ())
        else
          let n29:Bool:=(decide (p8=(11:Int)))
          fQ (
            bif n29 then
              let n30:Int:=((List.length p1):Int)
              let n31:Int:=(jW (n30-(1:Int)))
              Option.bind (f22 p13 (0:Int) n31) fun (c32:Bool)=>
              let n33:Bool:=(!c32)
              bif n33 then
                some (.inr (.inr (15:Int)))
              else
                ck (inB p13 (List.length p1)) <|
                let n34:au:=(List.getD p1 (Int.toNat p13) (au.mk ([]:(List UInt8)) (0:Int) (0:Int) ([]:(List aC))))
                let n35:Int:=((List.length qJ):Int)
                let n36:Bool:=(!(decide (n34.params=n35)))
                bif n36 then
                  some (.inr (.inr (11:Int)))
                else
                  some (.inl ())
            else
              let n37:Bool:=(decide (p8=(12:Int)))
              fQ (
                bif n37 then
                  let n38:Int:=((List.length qJ):Int)
                  let n39:Bool:=(decide ((250:Int)<n38))
                  bif n39 then
                    some (.inr (.inr (.inr (11:Int))))
                  else
                    some (.inl ())
                else
                  let n40:Bool:=(decide (p8=(14:Int)))
                  fQ (
                    bif n40 then
                      let n41:Int:=(jW (p2-(1:Int)))
                      Option.bind (f22 p13 (0:Int) n41) fun (c42:Bool)=>
                      let n43:Bool:=(!c42)
                      bif n43 then
                        some (.inr (.inr (.inr (.inr (15:Int)))))
                      else
                        some (.inl ())
                    else
                      let n44:Bool:=(decide (p8=(13:Int)))
                      fQ (
                        bif n44 then
                          let n45:Int:=(jW (p3-(1:Int)))
                          Option.bind (f22 p13 (0:Int) n45) fun (c46:Bool)=>
                          let n47:Bool:=(!c46)
                          bif n47 then
                            some (.inr (.inr (.inr (.inr (.inr (1:Int))))))
                          else
                            some (.inl ())
                        else
                          some (.inl ())) fun (s48:PUnit)=>
                      some (.inl ())) fun (s49:PUnit)=>
                  some (.inl ())) fun (s50:PUnit)=>
              some (.inl ())) fun (s51:PUnit)=>
          some (.inl ())) fun (s52:PUnit)=>
      some (0:Int)
noncomputable def acQ:bT:=⟨aaR,fun x=>f33 x.1 x.2.1 x.2.2.1 x.2.2.2.1 x.2.2.2.2.1 x.2.2.2.2.2.1 x.2.2.2.2.2.2.1 x.2.2.2.2.2.2.2.1 x.2.2.2.2.2.2.2.2.1 x.2.2.2.2.2.2.2.2.2.1 x.2.2.2.2.2.2.2.2.2.2.1 x.2.2.2.2.2.2.2.2.2.2.2.1 x.2.2.2.2.2.2.2.2.2.2.2.2.1 x.2.2.2.2.2.2.2.2.2.2.2.2.2.1 x.2.2.2.2.2.2.2.2.2.2.2.2.2.2⟩
theorem Yq:bg Try.prog 33 acQ:=
  aJ (T:=dw.of [(39,acA),(40,acB),(41,acC),(43,aa1),(47000042,yh),(52000042,yj),(22,Gw)]) (ety:=ety) [.tmp 6] aey Try.func33 rfl rfl rfl (show aaR.er.ok=true by decide +kernel) rfl (show aaR.aO≤Try.f33.ntmps by decide +kernel) rfl (fC.sound ⟨X9,X_,Ya,QI,wP,wQ,mZ,trivial⟩) fV mixed fun x=>by kernel_rfl
noncomputable def f34 (p0:(List UInt8)) (p1 p2:Int) (p3:(List aC)) (p4 p5 p6 p7:Int):Option Int:=
  Option.bind (f22 p4 (1:Int) (3:Int)) fun (c0:Bool)=>
  let n1:Bool:=(!c0)
  bif n1 then
    some (17:Int)
  else
    Option.bind (f44 p4 p5 p6 p7) fun (c2:(List Int))=>
    Option.bind (f43 p0 p1 p2 p3) fun (c3:((List UInt8)×(Int×(Int×(List aC)))))=>
    Option.bind (AY c2 c3.1 c3.2.1 c3.2.2.1 c3.2.2.2) fun (c4:(Bool×((List UInt8)×(Int×(Int×(List aC))))))=>
    bif c4.1 then
      some (14:Int)
    else
      Option.bind (f45 p4 p5 p6 p7) fun (c5:(List Int))=>
      Option.bind (Il c5 p0 p1 p2 p3) fun (c6:(Bool×((List UInt8)×(Int×(Int×(List aC))))))=>
      bif c6.1 then
        some (13:Int)
      else
        some (0:Int)
noncomputable def acR:bT:=⟨aaS,fun x=>f34 x.1 x.2.1 x.2.2.1 x.2.2.2.1 x.2.2.2.2.1 x.2.2.2.2.2.1 x.2.2.2.2.2.2.1 x.2.2.2.2.2.2.2⟩
theorem Yr:bg Try.prog 34 acR:=
  aJ (T:=dw.of [(22,Gw),(44,acD),(43,aa1),(47000042,yh),(52000042,yj),(45,aa0),(46,Yc)]) (ety:=ety) [.tmp 4] aez Try.func34 rfl rfl rfl (show aaS.er.ok=true by decide +kernel) rfl (show aaS.aO≤Try.f34.ntmps by decide +kernel) rfl (fC.sound ⟨mZ,Yb,QI,wP,wQ,QH,JV,trivial⟩) fV mixed fun x=>by kernel_rfl
noncomputable def f25 (p0:(List aG)) (p1:(List au)) (p2 p3:Int) (p4:(List UInt8)) (p5 p6:Int) (p7:(List aC)):Option Int:=
  let n0:Int:=((List.length p7):Int)
  Option.bind (f22 n0 (1:Int) (256:Int)) fun (c1:Bool)=>
  let n2:Bool:=(!c1)
  Option.bind (
    bif n2 then
      some true
    else
      Option.bind (f15 p4 p5 p6 p7) fun (c3:Int)=>
      let n4:Bool:=(decide ((2048:Int)<c3))
      some n4) fun (s5:Bool)=>
  bif s5 then
    some (5:Int)
  else
    Option.bind (f22 p6 (0:Int) (250:Int)) fun (c6:Bool)=>
    let n7:Bool:=(!c6)
    Option.bind (
      bif n7 then
        some true
      else
        Option.bind (f22 p5 (0:Int) p6) fun (c8:Bool)=>
        let n9:Bool:=(!c8)
        some n9) fun (s10:Bool)=>
    bif s10 then
      some (14:Int)
    else
      let n11:Int:=((List.length p7):Int)
      fQ (
        jV (fun (s12:Int)=>
          let n13:Bool:=(decide (s12<n11))
          bif n13 then
            ck (inB s12 (List.length p7)) <|
            let n14:aC:=(List.getD p7 (Int.toNat s12) (aC.mk ([]:(List aK)) (0:Int) (0:Int) (0:Int) (0:Int) (0:Int) (0:Int) (0:Int)))
            let n15:Int:=((List.length n14.instrs):Int)
            fQ (
              jV (fun (s16:Int)=>
                let n17:Bool:=(decide (s16<n15))
                bif n17 then
                  ck (inB s16 (List.length n14.instrs)) <|
                  let n18:aK:=(List.getD n14.instrs (Int.toNat s16) (aK.mk (0:Int) (0:Int) (0:Int) (0:Int) (0:Int) (0:Int) ([]:(List Int))))
                  Option.bind (f33 p0 p1 p2 p3 p4 p5 p6 p7 n18.kind n18.op n18.dst n18.a n18.b n18.value n18.args) fun (c19:Int)=>
                  let n20:Bool:=(!(decide (c19=(0:Int))))
                  bif n20 then
                    some (.inr (.inr (.inr (.inr c19))))
                  else
                    let n21:Int:=(jW (s16+(1:Int)))
                    some (.inl n21)
                else
                  some (.inr (.inl ()))) (0:Int)) fun (Y2:PUnit)=>
            Option.bind (f34 p4 p5 p6 p7 n14.mJ n14.Ce n14.uT n14.kG) fun (c23:Int)=>
            let n24:Bool:=(!(decide (c23=(0:Int))))
            bif n24 then
              some (.inr (.inr c23))
            else
              let n25:Int:=(jW (s12+(1:Int)))
              some (.inl n25)
          else
            some (.inr (.inl ()))) (0:Int)) fun (s26:PUnit)=>
      Option.bind (f36 p4 p5 p6 p7) fun (c27:(List Bool))=>
      Option.bind (f35 c27 false) fun (c28:Bool)=>
      bif c28 then
        some (13:Int)
      else
        some (0:Int)
noncomputable def acS:bT:=⟨aaT,fun x=>f25 x.1 x.2.1 x.2.2.1 x.2.2.2.1 x.2.2.2.2.1 x.2.2.2.2.2.1 x.2.2.2.2.2.2.1 x.2.2.2.2.2.2.2⟩
theorem Yt:bg Try.prog 25 acS:=
  aJ (T:=dw.of [(22,Gw),(15,aaW),(33,acQ),(34,acR),(36,acN),(35,acM)]) (ety:=ety) [.tmp 4] aeA Try.func25 rfl rfl rfl (show aaT.er.ok=true by decide +kernel) rfl (show aaT.aO≤Try.f25.ntmps by decide +kernel) rfl (fC.sound ⟨mZ,QD,Yq,Yr,Yn,Ym,trivial⟩) fV mixed fun x=>by kernel_rfl
noncomputable def f8 (p0:(List aG)) (p1:(List au)) (p2 p3:Int):Option Int:=
  let n0:Int:=((List.length p1):Int)
  Option.bind (f22 n0 (1:Int) (64:Int)) fun (c1:Bool)=>
  let n2:Bool:=(!c1)
  Option.bind (
    bif n2 then
      some true
    else
      let n3:Int:=((List.length p0):Int)
      let n4:Bool:=(decide ((32:Int)<n3))
      Option.bind (
        bif n4 then
          some true
        else
          Option.bind (f22 p3 (0:Int) (4096:Int)) fun (c5:Bool)=>
          let n6:Bool:=(!c5)
          some n6) fun (s7:Bool)=>
      some s7) fun (s8:Bool)=>
  bif s8 then
    some (5:Int)
  else
    Option.bind (f23 p0) fun (c9:Bool)=>
    bif c9 then
      some (16:Int)
    else
      let n10:Int:=((List.length p1):Int)
      Option.bind (f22 p2 (0:Int) n10) fun (c11:Bool)=>
      let n12:Bool:=(!c11)
      bif n12 then
        some (15:Int)
      else
        ck (inB (0:Int) (List.length p1)) <|
        let n13:au:=(List.getD p1 (Int.toNat (0:Int)) (au.mk ([]:(List UInt8)) (0:Int) (0:Int) ([]:(List aC))))
        let n14:Bool:=(!(decide (n13.params=(0:Int))))
        bif n14 then
          some (12:Int)
        else
          let n15:Int:=((List.length p1):Int)
          fQ (
            jV (fun (s16:Int)=>
              let n17:Bool:=(decide (s16<n15))
              bif n17 then
                ck (inB s16 (List.length p1)) <|
                let n18:au:=(List.getD p1 (Int.toNat s16) (au.mk ([]:(List UInt8)) (0:Int) (0:Int) ([]:(List aC))))
                Option.bind (f25 p0 p1 p2 p3 n18.name n18.params n18.regs n18.blocks) fun (c19:Int)=>
                let n20:Bool:=(!(decide (c19=(0:Int))))
                bif n20 then
                  some (.inr (.inr c19))
                else
                  let n21:Int:=(jW (s16+(1:Int)))
                  some (.inl n21)
              else
                some (.inr (.inl ()))) (0:Int)) fun (Y2:PUnit)=>
          some (0:Int)
noncomputable def sp8:bT:=⟨sg8,fun x=>f8 x.1 x.2.1 x.2.2.1 x.2.2.2⟩
theorem aa4:bg Try.prog 8 sp8:=
  aJ (T:=dw.of [(22,Gw),(23,acI),(25,acS)]) (ety:=ety) [.tmp 2] an8 Try.func8 rfl rfl rfl (show sg8.er.ok=true by decide +kernel) rfl (show sg8.aO≤Try.f8.ntmps by decide +kernel) rfl (fC.sound ⟨mZ,Yi,Yt,trivial⟩) fV mixed fun x=>by kernel_rfl
noncomputable def f5 (p0:(List aG)) (p1:(List au)) (p2 p3 p4 p5 p6 p7:Int):Option ((List aG)×(Int×(Int×(Int×(List au))))):=
  Option.bind (f8 p0 p1 p2 p3) fun (c0:Int)=>
  let n1:Bool:=(!(decide (c0=(0:Int))))
  bif n1 then
    some (([]:(List aG)),((0:Int),((0:Int),(c0,([]:(List au))))))
  else
    Option.bind (f9 p0 p1 p2 p3 p4 p5 p6) fun (c2:(Int×(Int×(Int×(Int×(Int×(Int×((List Int)×Bool))))))))=>
    let n3:Bool:=(!c2.2.2.2.2.2.2.2)
    bif n3 then
      some (([]:(List aG)),((0:Int),((0:Int),((36:Int),([]:(List au))))))
    else
      Option.bind (f11 p0 p1 p2 p3 p4 p5 p6) fun (c4:(List Int))=>
      Option.bind (f10 c4 p7) fun (c5:Bool)=>
      let n6:Bool:=(!c5)
      bif n6 then
        some (([]:(List aG)),((0:Int),((0:Int),((39:Int),([]:(List au))))))
      else
        ck (inB p4 (List.length p1)) <|
        let n7:au:=(List.getD p1 (Int.toNat p4) (au.mk ([]:(List UInt8)) (0:Int) (0:Int) ([]:(List aC))))
        let n8:Int:=((List.length n7.blocks):Int)
        ck (inB p5 (List.length n7.blocks)) <|
        let n9:aC:=(List.getD n7.blocks (Int.toNat p5) (aC.mk ([]:(List aK)) (0:Int) (0:Int) (0:Int) (0:Int) (0:Int) (0:Int) (0:Int)))
        let n10:Int:=(jW (n8+(2:Int)))
        ck (Gn (0:Int) p6 (List.length n9.instrs)) <|
        let n11:(List aK):=(List.drop (Int.toNat (0:Int)) (List.take (Int.toNat p6) n9.instrs))
        Option.bind (f12 n11) fun (c12:(List aK))=>
        let n13:Int:=(jW (n7.regs+(1:Int)))
        let n14:(List aK):=[(aK.mk (14:Int) (0:Int) n7.regs (0:Int) (0:Int) p7 ([]:(List Int))),(aK.mk (4:Int) (10:Int) n13 c2.2.2.2.1 n7.regs (0:Int) ([]:(List Int)))]
        ck (true&&(decide ((((List.length c12)+(List.length n14))*(72:Nat))≤(140737488355328:Nat)))) <|
        let n15:(List aK):=(c12++n14)
        let n16:Int:=(jW (n7.regs+(1:Int)))
        let n17:Int:=(jW (n8+(1:Int)))
        Option.bind (f13 n7.blocks) fun (c18:(List aC))=>
        ck (inB p5 (List.length c18)) <|
        let n19:(List aC):=(List.set c18 (Int.toNat ((Int.toNat p5):Int)) (aC.mk n15 (2:Int) n16 n8 n17 (0:Int) (0:Int) (0:Int)))
        Option.bind (f14 c2.2.2.2.2.2.2.1) fun (c20:(List Int))=>
        let n21:(List aK):=[(aK.mk (11:Int) (0:Int) c2.2.2.1 (0:Int) (0:Int) p7 c20)]
        let n22:(List aK):=[(aK.mk c2.1 c2.2.1 c2.2.2.1 c2.2.2.2.1 c2.2.2.2.2.1 c2.2.2.2.2.2.1 c2.2.2.2.2.2.2.1)]
        let n23:Int:=(jW (p6+(1:Int)))
        ck (Gn n23 ((List.length n9.instrs):Int) (List.length n9.instrs)) <|
        let n24:(List aK):=(List.drop (Int.toNat n23) (List.take (Int.toNat ((List.length n9.instrs):Int)) n9.instrs))
        Option.bind (f12 n24) fun (c25:(List aK))=>
        let n26:(List aC):=[(aC.mk n21 (1:Int) (0:Int) n10 (0:Int) (0:Int) (0:Int) (0:Int)),(aC.mk n22 (1:Int) (0:Int) n10 (0:Int) (0:Int) (0:Int) (0:Int)),(aC.mk c25 n9.mJ n9.Ce n9.uT n9.kG (0:Int) (0:Int) (0:Int))]
        ck (true&&(decide ((((List.length n19)+(List.length n26))*(80:Nat))≤(140737488355328:Nat)))) <|
        let n27:(List aC):=(n19++n26)
        let n28:Int:=(jW (n8+(1:Int)))
        let n29:Int:=(jW (n8+(2:Int)))
        let n30:(List Int):=[p5,n8,n28,n29]
        let n31:Int:=((List.length n30):Int)
        Option.bind (
          jV (fun (QJ:(Int×(List aC)))=>
            let n33:Bool:=(decide (QJ.1<n31))
            bif n33 then
              ck (inB QJ.1 (List.length n30)) <|
              let n34:Int:=(List.getD n30 (Int.toNat ((Int.toNat QJ.1):Int)) (0:Int))
              ck (inB n34 (List.length QJ.2)) <|
              let n35:(List aC):=(List.set QJ.2 (Int.toNat ((Int.toNat n34):Int)) (aC.mk (List.getD QJ.2 (Int.toNat ((Int.toNat n34):Int)) (aC.mk ([]:(List aK)) (0:Int) (0:Int) (0:Int) (0:Int) (0:Int) (0:Int) (0:Int))).instrs (List.getD QJ.2 (Int.toNat ((Int.toNat n34):Int)) (aC.mk ([]:(List aK)) (0:Int) (0:Int) (0:Int) (0:Int) (0:Int) (0:Int) (0:Int))).mJ (List.getD QJ.2 (Int.toNat ((Int.toNat n34):Int)) (aC.mk ([]:(List aK)) (0:Int) (0:Int) (0:Int) (0:Int) (0:Int) (0:Int) (0:Int))).Ce (List.getD QJ.2 (Int.toNat ((Int.toNat n34):Int)) (aC.mk ([]:(List aK)) (0:Int) (0:Int) (0:Int) (0:Int) (0:Int) (0:Int) (0:Int))).uT (List.getD QJ.2 (Int.toNat ((Int.toNat n34):Int)) (aC.mk ([]:(List aK)) (0:Int) (0:Int) (0:Int) (0:Int) (0:Int) (0:Int) (0:Int))).kG n9.line (List.getD QJ.2 (Int.toNat ((Int.toNat n34):Int)) (aC.mk ([]:(List aK)) (0:Int) (0:Int) (0:Int) (0:Int) (0:Int) (0:Int) (0:Int))).r_ (List.getD QJ.2 (Int.toNat ((Int.toNat n34):Int)) (aC.mk ([]:(List aK)) (0:Int) (0:Int) (0:Int) (0:Int) (0:Int) (0:Int) (0:Int))).oU))
              ck (inB n34 (List.length n35)) <|
              let n36:(List aC):=(List.set n35 (Int.toNat ((Int.toNat n34):Int)) (aC.mk (List.getD n35 (Int.toNat ((Int.toNat n34):Int)) (aC.mk ([]:(List aK)) (0:Int) (0:Int) (0:Int) (0:Int) (0:Int) (0:Int) (0:Int))).instrs (List.getD n35 (Int.toNat ((Int.toNat n34):Int)) (aC.mk ([]:(List aK)) (0:Int) (0:Int) (0:Int) (0:Int) (0:Int) (0:Int) (0:Int))).mJ (List.getD n35 (Int.toNat ((Int.toNat n34):Int)) (aC.mk ([]:(List aK)) (0:Int) (0:Int) (0:Int) (0:Int) (0:Int) (0:Int) (0:Int))).Ce (List.getD n35 (Int.toNat ((Int.toNat n34):Int)) (aC.mk ([]:(List aK)) (0:Int) (0:Int) (0:Int) (0:Int) (0:Int) (0:Int) (0:Int))).uT (List.getD n35 (Int.toNat ((Int.toNat n34):Int)) (aC.mk ([]:(List aK)) (0:Int) (0:Int) (0:Int) (0:Int) (0:Int) (0:Int) (0:Int))).kG (List.getD n35 (Int.toNat ((Int.toNat n34):Int)) (aC.mk ([]:(List aK)) (0:Int) (0:Int) (0:Int) (0:Int) (0:Int) (0:Int) (0:Int))).line n9.r_ n9.oU))
              let n37:Int:=(jW (QJ.1+(1:Int)))
              some (.inl (n37,n36))
            else
              some (.inr QJ.2)) ((0:Int),n27)) fun (s38:(List aC))=>
        let n39:Int:=(jW (n7.regs+(2:Int)))
        Option.bind (
          let n40:Int:=((List.length s38):Int)
          let n41:Bool:=(decide ((256:Int)<n40))
          bif n41 then
            some true
          else
            Option.bind (f15 n7.name n7.params n39 s38) fun (c42:Int)=>
            let n43:Bool:=(decide ((2048:Int)<c42))
            let n44:Bool:=n43
            bif n44 then
              some true
            else
              let n45:Bool:=(decide ((250:Int)<n39))
              let n46:Bool:=n45
              some n46) fun (s47:Bool)=>
        bif s47 then
          some (([]:(List aG)),((0:Int),((0:Int),((5:Int),([]:(List au))))))
        else
          Option.bind (f16 p1) fun (JX:(List au))=>
          ck (inB p4 (List.length JX)) <|
          let n49:(List au):=(List.set JX (Int.toNat ((Int.toNat p4):Int)) (au.mk n7.name n7.params n39 s38))
          some (p0,(p2,(p3,((0:Int),n49))))
noncomputable def sp5:bT:=⟨sg5,fun x=>f5 x.1 x.2.1 x.2.2.1 x.2.2.2.1 x.2.2.2.2.1 x.2.2.2.2.2.1 x.2.2.2.2.2.2.1 x.2.2.2.2.2.2.2⟩
theorem Ws:bg Try.prog 5 sp5:=
  aJ (T:=dw.of [(8,sp8),(9,sp9),(11,ab7),(10,acH),(12,ab_),(13,acf),(14,aaV),(15,aaW),(16,acn)]) (ety:=ety) [.cell 6 39,.tmp 7] an5 Try.func5 rfl rfl rfl (show sg5.er.ok=true by decide +kernel) rfl (show sg5.aO≤Try.f5.ntmps by decide +kernel) rfl (fC.sound ⟨aa4,Wi,XR,Yh,XT,XU,QC,QD,XV,trivial⟩) fV mixed fun x=>by kernel_rfl
noncomputable def f4:Option Bool:=
  Option.bind (f7) fun (c0:(Int×(Int×(List au))))=>
  Option.bind (f5 ([]:(List aG)) c0.2.2 c0.1 c0.2.1 (0:Int) (0:Int) (1:Int) (1:Int)) fun (c1:((List aG)×(Int×(Int×(Int×(List au))))))=>
  Option.bind (
    let n2:Bool:=(decide (c1.2.2.2.1=(0:Int)))
    bif n2 then
      let n3:Int:=((List.length c1.2.2.2.2):Int)
      let n4:Bool:=(decide (n3=(2:Int)))
      let n5:Bool:=n4
      bif n5 then
        ck (inB (0:Int) (List.length c1.2.2.2.2)) <|
        let n6:au:=(List.getD c1.2.2.2.2 (Int.toNat ((Int.toNat (0:Int)):Int)) (au.mk ([]:(List UInt8)) (0:Int) (0:Int) ([]:(List aC))))
        let n7:Int:=((List.length n6.blocks):Int)
        let n8:Bool:=(decide (n7=(6:Int)))
        let n9:Bool:=n8
        bif n9 then
          ck (inB (0:Int) (List.length c1.2.2.2.2)) <|
          let n10:au:=(List.getD c1.2.2.2.2 (Int.toNat ((Int.toNat (0:Int)):Int)) (au.mk ([]:(List UInt8)) (0:Int) (0:Int) ([]:(List aC))))
          let n11:Bool:=(decide (n10.regs=(4:Int)))
          let n12:Bool:=n11
          some n12
        else
          some false
      else
        some false
    else
      some false) fun (s13:Bool)=>
  some s13
noncomputable def sp4:bT:=⟨sg4,fun x=>f4⟩
theorem aa5:bg Try.prog 4 sp4:=
  aJ (T:=dw.of [(7,sp7),(5,sp5)]) (ety:=ety) [.tmp 0] an4 Try.func4 rfl rfl rfl (show sg4.er.ok=true by decide +kernel) rfl (show sg4.aO≤Try.f4.ntmps by decide +kernel) rfl (fC.sound ⟨aaU,Ws,trivial⟩) fV mixed fun x=>by kernel_rfl
noncomputable def JY (p0:Bool) (n3:Int):Option Bool:=
  Option.bind (f4) fun (c0:Bool)=>
  let n1:Bool:=(!c0)
  bif n1 then
    some false
  else
    let n4:Int:=(jW ((1:Int)+n3))
    let n5:(List aK):=[(aK.mk (10:Int) (0:Int) (0:Int) (0:Int) (0:Int) (0:Int) ([]:(List Int)))]
    let n6:(List aC):=[(aC.mk n5 (3:Int) (0:Int) (0:Int) (0:Int) (0:Int) (0:Int) (0:Int))]
    let n7:(List aK):=[(aK.mk (1:Int) (0:Int) (0:Int) (0:Int) (0:Int) n4 ([]:(List Int))),(aK.mk (1:Int) (0:Int) (2:Int) (0:Int) (0:Int) (1:Int) ([]:(List Int)))]
    let n8:(List Int):=[(0:Int)]
    let n9:(List aK):=[(aK.mk (14:Int) (0:Int) (1:Int) (0:Int) (0:Int) (1:Int) ([]:(List Int))),(aK.mk (12:Int) (0:Int) (3:Int) (1:Int) (0:Int) (0:Int) n8),(aK.mk (4:Int) (4:Int) (0:Int) (0:Int) (2:Int) (0:Int) ([]:(List Int)))]
    let n10:(List aC):=[(aC.mk n7 (1:Int) (0:Int) (1:Int) (0:Int) (0:Int) (0:Int) (0:Int)),(aC.mk n9 (2:Int) (0:Int) (1:Int) (2:Int) (0:Int) (0:Int) (0:Int)),(aC.mk ([]:(List aK)) (3:Int) (3:Int) (0:Int) (0:Int) (0:Int) (0:Int) (0:Int))]
    let n11:(List au):=[(au.mk [(109:UInt8),(97:UInt8),(105:UInt8),(110:UInt8)] (0:Int) (4:Int) n10),(au.mk [(102:UInt8)] (1:Int) (1:Int) n6),(au.mk [(102:UInt8)] (1:Int) (1:Int) n6)]
    Option.bind (
      bif p0 then
        some (1:Int)
      else
        some (2:Int)) fun (s12:Int)=>
    Option.bind (f5 ([]:(List aG)) n11 (3:Int) (0:Int) (0:Int) (1:Int) (1:Int) s12) fun (c13:((List aG)×(Int×(Int×(Int×(List au))))))=>
    Option.bind (
      let n14:Bool:=(!(decide (c13.2.2.2.1=(0:Int))))
      bif n14 then
        some true
      else
        let n15:Int:=((List.length c13.2.2.2.2):Int)
        let n16:Bool:=(!(decide (n15=(3:Int))))
        let n17:Bool:=n16
        bif n17 then
          some true
        else
          ck (inB (0:Int) (List.length c13.2.2.2.2)) <|
          let n18:au:=(List.getD c13.2.2.2.2 (Int.toNat ((Int.toNat (0:Int)):Int)) (au.mk ([]:(List UInt8)) (0:Int) (0:Int) ([]:(List aC))))
          let n19:Int:=((List.length n18.blocks):Int)
          let n20:Bool:=(!(decide (n19=(6:Int))))
          let n21:Bool:=n20
          some n21) fun (Y2:Bool)=>
    bif Y2 then
      some false
    else
      Option.bind (f6 c13.1 c13.2.2.2.2 c13.2.1 c13.2.2.1 ([]:(List Int)) (2000:Int) (3:Int)) fun (c23:(Int×(Int×(Int×((List Int)×((List aj)×(Int×((List mG)×(List Int)))))))))=>
      Option.bind (
        let n24:Bool:=(!(decide (c23.1=(1:Int))))
        bif n24 then
          some true
        else
          let n25:Int:=((List.length c23.2.2.2.1):Int)
          let n26:Bool:=(!(decide (n25=n4)))
          let n27:Bool:=n26
          bif n27 then
            some true
          else
            ck (inB (1:Int) (List.length c23.2.2.2.2.1)) <|
            let n28:aj:=(List.getD c23.2.2.2.2.1 (Int.toNat (1:Int)) (aj.mk (0:Int) ([]:(List Int)) ([]:(List (Int×Int))) ([]:(List bH))))
            let n29:Bool:=(!(decide (n28.entries=n4)))
            let n30:Bool:=n29
            bif n30 then
              some true
            else
              ck (inB (2:Int) (List.length c23.2.2.2.2.1)) <|
              let n31:aj:=(List.getD c23.2.2.2.2.1 (Int.toNat (2:Int)) (aj.mk (0:Int) ([]:(List Int)) ([]:(List (Int×Int))) ([]:(List bH))))
              let n32:Bool:=(!(decide (n31.entries=(0:Int))))
              let n33:Bool:=n32
              some n33) fun (s34:Bool)=>
      bif s34 then
        some false
      else
        ck (inB (0:Int) (List.length c23.2.2.2.2.1)) <|
        let n35:aj:=(List.getD c23.2.2.2.2.1 (Int.toNat (0:Int)) (aj.mk (0:Int) ([]:(List Int)) ([]:(List (Int×Int))) ([]:(List bH))))
        ck (inB (3:Int) (List.length n35.blocks)) <|
        let n36:Int:=(List.getD n35.blocks (Int.toNat (3:Int)) (0:Int))
        ck (inB (0:Int) (List.length c23.2.2.2.2.1)) <|
        let n37:aj:=(List.getD c23.2.2.2.2.1 (Int.toNat (0:Int)) (aj.mk (0:Int) ([]:(List Int)) ([]:(List (Int×Int))) ([]:(List bH))))
        ck (inB (4:Int) (List.length n37.blocks)) <|
        let n38:Int:=(List.getD n37.blocks (Int.toNat (4:Int)) (0:Int))
        Option.bind (
          bif p0 then
            let n39:Bool:=(decide (n36=n4))
            let n40:Bool:=n39
            bif n40 then
              let n41:Bool:=(decide (n38=(0:Int)))
              let n42:Bool:=n41
              bif n42 then
                some true
              else
                let n43:Bool:=(!p0)
                bif n43 then
                  let n44:Bool:=(decide (n36=(0:Int)))
                  let n45:Bool:=n44
                  bif n45 then
                    let n46:Bool:=(decide (n38=n4))
                    let n47:Bool:=n46
                    let n48:Bool:=n47
                    some n48
                  else
                    let n49:Bool:=false
                    some n49
                else
                  let n50:Bool:=false
                  some n50
            else
              let n51:Bool:=(!p0)
              bif n51 then
                let n52:Bool:=(decide (n36=(0:Int)))
                let n53:Bool:=n52
                bif n53 then
                  let n54:Bool:=(decide (n38=n4))
                  let n55:Bool:=n54
                  let n56:Bool:=n55
                  some n56
                else
                  let n57:Bool:=false
                  some n57
              else
                let n58:Bool:=false
                some n58
          else
            let n59:Bool:=(!p0)
            bif n59 then
              let n60:Bool:=(decide (n36=(0:Int)))
              let n61:Bool:=n60
              bif n61 then
                let n62:Bool:=(decide (n38=n4))
                let n63:Bool:=n62
                let n64:Bool:=n63
                some n64
              else
                let n65:Bool:=false
                some n65
            else
              let n66:Bool:=false
              some n66) fun (s67:Bool)=>
        some s67
noncomputable def f3 (p0:Bool) (p1:Int):Option Bool:=JY p0 (Int.tmod (jW p1) (9:Int))
noncomputable def sp3:bT:=⟨sg3,fun x=>f3 x.1 x.2⟩
theorem aa6:bg Try.prog 3 sp3:=
  aJ (T:=dw.of [(4,sp4),(5,sp5),(6,sp6)]) (ety:=ety) [.tmp 4] an3 Try.func3 rfl rfl rfl (show sg3.er.ok=true by decide +kernel) rfl (show sg3.aO≤Try.f3.ntmps by decide +kernel) rfl (fC.sound ⟨aa5,Ws,aa3,trivial⟩) fV mixed fun x=>by kernel_rfl
end Go.Fg.Ytncdiffmecbcmaa

