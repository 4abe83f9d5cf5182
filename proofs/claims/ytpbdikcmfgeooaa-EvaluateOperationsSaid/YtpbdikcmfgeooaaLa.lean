/-
  The plain proofs: what the functions compute answers as the law says.
-/
import Derived.Test.YtpbdikcmfgeooaaFgB
import Derived.Test.YtpbdikcmfgeooaaZd
set_option linter.unusedSimpArgs false
set_option linter.unusedVariables false
set_option linter.unusedSectionVars false
namespace Go.Fg.Ytpbdikcmfgeooaa
open Go.Fw
theorem acz:f7=some true:=by kernel_rfl
def I64 (x:Int):Prop:=-9223372036854775808≤x∧x≤9223372036854775807
theorem Vy (b:Bool):f24 b=some (if b then 1 else 0):=by cases b<;>rfl
theorem aal (o a:Int):f11 o a=f10 o a:=rfl
theorem aam {o a b:Int} (ha:I64 a) (hb:I64 b) :∃y,f8 o a b=some y∧f9 o a b=some y:=by
 have hf :∀c,∃z,f24 c=some z:=fun c=>⟨_,Vy c⟩
 by_cases h3:o=3
 ·subst h3;exact ⟨_,rfl,rfl⟩
 by_cases h4:o=4
 ·subst h4;exact ⟨_,rfl,rfl⟩
 by_cases h5:o=5
 ·subst h5;exact ⟨_,rfl,rfl⟩
 by_cases h8:o=8
 ·subst h8;obtain ⟨z,hz⟩:=hf (decide (a<b));exact ⟨(z,true),by show Option.bind (f24 _) _=_;rw [hz];rfl,by show Option.bind (f24 _) _=_;rw [hz];rfl⟩
 by_cases h9:o=9
 ·subst h9;obtain ⟨z,hz⟩:=hf (decide (a≤b));exact ⟨(z,true),by show Option.bind (f24 _) _=_;rw [hz];rfl,by show Option.bind (f24 _) _=_;rw [hz];rfl⟩
 by_cases h10:o=10
 ·subst h10;obtain ⟨z,hz⟩:=hf (decide (a=b));exact ⟨(z,true),by show Option.bind (f24 _) _=_;rw [hz];rfl,by show Option.bind (f24 _) _=_;rw [hz];rfl⟩
 by_cases h11:o=11
 ·subst h11;obtain ⟨z,hz⟩:=hf (!(decide (a=b)));exact ⟨(z,true),by show Option.bind (f24 _) _=_;rw [hz];rfl,by show Option.bind (f24 _) _=_;rw [hz];rfl⟩
 have g:f8 o a b=bif (decide (b=0)) then some ((0:Int),false) else bif (decide (o=6)) then ck (!(decide (b=0))) <| some ((gX (Int.tdiv a b)),true) else bif (decide (o=7)) then ck (!(decide (b=0))) <| some ((Int.tmod a b),true) else some ((0:Int),false):=by
  unfold f8
  simp only [decide_eq_false h3,decide_eq_false h4,decide_eq_false h5,decide_eq_false h8,decide_eq_false h9,decide_eq_false h10,decide_eq_false h11,cond_false]
 have k:f9 o a b=bif (decide (o=6)||decide (o=7)) then (bif (decide (b=0)) then some ((0:Int),false) else Option.bind (bif (!(decide (b=(-1:Int)))) then ck (!(decide (b=0))) <| ck (!(decide (b=0))) <| some ((gX (Int.tdiv a b)),(Int.tmod a b)) else some ((gX (O9 a)),(0:Int))) fun s14=>bif (decide (o=6)) then some (s14.1,true) else some (s14.2,true)) else some ((0:Int),false):=by
  unfold f9
  simp only [decide_eq_false h3,decide_eq_false h4,decide_eq_false h5,decide_eq_false h8,decide_eq_false h9,decide_eq_false h10,decide_eq_false h11,cond_false]
  cases decide (o=6)<;>cases decide (o=7)<;>rfl
 rw [g,k]
 by_cases hb0:b=0
 ·subst hb0
  refine ⟨(0,false),rfl,?_⟩
  cases decide (o=6)<;>cases decide (o=7)<;>rfl
 rw [decide_eq_false hb0]
 by_cases h6:o=6
 ·subst h6
  by_cases hm:b=-1
  ·subst hm
   refine ⟨(gX (O9 a),true),?_,rfl⟩
   have:Int.tdiv a (-1)=O9 a:=by rw [Int.tdiv_neg,Int.tdiv_one];unfold O9;omega
   show some (gX (Int.tdiv a (-1)),true)=_
   rw [this]
  ·refine ⟨(gX (Int.tdiv a b),true),rfl,?_⟩
   rw [decide_eq_false hm];rfl
 by_cases h7:o=7
 ·subst h7
  by_cases hm:b=-1
  ·subst hm
   refine ⟨(0,true),?_,rfl⟩
   have:Int.tmod a (-1)=0:=by rw [Int.tmod_neg,Int.tmod_one]
   show some (Int.tmod a (-1),true)=_
   rw [this]
  ·refine ⟨(Int.tmod a b,true),rfl,?_⟩
   rw [decide_eq_false hm];rfl
 refine ⟨(0,false),?_,?_⟩
 ·rw [decide_eq_false h6,decide_eq_false h7];rfl
 ·rw [decide_eq_false h6,decide_eq_false h7];rfl
theorem aan (o a:Int) :∃y,f10 o a=some y:=by
 unfold f10
 cases decide (o=1)
 ·cases decide (o=2)
  ·exact ⟨_,rfl⟩
  ·exact ⟨_,by show Option.bind (f24 _) _=_;rw [Vy];rfl⟩
 ·exact ⟨_,rfl⟩
theorem aao {x y:Int} (h:x % 18446744073709551616=y % 18446744073709551616):gX x=gX y:=by
 have e:(2:Int) ^ IntKind.bits .i64=18446744073709551616:=rfl
 unfold gX IntKind.wrap
 rw [e,h]
theorem Qu (x:Int):gX x % 18446744073709551616=x % 18446744073709551616:=by
 have e:(2:Int) ^ IntKind.bits .i64=18446744073709551616:=rfl
 unfold gX IntKind.wrap
 rw [e]
 simp only
 split
 ·omega
 ·omega
theorem aeQ {o a b k:Int} (ho:I64 o) (ha:I64 a) (hb:I64 b) (hk:0≤k∧k≤255):f3 o a b k=some true:=by
 apply ok_eq
 unfold f3
 refine goS acz (goF rfl ?_)
 refine goE (fun _=>True) ?_ fun _ _ => ?_
 ·refine abJ (fun s:Int=>0≤s∧s≤2) (fun s=>(2-s).toNat) ⟨by omega,by omega⟩ fun s ⟨h0,h1⟩ => ?_
  refine goI (fun h => ?_) fun _=>goR trivial
  have h:s<2:=of_decide_eq_true h
  refine goC (abK.2 ⟨h0,h⟩) ?_
  generalize List.getD [o,Int.tmod (gX k) (14:Int)] s.toNat 0=n
  obtain ⟨y,e1,e2⟩:=aam (o:=n) ha hb
  obtain ⟨u,e3⟩:=aan n a
  refine goS e1 (goS e2 (goS (y:=false) ?_ (goF rfl (goR ⟨⟨?_,?_⟩,?_⟩))))
  ·rw [aal,e3]
   have q1:decide (y.1=y.1)=true:=decide_eq_true rfl
   have q2:(y.2 != y.2)=false:=by cases y.2<;>rfl
   have q3:decide (u=u)=true:=decide_eq_true rfl
   rw [q1,q2]
   show some (!decide (u=u))=_
   rw [q3];rfl
  ·rw [Nw (by omega)];omega
  ·rw [Nw (by omega)];omega
  ·rw [Nw (by omega)];omega
 by_cases hb0:b=0
 ·subst hb0
  exact goS (y:=(0,false)) rfl (goS (y:=(0,false)) rfl (goS (y:=true) rfl (goR rfl)))
 have e1:f8 6 a b=some (gX (Int.tdiv a b),true):=by
  show (bif (decide (b=0)) then some ((0:Int),false) else ck (!(decide (b=0))) <| some ((gX (Int.tdiv a b)),true))=_
  rw [decide_eq_false hb0];rfl
 have e2:f8 7 a b=some (Int.tmod a b,true):=by
  show (bif (decide (b=0)) then some ((0:Int),false) else ck (!(decide (b=0))) <| some ((Int.tmod a b),true))=_
  rw [decide_eq_false hb0];rfl
 refine goS e1 (goS e2 (goS (y:=true) ?_ (goR rfl)))
 have q:gX (gX (gX (Int.tdiv a b)*b)+Int.tmod a b)=a:=by
  have hq:gX (gX (gX (Int.tdiv a b)*b)+Int.tmod a b)=gX a:=by
   refine aao ?_
   rw [Int.add_emod,Qu,Int.mul_emod,Qu,←Int.mul_emod,←Int.add_emod,Int.tdiv_mul_add_tmod]
  rw [hq]
  exact Nw ha
 rw [decide_eq_false hb0]
 have q':decide (gX (gX (gX (Int.tdiv a b)*b)+Int.tmod a b)=a)=true:=decide_eq_true q
 exact congrArg some q'
theorem wf64 {a:Int} (h:(Lit.int .i64 a).wf=true):I64 a:=by
 simpa [Lit.wf,IntKind.min,IntKind.max,IntKind.signed,IntKind.bits,I64] using h
theorem wf8 {a:Int} (h:(Lit.int .u8 a).wf=true):0≤a∧a≤255:=by
 simpa [Lit.wf,IntKind.min,IntKind.max,IntKind.signed,IntKind.bits] using h
theorem aeR (a b c d:Int):sp3.f (a,b,c,d)=f3 a b c d:=by kernel_rfl
theorem aeS {o a b k:Int} (ho:I64 o) (ha:I64 a) (hb:I64 b) (hk:0≤k∧k≤255):sp3.f (o,a,b,k)=some true:=Eq.trans (aeR o a b k) (aeQ ho ha hb hk)
end Go.Fg.Ytpbdikcmfgeooaa

