/-
  Chapter 11, plain: Compact.
-/
import Derived.Test.YtmgfidfcioiedaaLi
namespace Go.Fg.Ytmgfidfcioiedaa
open Go.Fw
set_option linter.unusedVariables false
set_option linter.unusedSimpArgs false
theorem aaS (m:List Bool) (i:Nat):idx m (i+1)=idx m i++if m.getD i false then [i] else []:=rfl
theorem TL {nm:List UInt8} {a b:Int} {bs:List aH} (hE:mJ bs) (h0:0<bs.length) (hl:bs.length≤1000000) :
  Ok (f32 nm a b bs) fun y=>y.1=nm∧y.2.1=a∧y.2.2.1=b∧0<y.2.2.2.length∧y.2.2.2.length≤bs.length∧mJ y.2.2.2∧TJ y.2.2.2:=by
 unfold f32
 refine goB _ (Qq hE h0 hl) fun m ⟨hM,hc⟩ => ?_
 have hml:=hM.len
 refine goC (pO.2 (by omega)) ?_
 refine goB (fun y=>y.length=bs.length∧∀j,j<bs.length→y.getD j 0=(rk m j:Int)) ?_ fun nums ⟨hn1,hn2⟩ => ?_
 ·refine aZ (fun s:Int×Int×List Int =>∃i:Nat,s.2.1=i∧i≤bs.length∧s.1=(rk m i:Int)∧s.2.2.length=bs.length∧∀j,j<i→s.2.2.getD j 0=(rk m j:Int)) (fun s=>bs.length-s.2.1.toNat)
   ⟨0,rfl,by omega,rfl,by simp [hml],fun j h=>by omega⟩ fun s ⟨i,e1,e2,e3,e4,e5⟩ => ?_
  obtain ⟨k,i',l⟩:=s
  simp only at e1 e3 e4 e5
  subst e1;subst e3
  refine goI (fun hi => ?_) (fun hi=>ay ⟨e4,fun j hj=>e5 j ?_⟩)
  rotate_left
  ·simp at hi;omega
  have hi:i<bs.length:=by simp at hi;omega
  have hrk:=aaR m i
  refine goC (aA.2 ⟨by simp only;omega,by simp only;omega⟩) (goC (aA.2 ⟨by simp only;omega,by simp only;omega⟩) ?_)
  simp only [Int.toNat_natCast]
  refine goB (fun y=>y=(rk m (i+1):Int)) ?_ fun y hy => ?_
  ·rw [VL]
   refine goI (fun hm=>ay ?_) (fun hm=>ay ?_)
   ·rw [if_pos hm,aK (by omega)];simp
   ·rw [if_neg (by rw [hm];simp)];simp
  ·subst hy
   refine ay ⟨⟨i+1,by simp only;rw [aK (x:=(i:Int)+1) (by omega)];simp,by omega,rfl,by simp [e4],fun j hj => ?_⟩,by simp only;rw [aK (x:=(i:Int)+1) (by omega)];omega⟩
   simp only
   rw [Bh (by omega)]
   split
   ·rename_i e;rw [e]
   ·exact e5 j (by omega)
 refine goB (fun y=>y=(nm,a,b,uU m bs)) ?_ fun y hy => ?_
 rotate_left
 ·subst hy
  obtain ⟨c1,c2,c3,c4⟩:=XF hE h0 hM hc
  exact ay ⟨rfl,rfl,rfl,c1,c2,c3,c4⟩
 refine aZ (fun s:Int×List UInt8×Int×Int×List aH =>∃i:Nat,i≤bs.length∧s=((i:Int),nm,a,b,(idx m i).map fun j=>ren m (bs.getD j aj))) (fun s=>bs.length-s.1.toNat)
  ⟨0,by omega,rfl⟩ fun s ⟨i,e2,e⟩ => ?_
 subst e
 refine goI (fun hi => ?_) (fun hi=>ay ?_)
 rotate_left
 ·have:i=bs.length:=by simp at hi;omega
  subst this;rfl
 have hi:i<bs.length:=by simp at hi;omega
 have hrk:=aaR m i
 refine goB (fun y=>y=(nm,a,b,(idx m (i+1)).map fun j=>ren m (bs.getD j aj))) ?_ fun y hy => ?_
 rotate_left
 ·subst hy
  refine ay ⟨⟨i+1,by omega,?_⟩,by simp only;rw [aK (x:=(i:Int)+1) (by omega)];omega⟩
  simp only;rw [aK (x:=(i:Int)+1) (by omega)];rfl
 refine goC (aA.2 ⟨by simp only;omega,by simp only;omega⟩) ?_
 simp only [Int.toNat_natCast]
 rw [aaS]
 refine goI (fun hm=>ay ?_) (fun hm => ?_)
 ·have hm:m.getD i false=false:=by simpa using hm
  rw [if_neg (by rw [hm];simp),List.append_nil]
 have hm:m.getD i false=true:=by simpa using hm
 rw [if_pos hm]
 obtain ⟨t1,t2⟩:=hE.1 i hi
 refine goC (aA.2 (by omega)) ?_
 have fU:ren m (bs.getD i aj)={ bs.getD i aj with dQ:=if (bs.getD i aj).aU=3 then (bs.getD i aj).dQ else (rk m (bs.getD i aj).dQ.toNat:Int),bC:=if (bs.getD i aj).aU=2 then (rk m (bs.getD i aj).bC.toNat:Int) else (bs.getD i aj).bC }:=rfl
 have hmap:(idx m i++[i]).map (fun j=>ren m (bs.getD j aj))=(idx m i).map (fun j=>ren m (bs.getD j aj))++[ren m (bs.getD i aj)]:=by simp
 have hll:((idx m i).map fun j=>ren m (bs.getD j aj)).length=rk m i:=by unfold rk;simp
 rw [hmap]
 generalize (idx m i).map (fun j=>ren m (bs.getD j aj))=acc at hll ⊢
 rw [fU]
 refine goB (fun y=>y=((bs.getD i aj).instrs,(bs.getD i aj).aU,(bs.getD i aj).qI,(if (bs.getD i aj).aU=3 then (bs.getD i aj).dQ else (rk m (bs.getD i aj).dQ.toNat:Int)),(bs.getD i aj).bC,(bs.getD i aj).line,(bs.getD i aj).jl,(bs.getD i aj).iE)) ?_ fun y hy => ?_
 ·refine goI (fun hk => ?_) (fun hk=>ay ?_)
  ·have hk:¬ (bs.getD i aj).aU=3:=by simpa using hk
   have:=t1 hk
   refine goC (aA.2 (by omega)) (ay ?_)
   rw [if_neg hk,hn2 _ (by omega)]
  ·have hk:(bs.getD i aj).aU=3:=by simpa using hk
   rw [if_pos hk]
 subst hy
 refine goB (fun y=>y=((bs.getD i aj).instrs,(bs.getD i aj).aU,(bs.getD i aj).qI,(if (bs.getD i aj).aU=3 then (bs.getD i aj).dQ else (rk m (bs.getD i aj).dQ.toNat:Int)),(if (bs.getD i aj).aU=2 then (rk m (bs.getD i aj).bC.toNat:Int) else (bs.getD i aj).bC),(bs.getD i aj).line,(bs.getD i aj).jl,(bs.getD i aj).iE)) ?_ fun y hy => ?_
 ·refine goI (fun hk => ?_) (fun hk=>ay ?_)
  ·have hk:(bs.getD i aj).aU=2:=by simpa using hk
   have:=t2 hk
   refine goC (aA.2 ⟨by simp only;omega,by simp only;omega⟩) (ay ?_)
   simp only
   rw [if_pos hk,hn2 _ (by omega)]
  ·have hk:¬ (bs.getD i aj).aU=2:=by simpa using hk
   simp only
   rw [if_neg hk]
 subst hy
 refine goC (by unfold bG;simp;omega) (ay rfl)
end Go.Fg.Ytmgfidfcioiedaa

