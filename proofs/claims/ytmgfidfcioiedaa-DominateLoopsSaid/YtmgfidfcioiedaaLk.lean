/-
  Chapter 11, plain: draws; numbers as text.
-/
import Derived.Test.YtmgfidfcioiedaaLj
namespace Go.Fg.Ytmgfidfcioiedaa
open Go.Fw
set_option linter.unusedVariables false
set_option linter.unusedSimpArgs false
def Bytes (l:List Int):Prop:=l.length≤9223372036854775807∧∀x∈l,0≤x∧x≤255
theorem bytes_at {l:List Int} (h:Bytes l) {n:Int} (h0:0≤n) (h1:n<l.length):0≤l.getD n.toNat 0∧l.getD n.toNat 0≤255:=by
 rw [getD_at 0 (by omega)]
 exact h.2 _ (List.getElem_mem _)
def Qr (n:Int) (l:List Int) (y:Int×(List Int×Int)):Prop:=y.2.1=l∧0≤y.2.2∧0≤y.1∧(1≤n→y.1<n)∧(n≤1→y.1=0)
theorem KH {rec:Int→List Int→Int→Option (Int×(List Int×Int))} {n:Int} {l:List Int} {i:Int} (hl:Bytes l) (hi:0≤i) (hn:n≤65536)
  (hrec:256<n→∀j,0≤j→Ok (rec 256 l j) (Qr 256 l)):Ok (acU rec n l i) (Qr n l):=by
 unfold acU
 simp only [E_,S_,xW,ZQ,Vl,Qa,aA,not_iff]
 have tail:(n≥1)→i<l.length→(0≤i∧i<(l.length:Int))∧(256<n→Ok (rec 256 l (bW (i+1))) fun y=>¬ n=0∧Qr n l (Int.tmod (bW (bW (256*bW (l.getD i.toNat 0))+y.1)) n,y.2.1,y.2.2))∧(¬ 256<n→¬ n=0∧Qr n l (Int.tmod (bW (l.getD i.toNat 0)) n,l,bW (i+1))):=by
  intro h1 h2
  have hb:=bytes_at hl hi h2
  have hl':=hl.1
  rw [aK (x:=i+1) (by omega),aK (x:=l.getD i.toNat 0) (by omega),aK (x:=256*l.getD i.toNat 0) (by omega)]
  refine ⟨⟨hi,h2⟩,fun h3=>ku (hrec h3 (i+1) (by omega)) fun y hy => ?_,fun h3=>⟨by omega,?_⟩⟩
  ·obtain ⟨q1,q2,q3,q4,q5⟩:=hy
   have q4:=q4 (by omega)
   rw [aK (by omega)]
   refine ⟨by omega,q1,q2,?_⟩
   have:=tmod_lt (a:=256*l.getD i.toNat 0+y.1) (b:=n) (by omega) (by omega)
   exact ⟨this.1,fun _=>this.2,fun _=>by omega⟩
  ·have:=tmod_lt (a:=l.getD i.toNat 0) (b:=n) hb.1 (by omega)
   refine ⟨rfl,by simp;omega,this.1,fun _=>this.2,fun _ => ?_⟩
   have e:n=1:=by omega
   subst e
   have:=this.2
   have:=this
   simp only
   omega
 refine ⟨fun h=>⟨fun _=>⟨rfl,hi,Int.le_refl _,fun h=>by simp only;omega,fun _=>rfl⟩,fun h0=>by cases h0⟩,fun h=>⟨fun h1=>⟨rfl,hi,Int.le_refl _,fun h=>by simp only;omega,fun _=>rfl⟩,fun h1 => ?_⟩⟩
 exact tail (by omega) (by omega)
theorem KI (k:Nat):acV (k+1)=acU (acV k):=rfl
theorem ad6 {n:Int} {l:List Int} {i:Int} (hl:Bytes l) (hi:0≤i) (hn:n≤65536):Ok (f16 n l i) (Qr n l):=by
 have e:f16 n l i=acV (1048574+2) n l i:=rfl
 rw [e,KI]
 refine KH hl hi hn fun _ j hj => ?_
 rw [KI]
 exact KH hl hj (by omega) fun h=>absurd h (by omega)
theorem agT {l:List Int} {n:Int} (hl:Bytes l) (hn:0≤n):Ok (f7 l n) fun y=>y.2=0∧Bytes y.1:=by
 unfold f7
 simp only [E_,S_,xW,ZQ,Vl,Qa,AY]
 refine ⟨fun h=>⟨⟨⟨by omega,hn⟩,by omega⟩,trivial,?_⟩,fun h=>⟨trivial,hl⟩⟩
 simp only [Int.toNat_zero,List.drop_zero]
 exact ⟨by have:=hl.1;simp;omega,fun x hx=>hl.2 x (List.mem_of_mem_take hx)⟩
theorem XG (k:Nat):acZ (k+1)=agf (acZ k):=rfl
theorem EH :∀(k:Nat) (n:Int),0≤n→n<k→k≤1048576→Ok (acZ k n) fun s=>s.length≤k
 |0,n,h0,h1,_=>by omega
 |k+1,n,h0,h1,h2=>by
  rw [XG]
  unfold agf
  refine goI (fun hc => ?_) (fun hc=>ay (by simp))
  have hc:10≤n:=by simpa using hc
  have hd:Int.tdiv n 10=n/10:=Int.tdiv_eq_ediv_of_nonneg h0
  have hw:bW (Int.tdiv n 10)=n/10:=by rw [hd];exact aK (by omega)
  rw [hw]
  refine goB _ (EH k (n/10) (by omega) (by omega) (by omega)) fun y hy=>goC (m_.2 (by simp;omega)) (ay (by simp;omega))
theorem sO {n:Int} (h0:0≤n) (h1:n<1048576):Ok (f30 n) fun s=>s.length≤1048576:=EH _ n h0 h1 (Nat.le_refl _)
theorem goN {β:Type} {n:Int} {l:List Int} {i:Int} {f:Int×List Int×Int→Option β} {Q:β→Prop} (hb:Bytes l) (hi:0≤i) (hn:n≤65536)
  (k :∀x j,0≤j→0≤x→(1≤n→x<n)→Ok (f (x,l,j)) Q):Ok (Option.bind (f16 n l i) f) Q:=
 goB _ (ad6 hb hi hn) fun ⟨x,l',j⟩ ⟨(e:l'=l),h1,h2,h3,_⟩=>by subst e;exact k x j h1 h2 h3
theorem instr_ok {gl:List aJ} {fs:List aO} {ca ct:Int} {nm:List UInt8} {pa re:Int} {bl:List aH} {l:List Int} {i:Int} (hb:Bytes l) (hi:0≤i) (hre:re≤65536) (hca:ca≤65536)
  (hfs:0<fs.length∧fs.length≤65536) (hpa :∀f∈fs,f.params≤10):Ok (f31 gl fs ca ct nm pa re bl l i) fun y=>y.2.2.2.2.2.2.1=l∧0≤y.2.2.2.2.2.2.2.1:=by
 unfold f31
 refine goN hb hi (by omega) fun x0 j0 h0 a0 b0=>goN hb h0 (by omega) fun x1 j1 h1 _ _=>goN hb h1 (by omega) fun x2 j2 h2 _ _=>goN hb h2 (by omega) fun x3 j3 h3 _ _ => ?_
 refine goB (fun s=>s.1=l∧0≤s.2.1) ?_ fun s ⟨e1,e2⟩ => ?_
 ·refine goI (fun _=>goN hb h3 (by omega) fun x j hj _ _=>ay ⟨rfl,hj⟩) (fun _=>goB (fun s=>s.1=l∧0≤s.2.1) ?_ fun s hs=>ay hs)
  refine goI (fun _=>goN hb h3 (by omega) fun x j hj _ _=>ay ⟨rfl,hj⟩) (fun _=>goB (fun s=>s.1=l∧0≤s.2.1) ?_ fun s hs=>ay hs)
  refine goI (fun _=>goN hb h3 (by omega) fun x j hj _ _=>ay ⟨rfl,hj⟩) (fun _=>goB (fun _=>True) ?_ fun s _=>goB (fun s=>s.1=l∧0≤s.2.1) ?_ fun s hs=>ay hs)
  ·exact goI (fun _=>ay trivial) fun _=>ay trivial
  refine goI (fun _=>ay ⟨rfl,h3⟩) (fun _=>goB (fun s=>s.1=l∧0≤s.2.1) ?_ fun s hs=>ay hs)
  refine goI (fun _=>goN hb h3 (by omega) fun x j hj hx0 hx=>goB (fun s=>s.1=l∧0≤s.2.1) ?_ fun s hs=>ay hs) (fun _=>goB (fun s=>s.1=l∧0≤s.2.1) ?_ fun s hs=>ay hs)
  ·have hx:=hx (by omega)
   refine aZ (fun s:Int×List Int×Int×Int×Int×Int×Int×Int×Int×List Int=>s.2.1=l∧0≤s.2.2.1∧(0≤s.1∧s.1≤10)∧s.2.2.2.2.2.2.2.2.1=x∧s.2.2.2.2.2.2.2.2.2.length≤s.1) (fun s=>(10-s.1).toNat)
    ⟨rfl,hj,by simp,rfl,by simp⟩ fun ⟨q,l',j',s4,s5,s6,s7,s8,s9,ar⟩ ⟨e1,e2,⟨e3,e3'⟩,e4,e5⟩ => ?_
   simp only at e1 e2 e3 e3' e4 e5
   subst e1;subst e4
   refine goC (aA.2 ⟨hx0,hx⟩) ?_
   refine goI (fun hc => ?_) (fun _=>ay ⟨rfl,e2⟩)
   have hp:(fs.getD s9.toNat aC).params≤10:=by rw [getD_at _ (by omega)];exact hpa _ (List.getElem_mem _)
   have hc:q<(fs.getD s9.toNat aC).params:=by simpa using hc
   refine goN hb e2 hre fun y k hk _ _=>goC (by unfold bG;simp;omega) (ay ⟨⟨rfl,hk,?_,rfl,?_⟩,?_⟩)
   all_goals simp only [aK (x:=q+1) (by omega)]
   ·omega
   ·simp;omega
   ·omega
  refine goI (fun _=>goN hb h3 (by omega) fun x j hj hx0 hx=>goB (fun s=>s.1=l∧0≤s.2.1) ?_ fun s hs=>ay hs) (fun _=>ay ⟨rfl,h3⟩)
  have hx:=hx (by omega)
  refine aZ (fun s:Int×List Int×Int×Int×Int×Int×Int×Int×Int×List Int=>s.2.1=l∧0≤s.2.2.1∧(0≤s.1∧s.1≤3)∧s.2.2.2.2.2.2.2.2.2.length≤3-s.1) (fun s=>s.1.toNat)
   ⟨rfl,hj,⟨hx0,by simp only;omega⟩,by simp only [List.length_nil];omega⟩ fun ⟨q,l',j',s4,s5,s6,s7,s8,s9,ar⟩ ⟨e1,e2,⟨e3,e3'⟩,e5⟩ => ?_
  simp only at e1 e2 e3 e3' e5
  subst e1
  refine goI (fun hc => ?_) (fun _=>ay ⟨rfl,e2⟩)
  have hc:0<q:=by simpa using hc
  refine goN hb e2 hre fun y k hk _ _=>goC (by unfold bG;simp;omega) (ay ⟨⟨rfl,hk,?_,?_⟩,?_⟩)
  all_goals simp only [aK (x:=q-1) (by omega)]
  ·omega
  ·simp;omega
  ·omega
 obtain ⟨t1,t2,s⟩:=s
 simp only at e1 e2
 subst e1
 refine goB (fun s=>s.2.1=t1∧0≤s.2.2) ?_ fun ⟨s1,s2,s3⟩ ⟨e3,e4⟩ => ?_
 ·refine goI (fun _=>goI (fun _=>goN hb e2 (by omega) fun x j hj _ _=>ay ⟨rfl,hj⟩) fun _=>ay ⟨rfl,e2⟩) fun _=>ay ⟨rfl,e2⟩
 simp only at e3 e4
 subst e3
 exact goI (fun _=>goN hb e4 hca fun x j hj _ _=>ay ⟨rfl,hj⟩) fun _=>ay ⟨rfl,e4⟩
end Go.Fg.Ytmgfidfcioiedaa

