/-
  Chapter 11, plain: expressions are drawn.
-/
import Derived.Test.YtmgfidfcioiedaaLl
namespace Go.Fg.Ytmgfidfcioiedaa
open Go.Fw
set_option linter.unusedVariables false
set_option linter.unusedSimpArgs false
theorem agU {A α:Type} {a b:A} {x:Option α} {Q:α→Prop}:Ok (uY a b x) Q↔a=b∧Ok x Q:=by
 unfold uY
 split
 ·rename_i e;exact ⟨fun h=>⟨e,h⟩,fun h=>h.2⟩
 ·rename_i e;exact ⟨fun ⟨_,h,_⟩=>(by cases h),fun h=>absurd h.1 e⟩
theorem goK {A α:Type} {a b:A} {x:Option α} {Q:α→Prop} (e:a=b) (h:Ok x Q):Ok (uY a b x) Q:=agU.2 ⟨e,h⟩
def WE (m:Nat):Nat→aV→Prop
 |0,_=>False
 |n+1,x=>x.args.length≤m∧(x.kind=7∨x.kind=8→2≤x.args.length)∧(x.kind=10→1≤x.args.length)∧∀y∈x.args,WE m n y
theorem WE.up {m:Nat} :∀{n k:Nat} {x:aV},WE m n x→n≤k→WE m k x
 |0,_,_,h,_=>h.elim
 |n+1,0,_,_,h=>by omega
 |n+1,k+1,x,h,hk=>⟨h.1,h.2.1,h.2.2.1,fun y hy=>(h.2.2.2 y hy).up (by omega)⟩
theorem we0 {m n:Nat} {k o v i:Int} {nm:List UInt8} (h1:k≠7) (h2:k≠8) (h3:k≠10):WE m (n+1) (aV.mk k o v i nm []):=
 ⟨Nat.zero_le _,fun h=>absurd h (by simp [h1,h2]),fun h=>absurd h h3,fun y hy=>by cases hy⟩
theorem we1 {m n:Nat} {k o v i:Int} {nm:List UInt8} {x:aV} (h1:k≠7) (h2:k≠8) (hx:WE m n x) (hm:3≤m):WE m (n+1) (aV.mk k o v i nm [x]):=
 ⟨by simp;omega,fun h=>absurd h (by simp [h1,h2]),fun h=>by simp,fun y hy=>by rw [List.mem_singleton] at hy;subst hy;exact hx⟩
theorem we2 {m n:Nat} {k o v i:Int} {nm:List UInt8} {x z:aV} (hx:WE m n x) (hz:WE m n z) (hm:3≤m):WE m (n+1) (aV.mk k o v i nm [x,z]):=
 ⟨by simp;omega,fun h=>by simp,fun h=>by simp,fun y hy=>by
  rcases List.mem_cons.1 hy with e | e
  ·subst e;exact hx
  ·rw [List.mem_singleton] at e;subst e;exact hz⟩
structure Env (l:List Int) (g:List aJ) (fs:List au) (lo:List (List UInt8)):Prop where
 b:Bytes l
 g:g.length≤100
 f0:0<fs.length
 f1:fs.length≤100
 fp :∀f∈fs,f.params.length≤2
 lo:lo.length≤100
section
variable {l:List Int} {g:List aJ} {fs:List au} {lo:List (List UInt8)}
theorem ad8 {a:Bool} {b i:Int} (h:Env l g fs lo) (hi:0≤i):Ok (adl a b l i g fs lo) fun y =>∃nm t j,0≤j∧y=(nm,t,b,l,j,g,fs,lo):=by
 unfold adl
 refine goB (fun y =>∃nm t j,0≤j∧y=(nm,t,b,l,j,g,fs,lo)) ?_ fun y ⟨nm,t,j,hj,e⟩=>by subst e;exact goC (by simp) (goC (by simp) (goC (by simp) (ay ⟨nm,t,j,hj,rfl⟩)))
 have hg:=h.g
 refine goB (fun s=>s.length≤100) ?_ fun s hs => ?_
 ·refine aZ (fun s:Int×List (List UInt8)=>0≤s.1∧s.1≤g.length∧s.2.length≤s.1) (fun s=>(g.length-s.1).toNat) ⟨by simp,by simp,by simp⟩ fun ⟨q,s⟩ ⟨e1,e2,e3⟩ => ?_
  simp only at e1 e2 e3
  refine goI (fun hc => ?_) (fun hc=>ay (by simp only [ZP];omega))
  have hc:q<g.length:=by simpa using hc
  refine goC (aA.2 ⟨e1,hc⟩) (goB (fun s'=>s'.length≤s.length+1) ?_ fun s' hs'=>ay ⟨⟨?_,?_,?_⟩,?_⟩)
  ·exact goI (fun _=>goC (aA.2 ⟨e1,hc⟩) (goC (by unfold bG;simp;omega) (ay (by simp)))) fun _=>ay (by simp)
  all_goals simp only [aK (x:=q+1) (by omega)];omega
 refine goI (fun _=>ay ⟨_,_,_,hi,rfl⟩) fun hc=>goN h.b hi (by omega) fun x j hj h0 h1=>goC (aA.2 ⟨h0,h1 ?_⟩) (ay ⟨_,_,_,hj,rfl⟩)
 simp at hc;cases s with
 |nil=>exact absurd rfl hc
 |cons a s=>simp;omega
theorem goP {β:Type} {a:Bool} {b i:Int} {f:List UInt8×Bool×Int×List Int×Int×List aJ×List au×List (List UInt8)→Option β} {Q:β→Prop} (h:Env l g fs lo) (hi:0≤i)
  (k :∀nm t j,0≤j→Ok (f (nm,t,b,l,j,g,fs,lo)) Q):Ok (Option.bind (f96 a b l i g fs lo) f) Q:=by
 refine goB (fun y =>∃nm t j,0≤j∧y=(nm,t,b,l,j,g,fs,lo)) ?_ fun y ⟨nm,t,j,hj,e⟩=>by subst e;exact k nm t j hj
 exact goB _ (ad8 h hi) fun y ⟨nm,t,j,hj,e⟩=>by subst e;exact goK rfl (goK rfl (goK rfl (ay ⟨nm,t,j,hj,rfl⟩)))
theorem ad9 {b i:Int} (h:Env l g fs lo) (hi:0≤i):Ok (VA b l i g fs lo) fun y =>∃k v nm j,0≤j∧(k=12∨k=13∨k=1)∧y=(k,0,v,0,nm,b,l,j,g,fs,lo):=by
 unfold VA
 refine goB (fun y =>∃k v nm j,0≤j∧(k=12∨k=13∨k=1)∧y=(k,0,v,0,nm,b,l,j,g,fs,lo)) ?_ fun y ⟨k,v,nm,j,hj,hk,e⟩=>by subst e;exact goC (by simp) (goC (by simp) (goC (by simp) (ay ⟨k,v,nm,j,hj,hk,rfl⟩)))
 refine goN h.b hi (by omega) fun x0 j0 h0 _ _=>goI (fun _=>ay ⟨12,_,_,_,h0,by simp,rfl⟩) fun _=>pR (fun y =>∃j,0≤j∧y=(b,l,j)) ?_ fun y ⟨j,hj,e⟩ => ?_
 ·refine goI (fun _=>goP h h0 fun nm t j hj=>goI (fun _=>ay ⟨13,_,_,_,hj,by simp,rfl⟩) fun _=>ay ⟨_,hj,rfl⟩) fun _=>goB (fun _=>True) ?_ fun s _=>pR (fun _=>True) ?_ fun _ _=>ay ⟨_,h0,rfl⟩
  ·exact goI (fun _=>ay trivial) fun _=>ay trivial
  ·refine goI (fun _=>goI (fun _=>goN h.b h0 (by have:=h.lo;omega) fun x j hj a1 a2 => ?_) fun _=>ay trivial) fun _=>ay trivial
   rename_i hc
   have hc:0<lo.length:=by simpa using hc
   exact goC (aA.2 ⟨a1,a2 (by omega)⟩) (ay ⟨13,_,_,_,hj,by simp,rfl⟩)
 subst e
 refine goN h.b hj (by omega) fun x1 j1 h1 _ _=>goN h.b h1 (by omega) fun x2 j2 h2 _ _=>goB (fun y =>∃v j,0≤j∧y=(v,l,j)) ?_ fun y ⟨v,j,hj,e⟩=>by subst e;exact ay ⟨1,_,_,_,hj,by simp,rfl⟩
 exact goI (fun _=>goN h.b h2 (by omega) fun x3 j3 h3 a3 b3=>goC (aA.2 ⟨a3,by have:=b3 (by omega);simp;omega⟩) (ay ⟨_,_,h3,rfl⟩)) fun _=>ay ⟨_,_,h2,rfl⟩
theorem goL {β:Type} {b i:Int} {f:Int×Int×Int×Int×List UInt8×Int×List Int×Int×List aJ×List au×List (List UInt8)→Option β} {Q:β→Prop} (h:Env l g fs lo) (hi:0≤i)
  (k :∀q v nm j,0≤j→(q=12∨q=13∨q=1)→Ok (f (q,0,v,0,nm,b,l,j,g,fs,lo)) Q):Ok (Option.bind (f101 b l i g fs lo) f) Q:=by
 refine goB (fun y =>∃k v nm j,0≤j∧(k=12∨k=13∨k=1)∧y=(k,0,v,0,nm,b,l,j,g,fs,lo)) ?_ fun y ⟨q,v,nm,j,hj,hk,e⟩=>by subst e;exact k q v nm j hj hk
 exact goB _ (ad9 h hi) fun y ⟨q,v,nm,j,hj,hk,e⟩=>by subst e;exact goK rfl (goK rfl (goK rfl (ay ⟨q,v,nm,j,hj,hk,rfl⟩)))
def PE (n:Nat) (b:Int) (l:List Int) (g:List aJ) (fs:List au) (lo:List (List UInt8)) (y:Int×Int×Int×Int×List UInt8×List aV×Int×List Int×Int×List aJ×List au×List (List UInt8)):Prop:=
 ∃x j,y=(x.kind,x.op,x.value,x.line,x.name,x.args,b,l,j,g,fs,lo)∧0≤j∧WE 3 n x
def PC (n:Nat) (b:Int) (l:List Int) (g:List aJ) (fs:List au) (lo:List (List UInt8)) (y:Int×Int×Int×Int×List UInt8×Int×List Int×Int×List aJ×List au×List (List UInt8)×List aV):Prop:=
 ∃x j,y=(x.kind,x.op,x.value,x.line,x.name,b,l,j,g,fs,lo,x.args)∧0≤j∧WE 3 n x
theorem aaU {n:Nat} {p b i:Int} {r} (h:Ok r (PE n b l g fs lo)):Ok (k95 p b l i g fs lo r) (PE n b l g fs lo):=
 goB _ h fun y ⟨x,j,e,h⟩=>by subst e;exact goK rfl (goK rfl (goK rfl (ay ⟨x,j,rfl,h⟩)))
theorem aaV {n:Nat} {p b i:Int} {r} (h:Ok r (PC n b l g fs lo)):Ok (k98 p b l i g fs lo r) (PC n b l g fs lo):=
 goB _ h fun y ⟨x,j,e,h⟩=>by subst e;exact goK rfl (goK rfl (goK rfl (ay ⟨x,j,rfl,h⟩)))
theorem XZ {β:Type} {rec:T95} {d n:Nat} (h :∀b i,0≤i→Ok (rec d b l i g fs lo) (PE n b l g fs lo)) {q b i:Int} {f} {Q:β→Prop} (hq:q=d) (hi:0≤i)
  (k :∀k o v i nm ar j,0≤j→WE 3 n (aV.mk k o v i nm ar)→Ok (f (k,o,v,i,nm,ar,b,l,j,g,fs,lo)) Q):Ok (Option.bind (rec q b l i g fs lo) f) Q:=by
 subst hq
 exact goB _ (h b i hi) fun y ⟨⟨a1,a2,a3,a4,a5,a6⟩,j,e,h1,h2⟩=>by subst e;exact k _ _ _ _ _ _ j h1 h2
theorem ajU {β:Type} {rec:T98} {d n:Nat} (h :∀b i,0≤i→Ok (rec d b l i g fs lo) (PC n b l g fs lo)) {q b i:Int} {f} {Q:β→Prop} (hq:q=d) (hi:0≤i)
  (k :∀k o v i nm ar j,0≤j→WE 3 n (aV.mk k o v i nm ar)→Ok (f (k,o,v,i,nm,b,l,j,g,fs,lo,ar)) Q):Ok (Option.bind (rec q b l i g fs lo) f) Q:=by
 subst hq
 exact goB _ (h b i hi) fun y ⟨⟨a1,a2,a3,a4,a5,a6⟩,j,e,h1,h2⟩=>by subst e;exact k _ _ _ _ _ _ j h1 h2
theorem KL {rec:T95} {rec':T98} {d:Nat} (h:Env l g fs lo) (hd:d≤100) (hr :∀b i,0≤i→Ok (rec d b l i g fs lo) (PE (d+1) b l g fs lo)) {b i:Int} (hi:0≤i) :
  Ok (adE rec rec' (d+1:Nat) b l i g fs lo) (PC (d+2) b l g fs lo):=by
 have hw:bW (((d+1:Nat):Int)-1)=d:=by rw [aK (by omega)];omega
 have hf0:=h.f0;have hf1:=h.f1
 unfold adE
 refine goB (PC (d+2) b l g fs lo) ?_ fun y ⟨x,j,e,h⟩=>by subst e;exact goC (by simp) (goC (by simp) (goC (by simp) (ay ⟨x,j,rfl,h⟩)))
 refine goN h.b hi (by omega) fun x0 j0 h0 a0 b0=>goC (aA.2 ⟨a0,b0 (by omega)⟩) (goN h.b h0 (by omega) fun x1 j1 h1 a1 b1 => ?_)
 have b0:=b0 (by omega)
 refine goB (fun y =>∃t j,0≤j∧y=(t,l,j)) ?_ fun y ⟨t,j2,h2,e⟩ => ?_
 ·exact goI (fun _=>goN h.b h1 (by omega) fun x j hj _ _=>ay ⟨_,_,hj,rfl⟩) fun _=>ay ⟨_,_,h1,rfl⟩
 subst e
 refine goB (fun y =>∃(q:Int) (j:Int),0≤j∧q≤2∧y=(q,l,j)) ?_ fun y ⟨q,j3,h3,hq2,e⟩ => ?_
 ·refine goI (fun _=>goN h.b h2 (by omega) fun x j hj _ c=>ay ⟨x,_,hj,by have:=c (by omega);omega,rfl⟩) fun _=>ay ⟨_,_,h2,?_,rfl⟩
  show ((fs.getD x0.toNat fK).params.length:Int)≤2
  rw [getD_at _ (by omega)]
  have:=h.fp _ (List.getElem_mem (l:=fs) (n:=x0.toNat) (by omega));omega
 subst e
 refine goB (fun y =>∃j ar,0≤j∧ar.length≤2∧(∀x∈ar,WE 3 (d+1) x)∧y=(b,l,j,ar)) ?_ fun y ⟨j4,ar,h4,l1,l2,e⟩ => ?_
 ·refine aZ (fun s:Int×Int×List Int×Int×List aV =>∃j,0≤j∧0≤s.1∧(s.1≤q∨s.1=0)∧(s.2.2.2.2.length:Int)=s.1∧(∀x∈s.2.2.2.2,WE 3 (d+1) x)∧s=(s.1,b,l,j,s.2.2.2.2)) (fun s=>(q-s.1).toNat)
   ⟨j3,h3,by simp,.inr rfl,by simp,fun x hx=>(by cases hx),rfl⟩ fun ⟨c,b',l',j',ar⟩ ⟨j,hj,e1,e2,e3,e4,e⟩ => ?_
  simp only at e1 e2 e3 e4
  injection e with _ e;injection e with f1 e;injection e with f2 e;injection e with f3 e
  subst f1;subst f2;subst f3
  refine goI (fun hc => ?_) (fun _=>ay ⟨j',ar,hj,by omega,e4,rfl⟩)
  have hc:c<q:=by simpa using hc
  refine XZ hr hw hj fun _ _ _ _ _ _ j hj hx=>goC (by unfold bG;simp;omega) (ay ⟨⟨j,hj,?_,?_,?_,fun z hz => ?_,rfl⟩,?_⟩)
  all_goals try simp only [aK (x:=c+1) (by omega)]
  ·omega
  ·exact .inl (by omega)
  ·simp;omega
  ·rcases List.mem_append.1 hz with hz | hz
   ·exact e4 z hz
   ·rw [List.mem_singleton] at hz;subst hz;exact hx
  ·omega
 subst e
 refine goI (fun _=>ay ⟨aV.mk 9 0 0 0 _ ar,j4,rfl,h4,⟨by simp only;omega,fun h=>absurd h (by simp),fun h=>absurd h (by simp),l2⟩⟩) fun _=>goN h.b h4 (by omega) fun x5 j5 h5 _ _ => ?_
 refine goB (fun y =>∃x j,0≤j∧WE 3 (d+1) x∧y=(b,l,j,x.kind,x.op,x.value,x.line,x.name,x.args)) ?_ fun y ⟨⟨x1,x2,x3,x4,x5,x6⟩,j6,h6,hx,e⟩ => ?_
 ·refine goI (fun _=>XZ hr hw h5 fun _ _ _ _ _ _ j hj hx=>ay ⟨aV.mk _ _ _ _ _ _,j,hj,hx,rfl⟩) fun _=>ay ⟨aV.mk 11 0 0 0 _ nY,j5,h5,we0 (by simp) (by simp) (by simp),rfl⟩
 subst e
 refine goI (fun _=>ay ⟨aV.mk 9 0 0 0 x5 ar,j6,rfl,h6,⟨by simp only;omega,fun h=>absurd h (by simp),fun h=>absurd h (by simp),l2⟩⟩) fun _=>goC (by unfold bG;simp;omega) (ay ⟨aV.mk 10 0 0 0 cO ([aV.mk x1 x2 x3 x4 x5 x6]++ar),j6,rfl,h6,⟨by simp;omega,fun h=>absurd h (by simp),fun h=>by simp,fun z hz => ?_⟩⟩)
 rcases List.mem_append.1 hz with hz | hz
 ·rw [List.mem_singleton] at hz;subst hz;exact hx
 ·exact l2 z hz
theorem XH {rec:T95} {rec':T98} {d:Nat} (h:Env l g fs lo) (hd:d≤100) (hr :∀b i,0≤i→Ok (rec d b l i g fs lo) (PE (d+1) b l g fs lo))
  (hc :∀b i,0≤i→Ok (rec' (d+1:Nat) b l i g fs lo) (PC (d+2) b l g fs lo)) {b i:Int} (hi:0≤i) :
  Ok (XD rec rec' (d+1:Nat) b l i g fs lo) (PE (d+2) b l g fs lo):=by
 have hw:bW (((d+1:Nat):Int)-1)=d:=by rw [aK (by omega)];omega
 unfold XD
 refine goB (PE (d+2) b l g fs lo) ?_ fun y ⟨x,j,e,h⟩=>by subst e;exact goC (by simp) (goC (by simp) (goC (by simp) (ay ⟨x,j,rfl,h⟩)))
 refine goB (fun y =>∃t j,0≤j∧y=(t,l,j)) ?_ fun y ⟨t,j2,h2,e⟩ => ?_
 ·exact goI (fun _=>ay ⟨_,_,hi,rfl⟩) fun _=>goN h.b hi (by omega) fun x j hj _ _=>ay ⟨_,_,hj,rfl⟩
 subst e
 refine goI (fun _=>goL h h2 fun q v nm j hj hq=>ay ⟨aV.mk q 0 v 0 nm [],j,rfl,hj,we0 (by omega) (by omega) (by omega)⟩) fun _=>goN h.b h2 (by omega) fun x3 j3 h3 _ _ => ?_
 refine goI (fun _=>goN h.b h3 (by omega) fun x4 j4 h4 _ _=>XZ hr hw h4 fun _ _ _ _ _ _ j hj hx=>vk rfl (ay ⟨aV.mk 5 _ 0 0 cO [_],j,rfl,hj,we1 (by simp) (by simp) hx (by omega)⟩)) fun _ => ?_
 refine goI (fun _=>XZ hr hw h3 fun _ _ _ _ _ _ j hj hx=>XZ hr hw hj fun _ _ _ _ _ _ j hj hz=>vk rfl (ay ⟨aV.mk 7 _ 0 0 cO [_,_],j,rfl,hj,we2 hx hz (by omega)⟩)) fun _ => ?_
 refine goI (fun _=>XZ hr hw h3 fun _ _ _ _ _ _ j hj hx=>XZ hr hw hj fun _ _ _ _ _ _ j hj hz=>vk rfl (ay ⟨aV.mk 8 _ 0 0 cO [_,_],j,rfl,hj,we2 hx hz (by omega)⟩)) fun _ => ?_
 refine goB (fun _=>True) ?_ fun s _ => ?_
 ·exact goI (fun _=>ay trivial) fun _=>ay trivial
 refine goI (fun _=>ajU hc rfl h3 fun _ _ _ _ _ _ j hj hx=>ay ⟨aV.mk _ _ _ _ _ _,j,rfl,hj,hx⟩) fun _=>pR (fun y =>∃j,0≤j∧y=(b,l,j)) ?_ fun y ⟨j,hj,e⟩ => ?_
 ·exact goI (fun _=>goP h h3 fun nm t j hj=>goI (fun _=>XZ hr hw hj fun _ _ _ _ _ _ j hj hx=>ay ⟨aV.mk 4 0 0 0 nm [_],j,rfl,hj,we1 (by simp) (by simp) hx (by omega)⟩) fun _=>ay ⟨_,hj,rfl⟩) fun _=>ay ⟨_,h3,rfl⟩
 subst e
 exact goN h.b hj (by omega) fun x5 j5 h5 _ _=>XZ hr hw h5 fun _ _ _ _ _ _ j hj hx=>XZ hr hw hj fun _ _ _ _ _ _ j hj hz=>vk rfl (ay ⟨aV.mk 6 _ 0 0 cO [_,_],j,rfl,hj,we2 hx hz (by omega)⟩)
theorem XI {rec:T95} {rec':T98} (h:Env l g fs lo) {b i:Int} (hi:0≤i):Ok (XD rec rec' (0:Nat) b l i g fs lo) (PE 1 b l g fs lo):=by
 unfold XD
 refine goB (PE 1 b l g fs lo) ?_ fun y ⟨x,j,e,h⟩=>by subst e;exact goC (by simp) (goC (by simp) (goC (by simp) (ay ⟨x,j,rfl,h⟩)))
 refine goB (fun y=>y=(true,l,i)) ?_ fun y e => ?_
 ·exact goT (decide_eq_true (by simp)) (ay rfl)
 subst e
 exact goT rfl (goL h hi fun q v nm j hj hq=>ay ⟨aV.mk q 0 v 0 nm [],j,rfl,hj,we0 (by omega) (by omega) (by omega)⟩)
theorem Qs (n:Nat):(rG (n+1)).1=XD (adF n) (adG n):=rfl
theorem Qu (n:Nat):(rG (n+1)).2=adE (adF n) (adG n):=rfl
theorem xB (h:Env l g fs lo) :∀d:Nat,d≤100→∀n,2*d+1≤n→(∀b i,0≤i→Ok (adF n d b l i g fs lo) (PE (d+1) b l g fs lo))∧∀e,e+1=d→∀b i,0≤i→Ok (adG n d b l i g fs lo) (PC (d+1) b l g fs lo)
 |_,_,0,hn=>by omega
 |0,_,n+1,hn=>⟨fun b i hi=>aaU (by rw [Qs];exact XI h hi),fun e he=>by omega⟩
 |d+1,hd,n+1,hn=>by
  have ih:=xB h d (by omega) n (by omega)
  obtain ⟨m,rfl⟩ :∃m,n=m+1:=⟨n-1,by omega⟩
  have ih':=xB h d (by omega) m (by omega)
  refine ⟨fun b i hi=>aaU (by rw [Qs];exact XH h (by omega) ih.1 (fun b i hi=>aaV (by rw [Qu];exact KL h (by omega) ih'.1 hi)) hi),fun e he b i hi=>aaV (by rw [Qu];exact KL h (by omega) ih.1 hi)⟩
end
end Go.Fg.Ytmgfidfcioiedaa

