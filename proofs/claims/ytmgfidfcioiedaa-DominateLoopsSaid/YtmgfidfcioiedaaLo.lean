/-
  Chapter 11, plain: sources are drawn.
-/
import Derived.Test.YtmgfidfcioiedaaLn
namespace Go.Fg.Ytmgfidfcioiedaa
open Go.Fw
set_option linter.unusedVariables false
set_option linter.unusedSimpArgs false
section
variable {kk:Int} {l:List Int} {g:List aJ} {fs:List au}
theorem XK {rec:T55} {rec':T78} {sQ:T97} {d:Nat} (h:TM kk l g fs) (hd:d≤100) (hr :∀e:Nat,e+1=d→∀m b i lo,m≤4→0≤b→lo.length+b≤kk→0≤i→Ok (rec e m b l i g fs lo) (PB (e+1) (max m 0) kk l g fs))
  (hp:0<d→∀b i lo,0≤b→lo.length+b≤kk→0≤i→Ok (sQ d b l i g fs lo) (PL (d+1) kk l g fs))
  {b i:Int} {lo} (hb:0≤b) (hl:lo.length+b+1≤kk) (hi:0≤i):Ok (adJ rec rec' sQ d b l i g fs lo) (PS (d+1) kk l g fs):=by
 have hE:=h.env (lo:=lo) (by omega)
 have hlo:=hE.lo
 unfold adJ
 refine goB (PS (d+1) kk l g fs) ?_ fun y ⟨k,i,nm,es,th,el,b,j,lo,e,h⟩=>by subst e;exact goC (by simp) (goC (by simp) (ay ⟨k,i,nm,es,th,el,b,j,lo,rfl,h⟩))
 refine goN h.b hi (by omega) fun x0 j0 h0 _ _=>goB (fun _=>True) ?_ fun s3 _ => ?_
 ·exact goI (fun _=>ay trivial) fun _=>ay trivial
 refine pR (fun y =>∃j,0≤j∧y=(b,l,j)) ?_ fun y ⟨j,hj,e⟩ => ?_
 rotate_left
 ·subst e
  exact Qv hE hj fun _ _ _ _ _ _ j hj hx=>vk rfl (ay ⟨7,_,_,[_],[],[],b,j,lo,rfl,hj,⟨hb,by omega⟩,JJ hx⟩)
 refine goI (fun _=>goB _ (aaW hlo) fun y ⟨nm,t,e⟩ => ?_) fun _=>pR (fun y =>∃j,0≤j∧y=(b,l,j)) ?_ fun y ⟨j,hj,e⟩=>(by subst e;exact ay ⟨j,hj,rfl⟩)
 ·subst e
  refine goI (fun _=>Qv hE h0 fun _ _ _ _ _ _ j hj hx=>vk rfl (goC (by unfold bG;simp;omega) (ay ⟨1,_,_,[_],[],[],b,j,lo++[nm],rfl,hj,⟨hb,by simp;omega⟩,JJ hx⟩))) fun _=>ay ⟨_,h0,rfl⟩
 refine goI (fun _=>goI (fun hc=>goN h.b h0 (by omega) fun x j hj a1 a2=>goC (aA.2 ⟨a1,a2 (by have:0<lo.length:=(by simpa using hc);omega)⟩) (Qv hE hj fun _ _ _ _ _ _ j hj hx=>vk rfl (ay ⟨2,_,_,[_],[],[],b,j,lo,rfl,hj,⟨hb,by omega⟩,JJ hx⟩))) fun _=>ay ⟨_,h0,rfl⟩) fun _=>pR (fun y =>∃j,0≤j∧y=(b,l,j)) ?_ fun y ⟨j,hj,e⟩=>(by subst e;exact ay ⟨j,hj,rfl⟩)
 refine goI (fun _=>goP hE h0 fun nm t j hj=>goI (fun _=>Qv hE hj fun _ _ _ _ _ _ j hj hx=>vk rfl (ay ⟨2,_,_,[_],[],[],b,j,lo,rfl,hj,⟨hb,by omega⟩,JJ hx⟩)) fun _=>ay ⟨_,hj,rfl⟩) fun _=>pR (fun y =>∃j,0≤j∧y=(b,l,j)) ?_ fun y ⟨j,hj,e⟩=>(by subst e;exact ay ⟨j,hj,rfl⟩)
 refine goI (fun _=>goP hE h0 fun nm t j hj=>goI (fun _=>anz hE hj fun _ _ _ _ _ _ j hj hx=>Qv hE hj fun _ _ _ _ _ _ j hj hz=>ay ⟨3,_,_,[_,_],[],[],b,j,lo,rfl,hj,⟨hb,by omega⟩,⟨by simp,fun h=>absurd h (by simp),ad_ hx hz,⟨by simp,by simp⟩,fun y h=>(by cases h),fun y h=>by cases h⟩⟩) fun _=>ay ⟨_,hj,rfl⟩) fun _=>goB (fun _=>True) ?_ fun s3 _=>pR (fun _=>True) ?_ fun _ _=>ay ⟨_,h0,rfl⟩
 ·exact goI (fun _=>ay trivial) fun _=>ay trivial
 refine goI (fun _=>goI (fun hc => ?_) fun _=>ay trivial) fun _=>pR (fun _=>True) ?_ fun _ _=>ay trivial
 ·obtain ⟨e,rfl⟩ :∃e,d=e+1:=⟨d-1,by have:0<d:=(by simpa using hc);omega⟩
  have hw:bW (((e+1:Nat):Int)-1)=e:=by rw [aK (by omega)];omega
  have hr:=hr e rfl
  have hone :∀x:Int,0≤x→(1≤(2:Int)→x<2)→bW (1+x)≤4:=fun x h1 h2=>by have:=h2 (by omega);rw [aK (by omega)];omega
  refine Qv hE h0 fun _ _ _ _ _ _ j hj hx=>vk rfl (goN h.b hj (by omega) fun x1 j1 h1 a1 b1=>aea hr hw (hone _ a1 b1) hb (show (lo.length:Int)+b≤kk by omega) h1 fun ss b' j lo' c1 c2 c3 c4 c5=>goN h.b c1 (by omega) fun x2 j2 h2 a2 b2 => ?_)
  refine goB (fun y =>∃b j lo el,y=(b,l,j,4,0,cO,lo,el)∧0≤j∧(0≤b∧lo.length+b≤kk)∧el.length≤4∧∀s∈el,WS 3 3 (e+1) s) ?_ fun y ⟨b,j,lo,el,e',d1,d2,d3,d4⟩=>by
   subst e';exact ay ⟨4,_,_,[_],ss,el,b,j,lo,rfl,d1,d2,Rq hx (by omega) (by omega) c5 d4⟩
  exact goI (fun _=>goN h.b h2 (by omega) fun x3 j3 h3 a3 b3=>aea hr hw (hone _ a3 b3) c2 c3 h3 fun ss b' j lo' c1 c2 c3 c4 c5=>ay ⟨b',j,lo',ss,rfl,c1,⟨c2,c3⟩,c4,c5⟩) fun _=>ay ⟨b',j2,lo',[],rfl,h2,⟨c2,c3⟩,by simp,fun s h=>by cases h⟩
 refine goI (fun _=>goI (fun hc=>goB _ (hp (by simpa using hc) b j0 lo hb (by omega) h0) fun y ⟨k,i,nm,es,th,b,j,lo,e,h1,h2,h3⟩=>by subst e;exact ay ⟨k,i,nm,es,th,[],b,j,lo,rfl,h1,h2,h3⟩) fun _=>ay trivial) fun _=>goI (fun _ => ?_) fun _=>ay trivial
 exact goN h.b h0 (by omega) fun x j hj _ _=>goI (fun _=>Qv hE hj fun _ _ _ _ _ _ j hj hx=>vk rfl (ay ⟨6,_,_,[_],[],[],b,j,lo,rfl,hj,⟨hb,by omega⟩,JJ hx⟩)) fun _=>anA hE hj fun _ _ _ _ _ _ j hj hx=>vk rfl (ay ⟨8,_,_,[_],[],[],b,j,lo,rfl,hj,⟨hb,by omega⟩,JJ hx⟩)
theorem aaX (n:Nat):(jC (n+1)).1=adI (aaF n) (adL n) (adM n):=rfl
theorem aaY (n:Nat):(jC (n+1)).2.1=adJ (aaF n) (adL n) (adM n):=rfl
theorem aaZ (n:Nat):(jC (n+1)).2.2=adK (aaF n) (adL n) (adM n):=rfl
theorem Qw (h:TM kk l g fs) :∀n:Nat,(∀d:Nat,d≤100→3*d+2≤n→∀m b i lo,m≤4→0≤b→lo.length+b≤kk→0≤i→Ok (aaF n d m b l i g fs lo) (PB (d+1) (max m 0) kk l g fs))∧
  (∀d:Nat,d≤100→3*d+1≤n→∀b i lo,0≤b→lo.length+b+1≤kk→0≤i→Ok (adL n d b l i g fs lo) (PS (d+1) kk l g fs))∧
  (∀d:Nat,d≤100→0<d→3*d≤n→∀b i lo,0≤b→lo.length+b≤kk→0≤i→Ok (adM n d b l i g fs lo) (PL (d+1) kk l g fs))
 |0=>⟨fun d _ h=>by omega,fun d _ h=>by omega,fun d _ h h'=>by omega⟩
 |n+1=>by
  obtain ⟨i1,i2,i3⟩:=Qw h n
  refine ⟨fun d h1 h2 m b i lo h3 h4 h5 h6=>agV (by rw [aaX];exact TN h (i2 d h1 (by omega)) h3 h4 h5 h6),
   fun d h1 h2 b i lo h3 h4 h5=>agW (by rw [aaY];exact XK h h1 (fun e he=>i1 e (by omega) (by omega)) (fun hd=>i3 d h1 hd (by omega)) h3 h4 h5),fun d h1 h2 h3 b i lo h4 h5 h6 => ?_⟩
  obtain ⟨e,rfl⟩ :∃e,d=e+1:=⟨d-1,by omega⟩
  exact agX (by rw [aaZ];exact XJ h (by omega) (i1 e (by omega) (by omega)) h4 h5 h6)
end
structure Src (m h:Nat) (g:List aJ) (fs:List au):Prop where
 g:g.length≤100
 f:fs.length≤100
 ps :∀f∈fs,f.params.length≤2
 ws :∀f∈fs,f.body.length≤10∧∀s∈f.body,WS m h 3 s
theorem Fv {A R α:Type} {body:A→Option (A ⊕ R)} {Q:R→Prop} {a:A} (ct:A→Int) (ls:A→List α) (I:A→Prop) (m:Nat) (h0:I a) (hm:(ls a).length+ct a≤m) (hc:m≤1000)
  (h :∀a,I a→(ls a).length≤m→0<ct a→(ls a).length+ct a≤m→Ok (body a) (Js (fun a'=>I a'∧ct a'=ct a-1∧(ls a').length=(ls a).length+1) Q))
  (he :∀a,I a→(ls a).length≤m→¬ 0<ct a→Ok (body a) (Js (fun _=>False) Q)) (hl:(ls a).length≤m):Ok (aY body a) Q:=by
 refine aZ (fun a=>I a∧(ls a).length≤m∧(0<ct a→(ls a).length+ct a≤m)) (fun a=>(ct a).toNat) ⟨h0,hl,fun _=>hm⟩ fun a ⟨h1,h2,h3⟩ => ?_
 by_cases hp:0<ct a
 ·refine ku (h a h1 h2 hp (h3 hp)) fun y hy => ?_
  cases y with
  |inl a'=>obtain ⟨g1,g2,g3⟩:=hy;exact ⟨⟨g1,by have:=h3 hp;omega,fun _=>by have:=h3 hp;omega⟩,by omega⟩
  |inr r=>exact hy
 ·refine ku (he a h1 h2 hp) fun y hy => ?_
  cases y with
  |inl a'=>exact hy.elim
  |inr r=>exact hy
theorem XL {l:List Int} {i:Int} (hb:Bytes l) (hi:0≤i):Ok (f42 l i) fun y=>y.1=l∧0≤y.2.1∧Src 3 3 y.2.2.1 y.2.2.2:=by
 unfold f42
 refine vk rfl (goN hb hi (by omega) fun x1 j1 h1 a1 b1=>goB (fun y=>y.2.length≤2) ?_ fun ⟨z,g0⟩ hg0 => ?_)
 ·have b1:=b1 (by omega)
  refine Fv (fun s:Int×Int×List aJ=>s.1) (fun s=>s.2.2) (fun _=>True) 2 trivial (by simp only [List.length_nil];omega) (by omega) (fun ⟨q,z,gs⟩ _ e1 e2 e3 => ?_) (fun ⟨q,z,gs⟩ _ e1 e2=>Ee (decide_eq_false e2) (ay e1)) (by simp)
  simp only at e1 e2 e3
  refine goT (decide_eq_true e2) (goB _ (sO (by omega) (by simp only;omega)) fun nm hnm=>goC (m_.2 (by simp;omega)) (goC (by unfold bG;simp;omega) (ay ⟨trivial,aK (by omega),by simp⟩)))
 simp only at hg0
 refine goN hb h1 (by omega) fun x2 j2 h2 a2 b2=>goB (fun y=>y.1=l∧0≤y.2.1∧y.2.2.2.length≤4) ?_ fun ⟨l',j3,z',gs⟩ ⟨e1,e2,e3⟩ => ?_
 ·have b2:=b2 (by omega)
  refine Fv (fun s:Int×List Int×Int×Int×List aJ=>s.1) (fun s=>s.2.2.2.2) (fun s=>s.2.1=l∧0≤s.2.2.1) 4 ⟨rfl,h2⟩ (by simp only;omega) (by omega) (fun ⟨q,l',j,z,gs⟩ ⟨c1,c2⟩ e1 e2 e3 => ?_) (fun ⟨q,l',j,z,gs⟩ ⟨c1,c2⟩ e1 e2=>Ee (decide_eq_false e2) (ay ⟨c1,c2,e1⟩)) (by simp only;omega)
  simp only at e1 e2 e3 c1 c2
  subst c1
  refine goT (decide_eq_true e2) (goB _ (sO (by omega) (by simp only;omega)) fun nm hnm=>goC (m_.2 (by simp;omega)) (goN hb c2 (by omega) fun x j hj _ _=>goC (by unfold bG;simp;omega) (ay ⟨⟨rfl,hj⟩,aK (by omega),by simp⟩)))
 simp only at e1 e2 e3
 subst e1
 refine goN hb e2 (by omega) fun x4 j4 h4 a4 b4=>goB (fun y=>y.1=l'∧0≤y.2.1∧(0<y.2.2.2.length∧y.2.2.2.length≤4)∧∀f∈y.2.2.2,f.params.length≤2∧f.body=[]) ?_ fun ⟨l2,j5,z2,fs⟩ ⟨e1,e2,e4,e5⟩ => ?_
 ·have b4:=b4 (by omega)
  refine Fv (fun s:Int×List Int×Int×Int×List au=>s.1) (fun s=>s.2.2.2.2) (fun s=>s.2.1=l'∧0≤s.2.2.1∧0<s.2.2.2.2.length∧∀f∈s.2.2.2.2,f.params.length≤2∧f.body=[]) 4 ⟨rfl,h4,by simp,Ny ⟨by simp,rfl⟩⟩ (by simp only [List.length_singleton];omega) (by omega)
   (fun ⟨q,l',j,z,fs⟩ ⟨c1,c2,c3,c4⟩ e1 e2 e3 => ?_) (fun ⟨q,l',j,z,gs⟩ ⟨c1,c2,c3,c4⟩ e1 e2=>Ee (decide_eq_false e2) (ay ⟨c1,c2,⟨c3,e1⟩,c4⟩)) (by simp)
  simp only at e1 e2 e3 c1 c2 c3 c4
  subst c1
  refine goT (decide_eq_true e2) (goB _ (sO (by omega) (by simp only;omega)) fun nm hnm=>goC (m_.2 (by simp;omega)) (goN hb c2 (by omega) fun x j hj a5 b5=>goB (fun y=>y.2.2.length≤2) ?_ fun y hy=>goC (by unfold bG;simp;omega) (ay ⟨⟨rfl,hj,by simp,fun f hf => ?_⟩,aK (by omega),by simp⟩)))
  ·have b5:=b5 (by omega)
   refine Fv (fun s:Int×List UInt8×Int×List (List UInt8)=>s.1) (fun s=>s.2.2.2) (fun _=>True) 2 trivial (by simp only [List.length_nil];omega) (by omega) (fun ⟨q,z,z',gs⟩ _ e1 e2 e3 => ?_) (fun ⟨q,z,z',gs⟩ _ e1 e2=>Ee (decide_eq_false e2) (ay e1)) (by simp)
   simp only at e1 e2 e3
   refine goT (decide_eq_true e2) (goB _ (sO (by omega) (by simp only;omega)) fun nm hnm=>goC (m_.2 (by simp;omega)) (goC (by unfold bG;simp;omega) (ay ⟨trivial,aK (by omega),by simp⟩)))
  ·rcases List.mem_append.1 hf with hf | hf
   ·exact c4 f hf
   ·rw [List.mem_singleton] at hf;subst hf;exact ⟨hy,rfl⟩
 simp only at e1 e2 e3 e4 e5
 subst e1
 refine goB (fun y=>y.1=l2∧0≤y.2.1∧Src 3 3 y.2.2.2.1 y.2.2.2.2.1) ?_ fun y hy=>ay hy
 refine aZ (fun s:Int×List Int×Int×Int×List aJ×List au×List (List UInt8)=>s.2.1=l2∧0≤s.2.2.1∧s.2.2.2.2.1=gs∧s.2.2.2.2.2.1.length=fs.length∧(0≤s.1∧s.1≤fs.length)∧∀f∈s.2.2.2.2.2.1,f.params.length≤2∧f.body.length≤10∧∀s∈f.body,WS 3 3 3 s) (fun s=>(fs.length-s.1).toNat)
  ⟨rfl,e2,rfl,rfl,⟨by simp,by simp⟩,fun f hf=>⟨(e5 f hf).1,by rw [(e5 f hf).2];exact ⟨by simp,fun s h=>by cases h⟩⟩⟩ fun ⟨q,l3,j,z,gs',fs',lo⟩ ⟨c1,c2,c3,c4,c5,c6⟩ => ?_
 simp only at c1 c2 c3 c4 c5 c6
 subst c1;subst c3
 refine goI (fun hc => ?_) fun _=>ay ⟨rfl,c2,⟨by simp only;omega,by simp only;omega,fun f hf=>(c6 f hf).1,fun f hf=>(c6 f hf).2⟩⟩
 have hc:q<fs'.length:=by simpa using hc
 have hq:q.toNat<fs'.length:=by omega
 have hf:=c6 _ (List.getElem_mem hq)
 rw [←getD_at fK hq] at hf
 generalize hfd:fs'.getD q.toNat fK=fd at hf
 have hES:TM 20 l3 gs' fs':=⟨hb,by omega,by omega,by omega,fun f hf=>(c6 f hf).1,by omega⟩
 refine goC (aA.2 ⟨c5.1,hc⟩) (goC ?_ (goN hb c2 (by omega) fun x6 j6 h6 a6 b6 => ?_))
 ·show (true&&decide _)=true;simp [hfd];omega
 simp only [hfd]
 have b6:=b6 (by omega)
 rw [show bW (1+x6)=1+x6 from aK (by omega)]
 refine goB _ ((Qw hES 1048576).1 2 (by omega) (by omega) (1+x6) 7 j6 (jH++fd.params) (by omega) (by omega) (by simp;omega) h6) fun y ⟨ss,b,j,lo,e,d1,d2,d3,d4⟩ => ?_
 subst e
 refine goC (aA.2 ⟨c5.1,hc⟩) (ay ⟨⟨rfl,d1,rfl,?_,?_,fun f h => ?_⟩,?_⟩)
 ·simp only [List.length_set];exact c4
 ·simp only [aK (x:=q+1) (by omega)];omega
 ·rcases List.mem_or_eq_of_mem_set h with h | h
  ·exact c6 f h
  ·subst h;exact ⟨hf.1,d3.1,d4⟩
 ·simp only [aK (x:=q+1) (by omega)];omega
end Go.Fg.Ytmgfidfcioiedaa

