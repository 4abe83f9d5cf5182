/-
  Chapter 11, plain: the order of a search that has reached all blocks.
-/
import Derived.Test.YtmgfidfcioiedaaGc
namespace Go.Fg.Ytmgfidfcioiedaa
set_option linter.unusedVariables false
set_option linter.unusedSimpArgs false
theorem TG {L:List Nat} (hn:L.Nodup) {v u:Nat} (h:Bf L v u):L.reverse.idxOf u<L.reverse.idxOf v:=by
 obtain ⟨A,B,C,e⟩:=h
 subst e
 have hr:(A++v::(B++u::C)).reverse=C.reverse++u::(B.reverse++v::A.reverse):=by simp
 rw [hr]
 simp only [List.nodup_append,List.nodup_cons,List.mem_append,List.mem_cons] at hn
 obtain ⟨_,⟨hv,_,⟨hu,_⟩,hBC⟩,_⟩:=hn
 have h1:u∉C.reverse:=by simpa using hu
 have h2:v∉C.reverse:=by simp;exact fun h=>hv (.inr (.inr h))
 rw [List.idxOf_append,if_neg h1,List.idxOf_append,if_neg h2,List.idxOf_cons_self]
 have hne:u≠v:=fun e=>hv (.inr (.inl e.symm))
 have:(u==v)=false:=by simpa using hne
 rw [List.idxOf_cons,this]
 simp
structure Od (n:Nat) (E:Nat→Nat→Prop) (O:List Nat):Prop where
 nd:O.Nodup
 len:O.length=n
 mem :∀{x},x∈O↔x<n
 gr:Gr n E fun v=>O.idxOf v
 lt :∀v,v<n→O.idxOf v<n
 back :∀{b x},E b x→O.idxOf x≤O.idxOf b→∀S:Nat→Prop,S x→(∀u v,S u→E u v→O.idxOf u<O.idxOf v→S v)→S b
theorem ajQ {n:Nat} {E:Nat→Nat→Prop} {seen seen':List Bool} {L:List Nat} (h0:0<n) (hin :∀{u v},E u v→u<n∧v<n) (hc :∀S:Nat→Prop,S 0→(∀u v,S u→E u v→S v)→∀b,b<n→S b) (hs :∀x,seen.getD x false=false) (h:Vis E n 0 seen seen' L):Od n E L.reverse:=by
 have hnd:L.reverse.Nodup:=(List.reverse_perm L).nodup_iff.2 h.nd
 have h0L:0∈L:=by obtain ⟨L0,e⟩:=h.last;rw [e];simp
 have ajR :∀y∈L,∀x,E y x→x∈L∧(Bf L x y∨Fc E L x y):=fun y hy x hx=>by
  rcases h.suc y hy x hx with h1 | h1
  ·rw [hs x] at h1;cases h1
  ·exact h1
 have hall :∀x,x<n→x∈L:=hc (·∈L) h0L fun u v hu he=>(ajR u hu v he).1
 have hmem :∀{x},x∈L.reverse↔x<n:=fun {x}=>⟨fun hx=>(h.new x (List.mem_reverse.1 hx)).1,fun hx=>List.mem_reverse.2 (hall x hx)⟩
 have hlen:L.reverse.length=n:=by
  have:=(List.perm_ext_iff_of_nodup hnd List.nodup_range).2 (fun a=>by rw [hmem,List.mem_range] :∀a,a∈L.reverse↔a∈List.range n)
  rw [this.length_eq,List.length_range]
 have hz:L.reverse.idxOf 0=0:=by
  obtain ⟨L0,e⟩:=h.last
  rw [e];simp
 have hlt :∀v,v<n→L.reverse.idxOf v<n:=fun v hv=>by rw [←hlen];exact List.idxOf_lt_length_of_mem (hmem.2 hv)
 have hfw :∀{x y},Fc E L x y→∀S:Nat→Prop,S x→(∀u v,S u→E u v→L.reverse.idxOf u<L.reverse.idxOf v→S v)→S y:=by
  intro x y hf S sx hS
  induction hf with
  |refl=>exact sx
  |step _ he hb ih=>exact hS _ _ ih he (TG h.nd hb)
 refine ⟨hnd,hlen,hmem,⟨h0,hin,fun {u v} hu hv e => ?_,hz,fun {v} hv hv0 => ?_⟩,hlt,fun {b x} he hle S sx hS => ?_⟩
 ·have h1:=List.getElem_idxOf (List.idxOf_lt_length_of_mem (hmem.2 hu))
  have h2:=List.getElem_idxOf (List.idxOf_lt_length_of_mem (hmem.2 hv))
  rw [←h1,←h2]
  simp only [e]
 ·have:=h.reach v (hall v hv)
  cases this with
  |refl=>exact absurd rfl hv0
  |step _ he hb=>exact ⟨_,he,TG h.nd hb⟩
 ·rcases (ajR b (hall b (hin he).1) x he).2 with h1 | h1
  ·have:=TG h.nd h1;omega
  ·exact hfw h1 S sx hS
end Go.Fg.Ytmgfidfcioiedaa

