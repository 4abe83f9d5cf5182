/-
  Shapes of the functions of the seat, printed by a program (wip/gen/Infer.lean).
-/
import Derived.Test.YtdioheaklahnnaaFwT
import Derived.Test.YtdioheaklahnnaaZd
namespace Go.Fg.Ytdioheaklahnnaa
open Go.Fw Go.Proofs
set_option linter.unusedVariables false
structure ModelS where
  step : Int
  mispredict : Int
  miss : Int
  fault : Int
  call : Int
  indirect : Int
  line : Int
  sets : Int
  ways : Int
  page : Int
  resident : Int
  predict : Int
def dfModelS : ModelS := ModelS.mk (0 : Int) (0 : Int) (0 : Int) (0 : Int) (0 : Int) (0 : Int) (0 : Int) (0 : Int) (0 : Int) (0 : Int) (0 : Int) (0 : Int)
def erModelS (x : ModelS) : List P := [P.int .i64 (ModelS.step x), P.int .i64 (ModelS.mispredict x), P.int .i64 (ModelS.miss x), P.int .i64 (ModelS.fault x), P.int .i64 (ModelS.call x), P.int .i64 (ModelS.indirect x), P.int .i64 (ModelS.line x), P.int .i64 (ModelS.sets x), P.int .i64 (ModelS.ways x), P.int .i64 (ModelS.page x), P.int .i64 (ModelS.resident x), P.int .i64 (ModelS.predict x)]
structure FetchS where
  address : Int
  size : Int
  kind : Int
def dfFetchS : FetchS := FetchS.mk (0 : Int) (0 : Int) (0 : Int)
def erFetchS (x : FetchS) : List P := [P.int .i64 (FetchS.address x), P.int .i64 (FetchS.size x), P.int .i64 (FetchS.kind x)]
def reC : Nat → Type
  | 0 => Unit
  | 1 => Unit
  | 2 => Unit
  | 3 => Unit
  | 4 => FetchS
  | 5 => ModelS
  | 6 => Unit
  | 7 => Unit
  | 8 => Unit
  | 9 => Unit
  | _ => Unit
def reF : Nat → List Ty
  | 0 => []
  | 1 => []
  | 2 => []
  | 3 => []
  | 4 => [(.int .i64), (.int .i64), (.int .i64)]
  | 5 => [(.int .i64), (.int .i64), (.int .i64), (.int .i64), (.int .i64), (.int .i64), (.int .i64), (.int .i64), (.int .i64), (.int .i64), (.int .i64), (.int .i64)]
  | 6 => []
  | 7 => []
  | 8 => []
  | 9 => []
  | _ => []
def reDf : (n : Nat) → reC n
  | 0 => ()
  | 1 => ()
  | 2 => ()
  | 3 => ()
  | 4 => dfFetchS
  | 5 => dfModelS
  | 6 => ()
  | 7 => ()
  | 8 => ()
  | 9 => ()
  | _ + 10 => ()
def reUn : (n : Nat) → reC n → List (TP reC)
  | 0, x => []
  | 1, x => []
  | 2, x => []
  | 3, x => []
  | 4, x => [⟨(.int .i64), FetchS.address x⟩, ⟨(.int .i64), FetchS.size x⟩, ⟨(.int .i64), FetchS.kind x⟩]
  | 5, x => [⟨(.int .i64), ModelS.step x⟩, ⟨(.int .i64), ModelS.mispredict x⟩, ⟨(.int .i64), ModelS.miss x⟩, ⟨(.int .i64), ModelS.fault x⟩, ⟨(.int .i64), ModelS.call x⟩, ⟨(.int .i64), ModelS.indirect x⟩, ⟨(.int .i64), ModelS.line x⟩, ⟨(.int .i64), ModelS.sets x⟩, ⟨(.int .i64), ModelS.ways x⟩, ⟨(.int .i64), ModelS.page x⟩, ⟨(.int .i64), ModelS.resident x⟩, ⟨(.int .i64), ModelS.predict x⟩]
  | 6, x => []
  | 7, x => []
  | 8, x => []
  | 9, x => []
  | _ + 10, _ => []
def reRo : (n : Nat) → List (TP reC) → reC n
  | 0, ws => ()
  | 1, ws => ()
  | 2, ws => ()
  | 3, ws => ()
  | 4, ws => FetchS.mk (TP.get (.int .i64) (0 : Int) ws 0) (TP.get (.int .i64) (0 : Int) ws 1) (TP.get (.int .i64) (0 : Int) ws 2)
  | 5, ws => ModelS.mk (TP.get (.int .i64) (0 : Int) ws 0) (TP.get (.int .i64) (0 : Int) ws 1) (TP.get (.int .i64) (0 : Int) ws 2) (TP.get (.int .i64) (0 : Int) ws 3) (TP.get (.int .i64) (0 : Int) ws 4) (TP.get (.int .i64) (0 : Int) ws 5) (TP.get (.int .i64) (0 : Int) ws 6) (TP.get (.int .i64) (0 : Int) ws 7) (TP.get (.int .i64) (0 : Int) ws 8) (TP.get (.int .i64) (0 : Int) ws 9) (TP.get (.int .i64) (0 : Int) ws 10) (TP.get (.int .i64) (0 : Int) ws 11)
  | 6, ws => ()
  | 7, ws => ()
  | 8, ws => ()
  | 9, ws => ()
  | _ + 10, _ => ()
def reEr : (n : Nat) → reC n → List P
  | 0, x => []
  | 1, x => []
  | 2, x => []
  | 3, x => []
  | 4, x => erFetchS x
  | 5, x => erModelS x
  | 6, x => []
  | 7, x => []
  | 8, x => []
  | 9, x => []
  | _ + 10, _ => []
theorem reFwd : ∀ n, (reF n).all Ty.word = true
  | 0 => rfl
  | 1 => rfl
  | 2 => rfl
  | 3 => rfl
  | 4 => rfl
  | 5 => rfl
  | 6 => rfl
  | 7 => rfl
  | 8 => rfl
  | 9 => rfl
  | _ + 10 => rfl
theorem reUnTy : ∀ (n : Nat) (x : reC n), (reUn n x).map (·.t) = reF n
  | 0, x => rfl
  | 1, x => rfl
  | 2, x => rfl
  | 3, x => rfl
  | 4, x => rfl
  | 5, x => rfl
  | 6, x => rfl
  | 7, x => rfl
  | 8, x => rfl
  | 9, x => rfl
  | _ + 10, _ => rfl
theorem reUnRo : ∀ (n : Nat) (ws : List (TP reC)), ws.map (·.t) = reF n → reUn n (reRo n ws) = ws
  | 0, ws, h => by
    have e := typed_nil h
    subst e
    rfl
  | 1, ws, h => by
    have e := typed_nil h
    subst e
    rfl
  | 2, ws, h => by
    have e := typed_nil h
    subst e
    rfl
  | 3, ws, h => by
    have e := typed_nil h
    subst e
    rfl
  | 4, ws, h => by
    obtain ⟨x0, ws0, e0, h0⟩ := typed_cons h
    subst e0
    obtain ⟨x1, ws1, e1, h1⟩ := typed_cons h0
    subst e1
    obtain ⟨x2, ws2, e2, h2⟩ := typed_cons h1
    subst e2
    have e := typed_nil h2
    subst e
    rfl
  | 5, ws, h => by
    obtain ⟨x0, ws0, e0, h0⟩ := typed_cons h
    subst e0
    obtain ⟨x1, ws1, e1, h1⟩ := typed_cons h0
    subst e1
    obtain ⟨x2, ws2, e2, h2⟩ := typed_cons h1
    subst e2
    obtain ⟨x3, ws3, e3, h3⟩ := typed_cons h2
    subst e3
    obtain ⟨x4, ws4, e4, h4⟩ := typed_cons h3
    subst e4
    obtain ⟨x5, ws5, e5, h5⟩ := typed_cons h4
    subst e5
    obtain ⟨x6, ws6, e6, h6⟩ := typed_cons h5
    subst e6
    obtain ⟨x7, ws7, e7, h7⟩ := typed_cons h6
    subst e7
    obtain ⟨x8, ws8, e8, h8⟩ := typed_cons h7
    subst e8
    obtain ⟨x9, ws9, e9, h9⟩ := typed_cons h8
    subst e9
    obtain ⟨x10, ws10, e10, h10⟩ := typed_cons h9
    subst e10
    obtain ⟨x11, ws11, e11, h11⟩ := typed_cons h10
    subst e11
    have e := typed_nil h11
    subst e
    rfl
  | 6, ws, h => by
    have e := typed_nil h
    subst e
    rfl
  | 7, ws, h => by
    have e := typed_nil h
    subst e
    rfl
  | 8, ws, h => by
    have e := typed_nil h
    subst e
    rfl
  | 9, ws, h => by
    have e := typed_nil h
    subst e
    rfl
  | _ + 10, ws, h => by have e := typed_nil h; subst e; rfl
theorem reErUn : ∀ (n : Nat) (x : reC n), reEr n x = (reUn n x).map fun w => enc1With (sizeWith reF) (encEWith reF reEr (sizeWith reF)) w.t w.x
  | 0, x => by kernel_rfl
  | 1, x => by kernel_rfl
  | 2, x => by kernel_rfl
  | 3, x => by kernel_rfl
  | 4, x => by kernel_rfl
  | 5, x => by kernel_rfl
  | 6, x => by kernel_rfl
  | 7, x => by kernel_rfl
  | 8, x => by kernel_rfl
  | 9, x => by kernel_rfl
  | _ + 10, _ => rfl
instance re : RE where
  C := reC
  F := reF
  dflt := reDf
  un := reUn
  ro := reRo
  er := reEr
  Fwd := reFwd
  un_ty := reUnTy
  un_ro := reUnRo
  er_un := reErUn
def etys : List (Nat × Ty) := [(3, (.int .i64)), (4, .bool), (5, (.int .u8)), (33, (.sl (.int .i64))), (36, (.st 4)), (43, (.st 5))]
def ety : TypeId → Option Ty := fun t => etys.lookup t
/-- warmpath/warmpathdraw.New -/
def sg9 : TSig := { nargs := 2, pin := ⟨[(0, (.one (.p true false (.sl (.int .u8))))), (1, (.one (.p true false (.int .i64))))], []⟩, pout := ⟨[(0, (.one (.box 14 0)))], [(14, (.box [(.p true false (.sl (.int .u8))), (.p false false (.int .i64))]))]⟩, nres := 1, ios := [], news := [14] }
def an9 : Ann := (.seq .nil (.seq (.seq .nil (.meet false ⟨[(0, .sl (.one (.p true false (.sl (.int .u8)))))], []⟩ .nil)) .nil))
--FN 9 15 [.tmp 4] callees [] self false
/-- warmpath/cache.New -/
def sg10 : TSig := { nargs := 1, pin := ⟨[(0, (.one (.p true false (.int .i64))))], []⟩, pout := ⟨[(0, (.agg [(.own 60000)]))], [(60000, (.arr false false false (.sl (.int .i64))))]⟩, nres := 1, ios := [], news := [60000] }
def an10 : Ann := (.seq .nil (.seq (.seq (.meet false ⟨[(0, .keep), (2, .keep), (8, .sl (.one (.p false false .bool)))], [(2, .keep)]⟩ .nil) (.seq .nil .nil)) .nil))
--FN 10 13 [.cell 2 28] callees [] self false
/-- (*warmpath/warmpathdraw.Codes).Next -/
def sg11 : TSig := { nargs := 2, pin := ⟨[(0, (.one (.box 50000 0))), (1, (.one (.p true false (.int .i64))))], [(50000, (.box [(.p false true (.sl (.int .u8))), (.p false true (.int .i64))]))]⟩, pout := ⟨[(0, (.one (.p false false (.int .i64))))], [(50000, (.box [(.p false true (.sl (.int .u8))), (.p false false (.int .i64))]))]⟩, nres := 1, ios := [50000], news := [] }
def an11 : Ann := (.seq .nil (.seq (.seq (.meet false ⟨[(0, .keep), (1, .keep), (19, .sl (.one (.p false false .bool)))], [(50000, .keep)]⟩ .nil) (.seq .nil .nil)) (.seq .nil (.seq .nil (.seq (.seq .nil (.seq .nil .nil)) .nil)))))
--FN 11 50 [.tmp 4] callees [] self true
/-- warmpath/warmpathref17.New -/
def sg14 : TSig := { nargs := 1, pin := ⟨[(0, (.one (.p true false (.int .i64))))], []⟩, pout := ⟨[(0, (.agg [(.own 60000)]))], [(60000, (.arr false false false (.sl (.int .i64))))]⟩, nres := 1, ios := [], news := [60000] }
def an14 : Ann := (.seq .nil (.seq (.seq (.meet false ⟨[(0, .keep), (2, .keep), (8, .sl (.one (.p false false .bool)))], [(2, .keep)]⟩ .nil) (.seq .nil .nil)) .nil))
--FN 14 13 [.cell 2 28] callees [] self false
/-- warmpath/warmpathref01.Ints -/
def sg15 : TSig := { nargs := 2, pin := ⟨[(0, (.one (.p true false (.sl (.int .i64))))), (1, (.one (.p true false (.sl (.int .i64)))))], []⟩, pout := ⟨[(0, (.one (.p false false .bool)))], []⟩, nres := 1, ios := [], news := [] }
def an15 : Ann := (.seq .nil (.seq (.seq .nil (.seq .nil .nil)) (.seq (.seq .nil (.meet true ⟨[], []⟩ (.loop ⟨[(0, .keep), (1, .keep), (5, .sl (.one (.p false false (.int .i64))))], []⟩ (.seq (.seq .nil .nil) (.seq (.seq (.seq .nil (.seq .nil .nil)) .nil) .nil))))) .nil)))
--FN 15 26 [.tmp 4] callees [] self false
/-- warmpath/cache.Touched -/
def sg16 : TSig := { nargs := 2, pin := ⟨[(0, (.one (.p true false (.int .i64)))), (1, (.agg [(.p true false (.int .i64)), (.p true false (.int .i64)), (.p true false (.int .i64))]))], []⟩, pout := ⟨[(0, (.one (.own 60000)))], [(60000, (.arr false false false (.int .i64)))]⟩, nres := 1, ios := [], news := [60000] }
def an16 : Ann := (.seq .nil (.seq (.seq (.meet false ⟨[(0, .keep), (3, .keep), (32, .sl (.one (.p false false .bool)))], [(3, .keep)]⟩ .nil) (.seq .nil .nil)) (.seq .nil (.seq (.seq .nil (.meet false ⟨[(5, .sl (.one (.own 101001)))], [(101001, .ob (.arr false false false (.int .i64)))]⟩ (.loop ⟨[(0, .keep), (3, .keep), (5, .sl (.one (.own 101001))), (6, .sl (.one (.p false false (.int .i64))))], [(3, .keep), (101001, .ob (.arr false false false (.int .i64)))]⟩ (.seq (.seq .nil .nil) (.seq .nil .nil))))) .nil))))
--FN 16 54 [.tmp 4] callees [] self false
/-- (*warmpath/warmpathdraw.Codes).Trace -/
def sg19 : TSig := { nargs := 2, pin := ⟨[(0, (.one (.box 50000 0))), (1, (.one (.p true false (.int .i64))))], [(50000, (.box [(.p false true (.sl (.int .u8))), (.p false true (.int .i64))]))]⟩, pout := ⟨[(0, (.one (.own 100001)))], [(50000, (.box [(.p false true (.sl (.int .u8))), (.p false false (.int .i64))])), (100001, (.arr false false false (.st 4)))]⟩, nres := 1, ios := [50000], news := [100001] }
def an19 : Ann := (.seq .nil (.seq .nil (.seq (.seq .nil (.meet false ⟨[(5, .sl (.one (.own 100001)))], [(50000, .ob (.box [(.p false true (.sl (.int .u8))), (.p false false (.int .i64))])), (100001, .ob (.arr false false false (.st 4)))]⟩ (.loop ⟨[(0, .keep), (5, .sl (.one (.own 100001))), (6, .sl (.one (.p false false (.int .i64))))], [(50000, .ob (.box [(.p false true (.sl (.int .u8))), (.p false false (.int .i64))])), (100001, .ob (.arr false false false (.st 4)))]⟩ (.seq (.seq .nil .nil) (.seq .nil .nil))))) .nil)))
--FN 19 27 [.tmp 4] callees [11] self false
/-- (*warmpath/warmpathdraw.Codes).Model -/
def sg21 : TSig := { nargs := 1, pin := ⟨[(0, (.one (.box 50000 0)))], [(50000, (.box [(.p false true (.sl (.int .u8))), (.p false true (.int .i64))]))]⟩, pout := ⟨[(0, (.agg [(.p false false (.int .i64)), (.p false false (.int .i64)), (.p false false (.int .i64)), (.p false false (.int .i64)), (.p false false (.int .i64)), (.p false false (.int .i64)), (.p false false (.int .i64)), (.p false false (.int .i64)), (.p false false (.int .i64)), (.p false false (.int .i64)), (.p false false (.int .i64)), (.p false false (.int .i64))]))], [(50000, (.box [(.p false true (.sl (.int .u8))), (.p false false (.int .i64))]))]⟩, nres := 1, ios := [50000], news := [] }
def an21 : Ann := (.seq .nil (.seq .nil (.seq (.seq .nil (.meet false ⟨[(0, .keep), (2, .keep), (3, .keep)], [(50000, .ob (.box [(.p false true (.sl (.int .u8))), (.p false false (.int .i64))])), (2, .keep), (3, .ob (.box [(.p false false (.int .i64)), (.p false false (.int .i64)), (.p false false (.int .i64)), (.p false false (.int .i64)), (.p false false (.int .i64)), (.p false false (.int .i64)), (.p false false (.int .i64)), (.p false false (.int .i64)), (.p false false (.int .i64)), (.p false false (.int .i64)), (.p false false (.int .i64)), (.p false false (.int .i64))]))]⟩ .nil)) (.seq (.seq .nil (.meet false ⟨[(0, .keep), (2, .keep), (3, .keep)], [(50000, .ob (.box [(.p false true (.sl (.int .u8))), (.p false false (.int .i64))])), (2, .keep), (3, .ob (.box [(.p false false (.int .i64)), (.p false false (.int .i64)), (.p false false (.int .i64)), (.p false false (.int .i64)), (.p false false (.int .i64)), (.p false false (.int .i64)), (.p false false (.int .i64)), (.p false false (.int .i64)), (.p false false (.int .i64)), (.p false false (.int .i64)), (.p false false (.int .i64)), (.p false false (.int .i64))]))]⟩ .nil)) (.seq (.seq .nil (.meet false ⟨[(2, .keep), (3, .keep)], [(50000, .ob (.box [(.p false true (.sl (.int .u8))), (.p false false (.int .i64))])), (2, .keep), (3, .ob (.box [(.p false false (.int .i64)), (.p false false (.int .i64)), (.p false false (.int .i64)), (.p false false (.int .i64)), (.p false false (.int .i64)), (.p false false (.int .i64)), (.p false false (.int .i64)), (.p false false (.int .i64)), (.p false false (.int .i64)), (.p false false (.int .i64)), (.p false false (.int .i64)), (.p false false (.int .i64))]))]⟩ .nil)) .nil)))))
--FN 21 56 [.cell 2 43] callees [11] self false
/-- slices.Clone[[]int,int] -/
def sg26 : TSig := { nargs := 1, pin := ⟨[(0, (.one (.p true false (.sl (.int .i64)))))], []⟩, pout := ⟨[(0, (.one (.own 60000)))], [(60000, (.arr false true false (.int .i64)))]⟩, nres := 1, ios := [], news := [60000] }
def an26 : Ann := (.seq .nil (.seq (.seq .nil (.seq .nil .nil)) .nil))
--FN 26 8 [.tmp 2] callees [] self false
/-- warmpath/warmpathref17.Parts -/
def sg28 : TSig := { nargs := 2, pin := ⟨[(0, (.one (.p true false (.int .i64)))), (1, (.agg [(.p true false (.int .i64)), (.p true false (.int .i64)), (.p true false (.int .i64))]))], []⟩, pout := ⟨[(0, (.one (.own 60000)))], [(60000, (.arr false false false (.int .i64)))]⟩, nres := 1, ios := [], news := [60000] }
def an28 : Ann := (.seq .nil (.seq .nil (.seq (.seq (.meet false ⟨[(0, .keep), (3, .keep), (5, .keep), (24, .sl (.one (.p false false .bool)))], [(3, .keep)]⟩ .nil) (.seq .nil .nil)) (.seq (.seq .nil (.meet false ⟨[(5, .sl (.one (.own 101001)))], [(101001, .ob (.arr false false false (.int .i64)))]⟩ (.loop ⟨[(0, .keep), (3, .keep), (5, .sl (.one (.own 101001))), (6, .sl (.one (.p false false (.int .i64))))], [(3, .keep), (101001, .ob (.arr false false false (.int .i64)))]⟩ (.seq (.seq .nil .nil) (.seq .nil .nil))))) .nil))))
--FN 28 46 [.tmp 4] callees [] self false
/-- warmpath/warmpathref17.First -/
def sg29 : TSig := { nargs := 3, pin := ⟨[(0, (.one (.p true false (.sl (.int .i64))))), (1, (.one (.p true false (.int .i64)))), (2, (.one (.p true false (.int .i64))))], []⟩, pout := ⟨[(0, (.one (.p true false (.sl (.int .i64))))), (1, (.one (.p false false .bool)))], []⟩, nres := 2, ios := [], news := [] }
def an29 : Ann := (.seq .nil (.seq .nil (.seq .nil (.seq (.seq .nil (.meet false ⟨[(2, .keep), (8, .sl (.one (.own 100000))), (9, .sl (.one (.p false false .bool)))], [(100000, .ob (.arr false true false (.int .i64)))]⟩ (.loop ⟨[(0, .keep), (1, .keep), (2, .keep), (8, .sl (.one (.own 100000))), (9, .sl (.one (.p false false .bool))), (10, .sl (.one (.p false false (.int .i64))))], [(100000, .ob (.arr false true false (.int .i64)))]⟩ (.seq (.seq .nil .nil) (.seq (.seq (.seq .nil (.meet false ⟨[(0, .keep), (1, .keep), (2, .keep), (8, .sl (.one (.own 101000))), (9, .sl (.one (.p false false .bool))), (10, .keep)], [(101000, .ob (.arr false true false (.int .i64)))]⟩ .nil)) .nil) .nil))))) (.seq (.seq .nil (.meet false ⟨[(8, .sl (.one (.p true false (.sl (.int .i64))))), (9, .keep)], []⟩ .nil)) .nil)))))
--FN 29 41 [.tmp 6, .tmp 7] callees [] self false
/-- warmpath/warmpathref17.Total -/
def sg30 : TSig := { nargs := 1, pin := ⟨[(0, (.one (.p true false (.sl (.int .i64)))))], []⟩, pout := ⟨[(0, (.one (.p false false (.int .i64))))], []⟩, nres := 1, ios := [], news := [] }
def an30 : Ann := (.seq .nil (.seq .nil (.seq (.seq .nil (.meet false ⟨[(3, .sl (.one (.p false false (.int .i64))))], []⟩ (.loop ⟨[(0, .keep), (3, .sl (.one (.p false false (.int .i64)))), (4, .sl (.one (.p false false (.int .i64))))], []⟩ (.seq (.seq .nil .nil) (.seq .nil .nil))))) .nil)))
--FN 30 18 [.tmp 2] callees [] self false
/-- slices.Index[[]int,int] -/
def sg31 : TSig := { nargs := 2, pin := ⟨[(0, (.one (.p true false (.sl (.int .i64))))), (1, (.one (.p true false (.int .i64))))], []⟩, pout := ⟨[(0, (.one (.p false false (.int .i64))))], []⟩, nres := 1, ios := [], news := [] }
def an31 : Ann := (.seq .nil (.seq (.seq .nil (.meet true ⟨[], []⟩ (.loop ⟨[(0, .keep), (1, .keep), (7, .keep), (8, .sl (.one (.p false false (.int .i64))))], []⟩ (.seq .nil (.seq .nil (.seq (.seq (.seq .nil (.seq .nil (.seq .nil .nil))) .nil) .nil)))))) .nil))
--FN 31 19 [.tmp 4] callees [] self false
/-- slices.Delete[[]int,int] -/
def sg32 : TSig := sgDel
--HAND 32 Del
/-- warmpath/warmpathref17.Same -/
def sg13 : TSig := { nargs := 2, pin := ⟨[(0, (.agg [(.p true false (.sl (.sl (.int .i64))))])), (1, (.agg [(.p true false (.sl (.sl (.int .i64))))]))], []⟩, pout := ⟨[(0, (.one (.p false false .bool)))], []⟩, nres := 1, ios := [], news := [] }
def an13 : Ann := (.seq .nil (.seq (.seq .nil (.seq .nil .nil)) (.seq (.seq .nil (.meet true ⟨[], []⟩ (.loop ⟨[(2, .keep), (3, .keep), (5, .sl (.one (.p false false (.int .i64))))], [(2, .keep), (3, .keep)]⟩ (.seq (.seq .nil .nil) (.seq (.seq (.seq .nil (.seq .nil .nil)) .nil) .nil))))) .nil)))
--FN 13 32 [.tmp 4] callees [15] self false
/-- warmpath/warmpathref17.Touched -/
def sg17 : TSig := { nargs := 2, pin := ⟨[(0, (.one (.p true false (.int .i64)))), (1, (.agg [(.p true false (.int .i64)), (.p true false (.int .i64)), (.p true false (.int .i64))]))], []⟩, pout := ⟨[(0, (.one (.own 60000)))], [(60000, (.arr false false false (.int .i64)))]⟩, nres := 1, ios := [], news := [60000] }
def an17 : Ann := (.seq .nil (.seq (.seq (.meet false ⟨[(0, .keep), (3, .keep), (10, .sl (.one (.p false false .bool)))], [(3, .keep)]⟩ .nil) (.seq .nil .nil)) .nil))
--FN 17 14 [.tmp 4] callees [28] self false
/-- warmpath/warmpathref17.Access -/
def sg18 : TSig := { nargs := 3, pin := ⟨[(0, (.agg [(.p true false (.sl (.sl (.int .i64))))])), (1, (.one (.p true false (.int .i64)))), (2, (.one (.p true false (.int .i64))))], []⟩, pout := ⟨[(0, (.agg [(.own 100003)])), (1, (.one (.p false false .bool)))], [(100003, (.arr false true false (.sl (.int .i64))))]⟩, nres := 2, ios := [], news := [100003] }
def an18 : Ann := (.seq .nil (.seq .nil (.seq (.seq .nil (.meet false ⟨[(1, .keep), (2, .keep), (3, .keep), (6, .keep), (8, .keep)], [(3, .keep), (6, .keep), (8, .ob (.box [(.own 100003)])), (100003, .ob (.arr false true false (.sl (.int .i64))))]⟩ (.loop ⟨[(1, .keep), (2, .keep), (3, .keep), (6, .keep), (8, .keep), (9, .sl (.one (.p false false (.int .i64))))], [(3, .keep), (6, .keep), (8, .ob (.box [(.own 100003)])), (100003, .ob (.arr false true false (.sl (.int .i64))))]⟩ (.seq (.seq .nil .nil) (.seq .nil .nil))))) (.seq .nil (.seq .nil (.seq .nil .nil))))))
--FN 18 52 [.cell 6 28, .tmp 7] callees [29] self false
/-- warmpath/warmpathlaw17.model -/
def sg20 : TSig := { nargs := 1, pin := ⟨[(0, (.one (.box 50000 0)))], [(50000, (.box [(.p false true (.sl (.int .u8))), (.p false true (.int .i64))]))]⟩, pout := ⟨[(0, (.agg [(.p false false (.int .i64)), (.p false false (.int .i64)), (.p false false (.int .i64)), (.p false false (.int .i64)), (.p false false (.int .i64)), (.p false false (.int .i64)), (.p false false (.int .i64)), (.p false false (.int .i64)), (.p false false (.int .i64)), (.p false false (.int .i64)), (.p false false (.int .i64)), (.p false false (.int .i64))]))], [(50000, (.box [(.p false true (.sl (.int .u8))), (.p false false (.int .i64))]))]⟩, nres := 1, ios := [50000], news := [] }
def an20 : Ann := (.seq .nil (.seq .nil (.seq .nil .nil)))
--FN 20 21 [.cell 2 43] callees [21, 11] self false
/-- warmpath/warmpathref17.Each -/
def sg25 : TSig := { nargs := 2, pin := ⟨[(0, (.agg [(.p true false (.int .i64)), (.p true false (.int .i64)), (.p true false (.int .i64)), (.p true false (.int .i64)), (.p true false (.int .i64)), (.p true false (.int .i64)), (.p true false (.int .i64)), (.p true false (.int .i64)), (.p true false (.int .i64)), (.p true false (.int .i64)), (.p true false (.int .i64)), (.p true false (.int .i64))])), (1, (.one (.p true false (.sl (.st 4)))))], []⟩, pout := ⟨[(0, (.one (.own 14)))], [(14, (.arr false false false (.int .i64)))]⟩, nres := 1, ios := [], news := [14] }
def an25 : Ann := (.seq .nil (.seq .nil (.seq (.seq .nil (.seq .nil .nil)) (.seq .nil (.seq (.seq .nil (.meet false ⟨[(5, .keep)], [(14, .ob (.arr false false false (.int .i64)))]⟩ (.loop ⟨[(1, .keep), (2, .keep), (5, .keep), (6, .keep), (7, .sl (.one (.p false false (.int .i64))))], [(2, .keep), (14, .ob (.arr false false false (.int .i64))), (6, .keep), (21, .ob (.arr false true false (.sl (.int .i64))))]⟩ (.seq (.seq .nil .nil) (.seq (.seq (.seq .nil (.seq .nil (.meet false ⟨[(1, .keep), (2, .keep), (5, .keep), (6, .keep), (7, .keep)], [(2, .keep), (14, .ob (.arr false false false (.int .i64))), (6, .keep), (21, .ob (.arr false true false (.sl (.int .i64))))]⟩ (.loop ⟨[(1, .keep), (2, .keep), (5, .keep), (6, .keep), (7, .keep), (8, .keep), (9, .sl (.one (.p false false (.int .i64))))], [(2, .keep), (14, .ob (.arr false false false (.int .i64))), (6, .keep), (34, .keep), (21, .ob (.arr false true false (.sl (.int .i64))))]⟩ (.seq (.seq .nil .nil) (.seq (.seq (.seq .nil (.seq .nil (.seq .nil (.seq .nil (.meet false ⟨[(1, .keep), (2, .keep), (5, .keep), (6, .keep), (7, .keep), (8, .keep), (9, .keep)], [(2, .keep), (14, .ob (.arr false false false (.int .i64))), (6, .keep), (34, .keep), (21, .keep)]⟩ .nil))))) .nil) .nil)))))) .nil) .nil))))) .nil)))))
--FN 25 76 [.tmp 4] callees [14, 17, 29] self false
/-- warmpath/warmpathref17.Misses -/
def sg23 : TSig := { nargs := 2, pin := ⟨[(0, (.agg [(.p true false (.int .i64)), (.p true false (.int .i64)), (.p true false (.int .i64)), (.p true false (.int .i64)), (.p true false (.int .i64)), (.p true false (.int .i64)), (.p true false (.int .i64)), (.p true false (.int .i64)), (.p true false (.int .i64)), (.p true false (.int .i64)), (.p true false (.int .i64)), (.p true false (.int .i64))])), (1, (.one (.p true false (.sl (.st 4)))))], []⟩, pout := ⟨[(0, (.one (.p false false (.int .i64))))], []⟩, nres := 1, ios := [], news := [] }
def an23 : Ann := (.seq .nil .nil)
--FN 23 9 [.tmp 4] callees [25, 30] self false
/-- slices.Insert[[]int,int] -/
def sg33 : TSig := sgIns
--HAND 33 Ins
/-- warmpath/cache.use -/
def sg27 : TSig := { nargs := 3, pin := ⟨[(0, (.one (.p true false (.sl (.int .i64))))), (1, (.one (.p true false (.int .i64)))), (2, (.one (.p true false (.int .i64))))], []⟩, pout := ⟨[(0, (.one (.p true false (.sl (.int .i64))))), (1, (.one (.p false false .bool)))], []⟩, nres := 2, ios := [], news := [] }
def an27 : Ann := (.seq .nil (.seq .nil (.seq .nil (.seq (.seq .nil (.meet false ⟨[(1, .keep), (2, .keep), (8, .keep), (9, .sl (.one (.own 100000)))], [(100000, .ob (.arr false true false (.int .i64)))]⟩ .nil)) (.seq .nil .nil)))))
--FN 27 34 [.tmp 6, .tmp 7] callees [31, 26, 32, 33] self false
/-- warmpath/cache.Access -/
def sg12 : TSig := { nargs := 3, pin := ⟨[(0, (.agg [(.p true false (.sl (.sl (.int .i64))))])), (1, (.one (.p true false (.int .i64)))), (2, (.one (.p true false (.int .i64))))], []⟩, pout := ⟨[(0, (.agg [(.own 100003)])), (1, (.one (.p false false .bool)))], [(100003, (.arr false true false (.sl (.int .i64))))]⟩, nres := 2, ios := [], news := [100003] }
def an12 : Ann := (.seq .nil (.seq .nil (.seq (.seq .nil (.meet false ⟨[(1, .keep), (2, .keep), (3, .keep), (6, .keep), (8, .keep)], [(3, .keep), (6, .keep), (8, .ob (.box [(.own 100003)])), (100003, .ob (.arr false true false (.sl (.int .i64))))]⟩ (.loop ⟨[(1, .keep), (2, .keep), (3, .keep), (6, .keep), (8, .keep), (16, .keep), (17, .keep), (18, .sl (.one (.p false false (.int .i64))))], [(3, .keep), (6, .keep), (8, .ob (.box [(.own 100003)])), (100003, .ob (.arr false true false (.sl (.int .i64))))]⟩ (.seq .nil (.seq .nil (.seq (.seq .nil .nil) .nil)))))) (.seq .nil (.seq .nil (.seq .nil .nil))))))
--FN 12 53 [.cell 6 28, .tmp 7] callees [26, 27] self false
/-- warmpath/cache.Each -/
def sg24 : TSig := { nargs := 2, pin := ⟨[(0, (.agg [(.p true false (.int .i64)), (.p true false (.int .i64)), (.p true false (.int .i64)), (.p true false (.int .i64)), (.p true false (.int .i64)), (.p true false (.int .i64)), (.p true false (.int .i64)), (.p true false (.int .i64)), (.p true false (.int .i64)), (.p true false (.int .i64)), (.p true false (.int .i64)), (.p true false (.int .i64))])), (1, (.one (.p true false (.sl (.st 4)))))], []⟩, pout := ⟨[(0, (.one (.own 100002)))], [(100002, (.arr false false false (.int .i64)))]⟩, nres := 1, ios := [], news := [100002] }
def an24 : Ann := (.seq .nil (.seq .nil (.seq .nil (.seq (.seq .nil (.meet false ⟨[(6, .sl (.one (.own 100002)))], [(100002, .ob (.arr false false false (.int .i64)))]⟩ (.loop ⟨[(2, .keep), (5, .keep), (6, .sl (.one (.own 100002))), (19, .keep), (20, .keep), (21, .sl (.one (.p false false (.int .i64))))], [(2, .keep), (17, .ob (.arr false true false (.sl (.int .i64)))), (100002, .ob (.arr false false false (.int .i64)))]⟩ (.seq .nil (.seq .nil (.seq (.seq (.seq .nil (.seq .nil (.seq (.seq .nil (.meet false ⟨[(2, .keep), (5, .keep), (6, .keep), (9, .sl (.one (.p false false (.int .i64)))), (19, .keep), (20, .keep), (21, .keep)], [(2, .keep), (17, .ob (.arr false true false (.sl (.int .i64)))), (100002, .keep)]⟩ (.seq (.seq .nil (.meet false ⟨[(2, .keep), (5, .keep), (6, .keep), (9, .sl (.one (.p false false (.int .i64)))), (19, .keep), (20, .keep), (21, .keep)], [(2, .keep), (17, .ob (.arr false true false (.sl (.int .i64)))), (100002, .keep)]⟩ (.loop ⟨[(2, .keep), (5, .keep), (6, .keep), (9, .sl (.one (.p false false (.int .i64)))), (19, .keep), (20, .keep), (21, .keep), (31, .keep), (32, .keep), (33, .sl (.one (.p false false (.int .i64))))], [(2, .keep), (17, .ob (.arr false true false (.sl (.int .i64)))), (100002, .keep), (31, .keep)]⟩ (.seq .nil (.seq .nil (.seq (.seq (.seq .nil (.seq .nil (.seq .nil (.seq .nil (.seq .nil (.meet false ⟨[(2, .keep), (5, .keep), (6, .keep), (9, .sl (.one (.p false false (.int .i64)))), (19, .keep), (20, .keep), (21, .keep), (31, .keep), (32, .keep), (33, .keep)], [(2, .keep), (17, .keep), (100002, .keep), (31, .keep)]⟩ .nil)))))) .nil) .nil)))))) .nil))) .nil))) .nil) .nil)))))) .nil))))
--FN 24 67 [.tmp 4] callees [10, 16, 27] self false
/-- warmpath/warmpathlaw17.awake -/
def sg8 : TSig := { nargs := 0, pin := ⟨[], []⟩, pout := ⟨[(0, (.one (.p false false .bool)))], []⟩, nres := 1, ios := [], news := [] }
def an8 : Ann := (.seq .nil (.seq .nil (.seq .nil (.seq (.seq .nil (.meet true ⟨[(2, .sl (.one (.p false false (.int .i64))))], []⟩ (.loop ⟨[(1, .keep), (2, .sl (.one (.p false false (.int .i64)))), (7, .keep), (8, .keep), (9, .sl (.one (.p false false (.int .i64))))], [(1, .ob (.box [(.own 100002)])), (7, .keep), (100002, .ob (.arr false false false (.sl (.int .i64))))]⟩ (.seq .nil (.seq .nil (.seq (.seq (.seq .nil (.seq .nil (.seq (.seq .nil (.seq .nil .nil)) (.seq .nil (.seq .nil (.meet false ⟨[(1, .keep), (2, .sl (.one (.p false false (.int .i64)))), (7, .keep), (8, .keep), (9, .keep)], [(1, .keep), (7, .keep), (20, .keep)]⟩ .nil)))))) .nil) .nil)))))) .nil))))
--FN 8 30 [.tmp 0] callees [10, 12] self false
/-- warmpath/cache.Misses -/
def sg22 : TSig := { nargs := 2, pin := ⟨[(0, (.agg [(.p true false (.int .i64)), (.p true false (.int .i64)), (.p true false (.int .i64)), (.p true false (.int .i64)), (.p true false (.int .i64)), (.p true false (.int .i64)), (.p true false (.int .i64)), (.p true false (.int .i64)), (.p true false (.int .i64)), (.p true false (.int .i64)), (.p true false (.int .i64)), (.p true false (.int .i64))])), (1, (.one (.p true false (.sl (.st 4)))))], []⟩, pout := ⟨[(0, (.one (.p false false (.int .i64))))], []⟩, nres := 1, ios := [], news := [] }
def an22 : Ann := (.seq .nil (.seq .nil (.seq (.seq .nil (.meet false ⟨[(5, .sl (.one (.p false false (.int .i64))))], []⟩ (.loop ⟨[(5, .sl (.one (.p false false (.int .i64)))), (10, .keep), (11, .keep), (12, .sl (.one (.p false false (.int .i64))))], [(10, .keep)]⟩ (.seq .nil (.seq .nil (.seq (.seq .nil .nil) .nil)))))) .nil)))
--FN 22 21 [.tmp 4] callees [24] self false
/-- warmpath/warmpathlaw17.CacheRecent -/
def sg3 : TSig := { nargs := 1, pin := ⟨[(0, (.one (.p true false (.sl (.int .u8)))))], []⟩, pout := ⟨[(0, (.one (.p false false .bool)))], []⟩, nres := 1, ios := [], news := [] }
def an3 : Ann := (.seq .nil (.seq (.seq .nil (.seq .nil .nil)) (.seq .nil (.seq .nil (.seq .nil (.seq (.seq .nil (.meet true ⟨[], []⟩ (.loop ⟨[(3, .keep), (4, .keep), (5, .keep), (6, .sl (.one (.p false false (.int .i64))))], [(17, .ob (.box [(.p true false (.sl (.int .u8))), (.p false false (.int .i64))])), (4, .ob (.box [(.p false false (.sl (.sl (.int .i64))))]))]⟩ (.seq (.seq .nil .nil) (.seq (.seq (.seq .nil (.seq (.seq .nil (.seq .nil .nil)) (.seq .nil (.seq .nil (.seq (.seq .nil (.seq .nil .nil)) (.seq .nil (.meet true ⟨[(3, .keep), (4, .keep), (5, .keep), (6, .keep)], [(17, .keep), (4, .keep), (41, .keep)]⟩ (.loop ⟨[(3, .keep), (4, .keep), (5, .keep), (6, .keep), (10, .sl (.one (.p false false (.int .i64))))], [(17, .keep), (4, .keep), (41, .keep)]⟩ (.seq (.seq .nil .nil) (.seq (.seq (.seq .nil (.seq (.seq .nil (.meet true ⟨[(3, .keep), (4, .keep), (5, .keep), (6, .keep), (10, .keep), (11, .keep)], [(17, .keep), (4, .keep), (41, .keep)]⟩ (.loop ⟨[(3, .keep), (4, .keep), (5, .keep), (6, .keep), (10, .keep), (11, .keep), (12, .sl (.one (.p false false (.int .i64))))], [(17, .keep), (4, .keep), (41, .keep)]⟩ (.seq (.seq .nil .nil) (.seq (.seq (.seq (.seq .nil (.seq .nil .nil)) (.seq .nil (.meet true ⟨[(3, .keep), (4, .keep), (5, .keep), (6, .keep), (10, .keep), (11, .keep), (12, .keep)], [(17, .keep), (4, .keep), (41, .keep)]⟩ (.loop ⟨[(3, .keep), (4, .keep), (5, .keep), (6, .keep), (10, .keep), (11, .keep), (12, .keep), (13, .sl (.one (.p false false (.int .i64))))], [(17, .keep), (4, .keep), (41, .keep)]⟩ (.seq (.seq .nil .nil) (.seq (.seq (.seq .nil (.seq .nil .nil)) .nil) .nil)))))) .nil) .nil))))) (.seq .nil (.seq .nil .nil)))) .nil) .nil)))))))))) .nil) .nil))))) .nil))))))
--FN 3 99 [.tmp 2] callees [8, 9, 11, 10, 12] self false
/-- warmpath/warmpathlaw17.CacheExact -/
def sg4 : TSig := { nargs := 4, pin := ⟨[(0, (.one (.p true false (.sl (.int .u8))))), (1, (.one (.p true false (.int .i64)))), (2, (.one (.p true false (.int .i64)))), (3, (.agg [(.p true false (.int .i64)), (.p true false (.int .i64)), (.p true false (.int .i64))]))], []⟩, pout := ⟨[(0, (.one (.p false false .bool)))], []⟩, nres := 1, ios := [], news := [] }
def an4 : Ann := (.seq .nil (.seq (.seq .nil (.seq .nil .nil)) (.seq .nil (.seq (.seq (.meet false ⟨[(9, .keep), (46, .sl (.one (.p false false .bool)))], [(25, .keep)]⟩ .nil) (.seq .nil .nil)) (.seq .nil (.seq .nil (.seq (.seq .nil (.meet true ⟨[(9, .keep)], [(25, .ob (.box [(.p true false (.sl (.int .u8))), (.p false false (.int .i64))]))]⟩ (.loop ⟨[(9, .keep), (10, .keep), (11, .keep), (12, .sl (.one (.p false false (.int .i64))))], [(25, .ob (.box [(.p true false (.sl (.int .u8))), (.p false false (.int .i64))])), (10, .ob (.box [(.own 101002)])), (101002, .ob (.arr false false false (.sl (.int .i64))))]⟩ (.seq (.seq .nil .nil) (.seq (.seq (.seq .nil (.seq .nil (.seq .nil (.seq (.seq (.meet false ⟨[(9, .keep), (10, .keep), (11, .keep), (12, .keep), (16, .keep), (84, .sl (.one (.p false false .bool)))], [(25, .keep), (10, .keep), (16, .keep), (101002, .keep), (73, .keep)]⟩ .nil) (.seq .nil .nil)) .nil)))) .nil) .nil))))) (.seq .nil (.seq (.seq .nil (.meet true ⟨[], []⟩ (.loop ⟨[(18, .keep), (92, .keep), (93, .keep), (94, .sl (.one (.p false false (.int .i64))))], [(87, .keep), (92, .keep)]⟩ (.seq .nil (.seq .nil (.seq (.seq (.seq .nil (.seq (.seq (.meet false ⟨[(18, .keep), (20, .keep), (92, .keep), (93, .keep), (94, .keep), (114, .sl (.one (.p false false .bool)))], [(87, .keep), (20, .keep), (92, .keep)]⟩ .nil) (.seq .nil .nil)) (.seq .nil (.meet true ⟨[(18, .keep), (92, .keep), (93, .keep), (94, .keep)], [(87, .keep), (92, .keep)]⟩ (.loop ⟨[(18, .keep), (20, .keep), (21, .sl (.one (.p false false (.int .i64)))), (92, .keep), (93, .keep), (94, .keep)], [(87, .keep), (20, .keep), (92, .keep)]⟩ (.seq (.seq .nil .nil) (.seq (.seq (.seq .nil (.seq .nil .nil)) .nil) .nil))))))) .nil) .nil)))))) .nil)))))))))
--FN 4 138 [.tmp 8] callees [8, 9, 10, 14, 13, 16, 17, 15, 11, 12, 18, 19, 20, 21, 22, 23, 24, 25] self false
/-- warmpath/warmpathlaw17.CacheWays -/
def sg5 : TSig := { nargs := 2, pin := ⟨[(0, (.one (.p true false (.sl (.int .u8))))), (1, (.one (.p true false (.int .u8))))], []⟩, pout := ⟨[(0, (.one (.p false false .bool)))], []⟩, nres := 1, ios := [], news := [] }
def an5 : Ann := (.seq .nil (.seq (.seq .nil (.seq .nil .nil)) (.seq .nil (.seq .nil (.seq .nil (.seq .nil (.seq .nil (.seq .nil (.seq (.seq .nil (.meet true ⟨[(6, .keep), (7, .keep), (8, .keep)], [(6, .keep), (19, .keep), (8, .keep)]⟩ (.loop ⟨[(6, .keep), (7, .keep), (8, .keep), (9, .keep), (10, .keep), (11, .sl (.one (.p false false (.int .i64))))], [(6, .keep), (19, .keep), (8, .keep), (31, .keep), (34, .keep)]⟩ (.seq (.seq .nil .nil) (.seq (.seq (.seq (.meet false ⟨[(6, .keep), (7, .keep), (8, .keep), (9, .keep), (10, .keep), (11, .keep), (61, .sl (.one (.p false false .bool)))], [(6, .keep), (19, .keep), (8, .keep), (31, .keep), (34, .keep)]⟩ .nil) (.seq .nil .nil)) .nil) .nil))))) .nil)))))))))
--FN 5 69 [.tmp 4] callees [8, 9, 20, 19, 24, 22] self false
/-- warmpath/warmpathlaw17.CacheEnough -/
def sg6 : TSig := { nargs := 1, pin := ⟨[(0, (.one (.p true false (.sl (.int .u8)))))], []⟩, pout := ⟨[(0, (.one (.p false false .bool)))], []⟩, nres := 1, ios := [], news := [] }
def an6 : Ann := (.seq .nil (.seq (.seq .nil (.seq .nil .nil)) (.seq .nil (.seq .nil (.seq .nil (.seq .nil (.seq .nil (.seq .nil (.seq (.seq .nil (.meet true ⟨[(4, .keep), (5, .keep), (7, .sl (.one (.p false false (.int .i64))))], [(4, .keep), (20, .keep)]⟩ (.loop ⟨[(4, .keep), (5, .keep), (6, .keep), (7, .sl (.one (.p false false (.int .i64)))), (8, .sl (.one (.p false false (.int .i64))))], [(4, .keep), (20, .keep), (21, .ob (.arr false false false .bool))]⟩ (.seq (.seq .nil .nil) (.seq (.seq (.seq .nil (.seq .nil (.meet true ⟨[(4, .keep), (5, .keep), (6, .keep), (7, .sl (.one (.p false false (.int .i64)))), (8, .keep)], [(4, .keep), (20, .keep), (21, .ob (.arr false false false .bool))]⟩ (.loop ⟨[(4, .keep), (5, .keep), (6, .keep), (7, .sl (.one (.p false false (.int .i64)))), (8, .keep), (9, .keep), (10, .sl (.one (.p false false (.int .i64))))], [(4, .keep), (20, .keep), (21, .ob (.arr false false false .bool)), (34, .keep)]⟩ (.seq (.seq .nil .nil) (.seq (.seq (.seq (.seq (.meet false ⟨[(4, .keep), (5, .keep), (6, .keep), (7, .keep), (8, .keep), (9, .keep), (10, .keep), (54, .sl (.one (.p false false .bool)))], [(4, .keep), (20, .keep), (21, .keep), (34, .keep)]⟩ .nil) (.seq .nil .nil)) (.seq .nil (.meet false ⟨[(4, .keep), (5, .keep), (6, .keep), (7, .sl (.one (.p false false (.int .i64)))), (8, .keep), (9, .keep), (10, .keep)], [(4, .keep), (20, .keep), (21, .ob (.arr false false false .bool)), (34, .keep)]⟩ (.seq .nil .nil)))) .nil) .nil)))))) .nil) .nil))))) (.seq .nil (.seq .nil (.seq (.meet false ⟨[(2, .sl (.one (.p false false .bool)))], []⟩ .nil) .nil))))))))))))
--FN 6 85 [.tmp 2] callees [8, 9, 20, 19, 16, 22] self false
/-- warmpath/warmpathlaw17.CacheSets -/
def sg7 : TSig := { nargs := 1, pin := ⟨[(0, (.one (.p true false (.sl (.int .u8)))))], []⟩, pout := ⟨[(0, (.one (.p false false .bool)))], []⟩, nres := 1, ios := [], news := [] }
def an7 : Ann := (.seq .nil (.seq (.seq .nil (.seq .nil .nil)) (.seq .nil (.seq .nil (.seq .nil (.seq .nil (.seq (.seq .nil (.meet true ⟨[(4, .keep), (5, .keep), (6, .sl (.one (.p false false (.int .i64))))], [(4, .keep), (20, .keep)]⟩ (.loop ⟨[(4, .keep), (5, .keep), (6, .sl (.one (.p false false (.int .i64)))), (7, .sl (.one (.p false false (.int .i64))))], [(4, .keep), (20, .keep)]⟩ (.seq (.seq .nil .nil) (.seq (.seq (.seq .nil (.seq (.seq .nil (.seq .nil .nil)) (.seq .nil (.meet false ⟨[(4, .keep), (5, .keep), (6, .sl (.one (.p false false (.int .i64)))), (7, .keep)], [(4, .keep), (20, .keep)]⟩ (.loop ⟨[(4, .keep), (5, .keep), (6, .sl (.one (.p false false (.int .i64)))), (7, .keep), (8, .keep), (9, .sl (.one (.p false false (.int .i64))))], [(4, .keep), (20, .keep), (8, .ob (.box [(.own 101003)])), (101003, .ob (.arr false false false (.sl (.int .i64))))]⟩ (.seq (.seq .nil .nil) (.seq (.seq (.seq .nil (.seq .nil (.meet false ⟨[(4, .keep), (5, .keep), (6, .sl (.one (.p false false (.int .i64)))), (7, .keep), (8, .keep), (9, .keep)], [(4, .keep), (20, .keep), (8, .ob (.box [(.own 102004)])), (102004, .ob (.arr false false false (.sl (.int .i64))))]⟩ (.loop ⟨[(4, .keep), (5, .keep), (6, .sl (.one (.p false false (.int .i64)))), (7, .keep), (8, .keep), (9, .keep), (10, .keep), (11, .sl (.one (.p false false (.int .i64))))], [(4, .keep), (20, .keep), (8, .ob (.box [(.own 102004)])), (44, .keep), (102004, .ob (.arr false false false (.sl (.int .i64))))]⟩ (.seq (.seq .nil .nil) (.seq (.meet false ⟨[(4, .keep), (5, .keep), (6, .sl (.one (.p false false (.int .i64)))), (7, .keep), (8, .keep), (9, .keep), (10, .keep), (11, .keep)], [(4, .keep), (20, .keep), (8, .ob (.box [(.own 104004)])), (44, .keep), (104004, .ob (.arr false false false (.sl (.int .i64))))]⟩ (.seq (.seq .nil .nil) (.seq .nil (.seq .nil (.seq .nil (.meet false ⟨[(4, .keep), (5, .keep), (6, .sl (.one (.p false false (.int .i64)))), (7, .keep), (8, .keep), (9, .keep), (10, .keep), (11, .keep)], [(4, .keep), (20, .keep), (8, .keep), (44, .keep), (68, .keep)]⟩ .nil)))))) .nil)))))) .nil) .nil))))))) .nil) .nil))))) .nil)))))))
--FN 7 80 [.tmp 2] callees [8, 9, 20, 19, 10, 16, 12, 22] self false
end Go.Fg.Ytdioheaklahnnaa
