/-
  Shapes of the functions of the seat, printed by a program (wip/gen/Infer.lean).
-/
import Derived.Test.YtdddhnagekhihaaFwT
import Derived.Test.YtdddhnagekhihaaZd
namespace Go.Fg.Ytdddhnagekhihaa
open Go.Fw Go.Proofs Go.Fw.Ytdddhnagekhihaa
set_option linter.unusedVariables false
structure ModelS where
  step : Int
  mispredict : Int
  miss : Int
  fault : Int
  call : Int
  indirect : Int
  line : Int
  sets : Int
  ways : Int
  page : Int
  resident : Int
  predict : Int
def dfModelS : ModelS := ModelS.mk (0 : Int) (0 : Int) (0 : Int) (0 : Int) (0 : Int) (0 : Int) (0 : Int) (0 : Int) (0 : Int) (0 : Int) (0 : Int) (0 : Int)
def erModelS (x : ModelS) : List P := [P.int .i64 (ModelS.step x), P.int .i64 (ModelS.mispredict x), P.int .i64 (ModelS.miss x), P.int .i64 (ModelS.fault x), P.int .i64 (ModelS.call x), P.int .i64 (ModelS.indirect x), P.int .i64 (ModelS.line x), P.int .i64 (ModelS.sets x), P.int .i64 (ModelS.ways x), P.int .i64 (ModelS.page x), P.int .i64 (ModelS.resident x), P.int .i64 (ModelS.predict x)]
structure FetchS where
  address : Int
  size : Int
  kind : Int
def dfFetchS : FetchS := FetchS.mk (0 : Int) (0 : Int) (0 : Int)
def erFetchS (x : FetchS) : List P := [P.int .i64 (FetchS.address x), P.int .i64 (FetchS.size x), P.int .i64 (FetchS.kind x)]
def reC : Nat → Type
  | 0 => Unit
  | 1 => Unit
  | 2 => Unit
  | 3 => FetchS
  | 4 => ModelS
  | 5 => Unit
  | 6 => Unit
  | 7 => Unit
  | 8 => Unit
  | _ => Unit
def reF : Nat → List Ty
  | 0 => []
  | 1 => []
  | 2 => []
  | 3 => [(.int .i64), (.int .i64), (.int .i64)]
  | 4 => [(.int .i64), (.int .i64), (.int .i64), (.int .i64), (.int .i64), (.int .i64), (.int .i64), (.int .i64), (.int .i64), (.int .i64), (.int .i64), (.int .i64)]
  | 5 => []
  | 6 => []
  | 7 => []
  | 8 => []
  | _ => []
def reDf : (n : Nat) → reC n
  | 0 => ()
  | 1 => ()
  | 2 => ()
  | 3 => dfFetchS
  | 4 => dfModelS
  | 5 => ()
  | 6 => ()
  | 7 => ()
  | 8 => ()
  | _ + 9 => ()
def reUn : (n : Nat) → reC n → List (TP reC)
  | 0, x => []
  | 1, x => []
  | 2, x => []
  | 3, x => [⟨(.int .i64), FetchS.address x⟩, ⟨(.int .i64), FetchS.size x⟩, ⟨(.int .i64), FetchS.kind x⟩]
  | 4, x => [⟨(.int .i64), ModelS.step x⟩, ⟨(.int .i64), ModelS.mispredict x⟩, ⟨(.int .i64), ModelS.miss x⟩, ⟨(.int .i64), ModelS.fault x⟩, ⟨(.int .i64), ModelS.call x⟩, ⟨(.int .i64), ModelS.indirect x⟩, ⟨(.int .i64), ModelS.line x⟩, ⟨(.int .i64), ModelS.sets x⟩, ⟨(.int .i64), ModelS.ways x⟩, ⟨(.int .i64), ModelS.page x⟩, ⟨(.int .i64), ModelS.resident x⟩, ⟨(.int .i64), ModelS.predict x⟩]
  | 5, x => []
  | 6, x => []
  | 7, x => []
  | 8, x => []
  | _ + 9, _ => []
def reRo : (n : Nat) → List (TP reC) → reC n
  | 0, ws => ()
  | 1, ws => ()
  | 2, ws => ()
  | 3, ws => FetchS.mk (TP.get (.int .i64) (0 : Int) ws 0) (TP.get (.int .i64) (0 : Int) ws 1) (TP.get (.int .i64) (0 : Int) ws 2)
  | 4, ws => ModelS.mk (TP.get (.int .i64) (0 : Int) ws 0) (TP.get (.int .i64) (0 : Int) ws 1) (TP.get (.int .i64) (0 : Int) ws 2) (TP.get (.int .i64) (0 : Int) ws 3) (TP.get (.int .i64) (0 : Int) ws 4) (TP.get (.int .i64) (0 : Int) ws 5) (TP.get (.int .i64) (0 : Int) ws 6) (TP.get (.int .i64) (0 : Int) ws 7) (TP.get (.int .i64) (0 : Int) ws 8) (TP.get (.int .i64) (0 : Int) ws 9) (TP.get (.int .i64) (0 : Int) ws 10) (TP.get (.int .i64) (0 : Int) ws 11)
  | 5, ws => ()
  | 6, ws => ()
  | 7, ws => ()
  | 8, ws => ()
  | _ + 9, _ => ()
def reEr : (n : Nat) → reC n → List P
  | 0, x => []
  | 1, x => []
  | 2, x => []
  | 3, x => erFetchS x
  | 4, x => erModelS x
  | 5, x => []
  | 6, x => []
  | 7, x => []
  | 8, x => []
  | _ + 9, _ => []
theorem reFwd : ∀ n, (reF n).all Ty.word = true
  | 0 => rfl
  | 1 => rfl
  | 2 => rfl
  | 3 => rfl
  | 4 => rfl
  | 5 => rfl
  | 6 => rfl
  | 7 => rfl
  | 8 => rfl
  | _ + 9 => rfl
theorem reUnTy : ∀ (n : Nat) (x : reC n), (reUn n x).map (·.t) = reF n
  | 0, x => rfl
  | 1, x => rfl
  | 2, x => rfl
  | 3, x => rfl
  | 4, x => rfl
  | 5, x => rfl
  | 6, x => rfl
  | 7, x => rfl
  | 8, x => rfl
  | _ + 9, _ => rfl
theorem reUnRo : ∀ (n : Nat) (ws : List (TP reC)), ws.map (·.t) = reF n → reUn n (reRo n ws) = ws
  | 0, ws, h => by
    have e := typed_nil h
    subst e
    rfl
  | 1, ws, h => by
    have e := typed_nil h
    subst e
    rfl
  | 2, ws, h => by
    have e := typed_nil h
    subst e
    rfl
  | 3, ws, h => by
    obtain ⟨x0, ws0, e0, h0⟩ := typed_cons h
    subst e0
    obtain ⟨x1, ws1, e1, h1⟩ := typed_cons h0
    subst e1
    obtain ⟨x2, ws2, e2, h2⟩ := typed_cons h1
    subst e2
    have e := typed_nil h2
    subst e
    rfl
  | 4, ws, h => by
    obtain ⟨x0, ws0, e0, h0⟩ := typed_cons h
    subst e0
    obtain ⟨x1, ws1, e1, h1⟩ := typed_cons h0
    subst e1
    obtain ⟨x2, ws2, e2, h2⟩ := typed_cons h1
    subst e2
    obtain ⟨x3, ws3, e3, h3⟩ := typed_cons h2
    subst e3
    obtain ⟨x4, ws4, e4, h4⟩ := typed_cons h3
    subst e4
    obtain ⟨x5, ws5, e5, h5⟩ := typed_cons h4
    subst e5
    obtain ⟨x6, ws6, e6, h6⟩ := typed_cons h5
    subst e6
    obtain ⟨x7, ws7, e7, h7⟩ := typed_cons h6
    subst e7
    obtain ⟨x8, ws8, e8, h8⟩ := typed_cons h7
    subst e8
    obtain ⟨x9, ws9, e9, h9⟩ := typed_cons h8
    subst e9
    obtain ⟨x10, ws10, e10, h10⟩ := typed_cons h9
    subst e10
    obtain ⟨x11, ws11, e11, h11⟩ := typed_cons h10
    subst e11
    have e := typed_nil h11
    subst e
    rfl
  | 5, ws, h => by
    have e := typed_nil h
    subst e
    rfl
  | 6, ws, h => by
    have e := typed_nil h
    subst e
    rfl
  | 7, ws, h => by
    have e := typed_nil h
    subst e
    rfl
  | 8, ws, h => by
    have e := typed_nil h
    subst e
    rfl
  | _ + 9, ws, h => by have e := typed_nil h; subst e; rfl
theorem reErUn : ∀ (n : Nat) (x : reC n), reEr n x = (reUn n x).map fun w => enc1With (sizeWith reF) (encEWith reF reEr (sizeWith reF)) w.t w.x
  | 0, x => by kernel_rfl
  | 1, x => by kernel_rfl
  | 2, x => by kernel_rfl
  | 3, x => by kernel_rfl
  | 4, x => by kernel_rfl
  | 5, x => by kernel_rfl
  | 6, x => by kernel_rfl
  | 7, x => by kernel_rfl
  | 8, x => by kernel_rfl
  | _ + 9, _ => rfl
def reG : Nat → Option ((e : Ty) × List (D reC e))
  | _ => none
instance re : RE where
  C := reC
  F := reF
  dflt := reDf
  un := reUn
  ro := reRo
  er := reEr
  Fwd := reFwd
  un_ty := reUnTy
  un_ro := reUnRo
  er_un := reErUn
  G := reG
  Q := fun w S l v => IterOf Try.prog w S l v
  Q_mono := IterOf.mono
theorem mixed : Fit Try.prog := ⟨Fw.Ytdddhnagekhihaa.mixed0, fun _ _ _ _ h => h⟩
def etys : List (Nat × Ty) := [(3, (.int .i64)), (5, (.int .u8)), (34, (.st 4)), (44, (.st 3))]
def ety : TypeId → Option Ty := fun t => etys.lookup t
/-- warmpath/warmpathdraw.New -/
def sg8 : TSig := { nargs := 2, pin := ⟨[(0, (.one (.p true false (.sl (.int .u8))))), (1, (.one (.p true false (.int .i64))))], []⟩, pout := ⟨[(0, (.one (.box 14 0)))], [(14, (.box [(.p true false (.sl (.int .u8))), (.p false false (.int .i64))]))]⟩, nres := 1, ios := [], news := [14] }
def an8 : Ann := (.seq .nil (.seq (.seq .nil (.meet false ⟨[(0, .sl (.one (.p true false (.sl (.int .u8)))))], []⟩ .nil)) .nil))
--FN 8 15 [.tmp 4] callees [] self false
/-- (*warmpath/warmpathdraw.Codes).Next -/
def sg9 : TSig := { nargs := 2, pin := ⟨[(0, (.one (.box 50000 0))), (1, (.one (.p true false (.int .i64))))], [(50000, (.box [(.p false true (.sl (.int .u8))), (.p false true (.int .i64))]))]⟩, pout := ⟨[(0, (.one (.p false false (.int .i64))))], [(50000, (.box [(.p false true (.sl (.int .u8))), (.p false false (.int .i64))]))]⟩, nres := 1, ios := [50000], news := [] }
def an9 : Ann := (.seq .nil (.seq (.seq (.meet false ⟨[(0, .keep), (1, .keep), (19, .sl (.one (.p false false .bool)))], [(50000, .keep)]⟩ .nil) (.seq .nil .nil)) (.seq .nil (.seq .nil (.seq (.seq .nil (.seq .nil .nil)) .nil)))))
--FN 9 50 [.tmp 4] callees [] self true
/-- warmpath/warmpathref01.Ints -/
def sg12 : TSig := { nargs := 2, pin := ⟨[(0, (.one (.p true false (.sl (.int .i64))))), (1, (.one (.p true false (.sl (.int .i64)))))], []⟩, pout := ⟨[(0, (.one (.p false false .bool)))], []⟩, nres := 1, ios := [], news := [] }
def an12 : Ann := (.seq .nil (.seq (.seq .nil (.seq .nil .nil)) (.seq (.seq .nil (.meet true ⟨[], []⟩ (.loop ⟨[(0, .keep), (1, .keep), (5, .sl (.one (.p false false (.int .i64))))], []⟩ (.seq (.seq .nil .nil) (.seq (.seq (.seq .nil (.seq .nil .nil)) .nil) .nil))))) .nil)))
--FN 12 26 [.tmp 4] callees [] self false
/-- (*warmpath/warmpathdraw.Codes).Trace -/
def sg13 : TSig := { nargs := 2, pin := ⟨[(0, (.one (.box 50000 0))), (1, (.one (.p true false (.int .i64))))], [(50000, (.box [(.p false true (.sl (.int .u8))), (.p false true (.int .i64))]))]⟩, pout := ⟨[(0, (.one (.own 100001)))], [(50000, (.box [(.p false true (.sl (.int .u8))), (.p false false (.int .i64))])), (100001, (.arr false false false (.st 3)))]⟩, nres := 1, ios := [50000], news := [100001] }
def an13 : Ann := (.seq .nil (.seq .nil (.seq (.seq .nil (.meet false ⟨[(5, .sl (.one (.own 100001)))], [(50000, .ob (.box [(.p false true (.sl (.int .u8))), (.p false false (.int .i64))])), (100001, .ob (.arr false false false (.st 3)))]⟩ (.loop ⟨[(0, .keep), (5, .sl (.one (.own 100001))), (6, .sl (.one (.p false false (.int .i64))))], [(50000, .ob (.box [(.p false true (.sl (.int .u8))), (.p false false (.int .i64))])), (100001, .ob (.arr false false false (.st 3)))]⟩ (.seq (.seq .nil .nil) (.seq .nil .nil))))) .nil)))
--FN 13 27 [.tmp 4] callees [9] self false
/-- (*warmpath/warmpathdraw.Codes).Model -/
def sg15 : TSig := { nargs := 1, pin := ⟨[(0, (.one (.box 50000 0)))], [(50000, (.box [(.p false true (.sl (.int .u8))), (.p false true (.int .i64))]))]⟩, pout := ⟨[(0, (.agg [(.p false false (.int .i64)), (.p false false (.int .i64)), (.p false false (.int .i64)), (.p false false (.int .i64)), (.p false false (.int .i64)), (.p false false (.int .i64)), (.p false false (.int .i64)), (.p false false (.int .i64)), (.p false false (.int .i64)), (.p false false (.int .i64)), (.p false false (.int .i64)), (.p false false (.int .i64))]))], [(50000, (.box [(.p false true (.sl (.int .u8))), (.p false false (.int .i64))]))]⟩, nres := 1, ios := [50000], news := [] }
def an15 : Ann := (.seq .nil (.seq .nil (.seq (.seq .nil (.meet false ⟨[(0, .keep), (2, .keep), (3, .keep)], [(50000, .ob (.box [(.p false true (.sl (.int .u8))), (.p false false (.int .i64))])), (2, .keep), (3, .ob (.box [(.p false false (.int .i64)), (.p false false (.int .i64)), (.p false false (.int .i64)), (.p false false (.int .i64)), (.p false false (.int .i64)), (.p false false (.int .i64)), (.p false false (.int .i64)), (.p false false (.int .i64)), (.p false false (.int .i64)), (.p false false (.int .i64)), (.p false false (.int .i64)), (.p false false (.int .i64))]))]⟩ .nil)) (.seq (.seq .nil (.meet false ⟨[(0, .keep), (2, .keep), (3, .keep)], [(50000, .ob (.box [(.p false true (.sl (.int .u8))), (.p false false (.int .i64))])), (2, .keep), (3, .ob (.box [(.p false false (.int .i64)), (.p false false (.int .i64)), (.p false false (.int .i64)), (.p false false (.int .i64)), (.p false false (.int .i64)), (.p false false (.int .i64)), (.p false false (.int .i64)), (.p false false (.int .i64)), (.p false false (.int .i64)), (.p false false (.int .i64)), (.p false false (.int .i64)), (.p false false (.int .i64))]))]⟩ .nil)) (.seq (.seq .nil (.meet false ⟨[(2, .keep), (3, .keep)], [(50000, .ob (.box [(.p false true (.sl (.int .u8))), (.p false false (.int .i64))])), (2, .keep), (3, .ob (.box [(.p false false (.int .i64)), (.p false false (.int .i64)), (.p false false (.int .i64)), (.p false false (.int .i64)), (.p false false (.int .i64)), (.p false false (.int .i64)), (.p false false (.int .i64)), (.p false false (.int .i64)), (.p false false (.int .i64)), (.p false false (.int .i64)), (.p false false (.int .i64)), (.p false false (.int .i64))]))]⟩ .nil)) .nil)))))
--FN 15 56 [.cell 2 34] callees [9] self false
/-- slices.Index[[]int,int] -/
def sg24 : TSig := { nargs := 2, pin := ⟨[(0, (.one (.p true false (.sl (.int .i64))))), (1, (.one (.p true false (.int .i64))))], []⟩, pout := ⟨[(0, (.one (.p false false (.int .i64))))], []⟩, nres := 1, ios := [], news := [] }
def an24 : Ann := (.seq .nil (.seq (.seq .nil (.meet true ⟨[], []⟩ (.loop ⟨[(0, .keep), (1, .keep), (7, .keep), (8, .sl (.one (.p false false (.int .i64))))], []⟩ (.seq .nil (.seq .nil (.seq (.seq (.seq .nil (.seq .nil (.seq .nil .nil))) .nil) .nil)))))) .nil))
--FN 24 19 [.tmp 4] callees [] self false
/-- slices.Clone[[]int,int] -/
def sg25 : TSig := { nargs := 1, pin := ⟨[(0, (.one (.p true false (.sl (.int .i64)))))], []⟩, pout := ⟨[(0, (.one (.own 60000)))], [(60000, (.arr false true false (.int .i64)))]⟩, nres := 1, ios := [], news := [60000] }
def an25 : Ann := (.seq .nil (.seq (.seq .nil (.seq .nil .nil)) .nil))
--FN 25 8 [.tmp 2] callees [] self false
/-- slices.Delete[[]int,int] -/
def sg26 : TSig := sgDel
--HAND 26 Del
/-- warmpath/warmpathref17.First -/
def sg28 : TSig := { nargs := 3, pin := ⟨[(0, (.one (.p true false (.sl (.int .i64))))), (1, (.one (.p true false (.int .i64)))), (2, (.one (.p true false (.int .i64))))], []⟩, pout := ⟨[(0, (.one (.p true false (.sl (.int .i64))))), (1, (.one (.p false false .bool)))], []⟩, nres := 2, ios := [], news := [] }
def an28 : Ann := (.seq .nil (.seq .nil (.seq .nil (.seq (.seq .nil (.meet false ⟨[(2, .keep), (8, .sl (.one (.own 100000))), (9, .sl (.one (.p false false .bool)))], [(100000, .ob (.arr false true false (.int .i64)))]⟩ (.loop ⟨[(0, .keep), (1, .keep), (2, .keep), (8, .sl (.one (.own 100000))), (9, .sl (.one (.p false false .bool))), (10, .sl (.one (.p false false (.int .i64))))], [(100000, .ob (.arr false true false (.int .i64)))]⟩ (.seq (.seq .nil .nil) (.seq (.seq (.seq .nil (.meet false ⟨[(0, .keep), (1, .keep), (2, .keep), (8, .sl (.one (.own 101000))), (9, .sl (.one (.p false false .bool))), (10, .keep)], [(101000, .ob (.arr false true false (.int .i64)))]⟩ .nil)) .nil) .nil))))) (.seq (.seq .nil (.meet false ⟨[(8, .sl (.one (.p true false (.sl (.int .i64))))), (9, .keep)], []⟩ .nil)) .nil)))))
--FN 28 41 [.tmp 6, .tmp 7] callees [] self false
/-- warmpath/warmpathref17.Total -/
def sg29 : TSig := { nargs := 1, pin := ⟨[(0, (.one (.p true false (.sl (.int .i64)))))], []⟩, pout := ⟨[(0, (.one (.p false false (.int .i64))))], []⟩, nres := 1, ios := [], news := [] }
def an29 : Ann := (.seq .nil (.seq .nil (.seq (.seq .nil (.meet false ⟨[(3, .sl (.one (.p false false (.int .i64))))], []⟩ (.loop ⟨[(0, .keep), (3, .sl (.one (.p false false (.int .i64)))), (4, .sl (.one (.p false false (.int .i64))))], []⟩ (.seq (.seq .nil .nil) (.seq .nil .nil))))) .nil)))
--FN 29 18 [.tmp 2] callees [] self false
/-- warmpath/paging.touches -/
def sg30 : TSig := { nargs := 2, pin := ⟨[(0, (.one (.p true false (.int .i64)))), (1, (.one (.p true false (.sl (.st 3)))))], []⟩, pout := ⟨[(0, (.one (.p true false (.sq (.prod (.int .i64) (.int .i64))))))], []⟩, nres := 1, ios := [], news := [] }
--HAND 30 Tou
/-- warmpath/warmpathref17.Parts -/
def sg31 : TSig := { nargs := 2, pin := ⟨[(0, (.one (.p true false (.int .i64)))), (1, (.agg [(.p true false (.int .i64)), (.p true false (.int .i64)), (.p true false (.int .i64))]))], []⟩, pout := ⟨[(0, (.one (.own 60000)))], [(60000, (.arr false false false (.int .i64)))]⟩, nres := 1, ios := [], news := [60000] }
def an31 : Ann := (.seq .nil (.seq .nil (.seq (.seq (.meet false ⟨[(0, .keep), (3, .keep), (5, .keep), (24, .sl (.one (.p false false .bool)))], [(3, .keep)]⟩ .nil) (.seq .nil .nil)) (.seq (.seq .nil (.meet false ⟨[(5, .sl (.one (.own 101001)))], [(101001, .ob (.arr false false false (.int .i64)))]⟩ (.loop ⟨[(0, .keep), (3, .keep), (5, .sl (.one (.own 101001))), (6, .sl (.one (.p false false (.int .i64))))], [(3, .keep), (101001, .ob (.arr false false false (.int .i64)))]⟩ (.seq (.seq .nil .nil) (.seq .nil .nil))))) .nil))))
--FN 31 46 [.tmp 4] callees [] self false
/-- slices.Compact[[]int,int] -/
def sg33 : TSig := sgCmp
--HAND 33 Cmp
/-- warmpath/warmpathref18.Touches -/
def sg34 : TSig := { nargs := 2, pin := ⟨[(0, (.one (.p true false (.int .i64)))), (1, (.one (.p true false (.sl (.st 3)))))], []⟩, pout := ⟨[(0, (.one (.own 100000)))], [(100000, (.arr false false false (.int .i64)))]⟩, nres := 1, ios := [], news := [100000] }
def an34 : Ann := (.seq .nil (.seq .nil (.seq (.seq .nil (.meet false ⟨[(5, .sl (.one (.own 100000)))], [(100000, .ob (.arr false false false (.int .i64)))]⟩ (.loop ⟨[(0, .keep), (1, .keep), (5, .sl (.one (.own 100000))), (6, .sl (.one (.p false false (.int .i64))))], [(100000, .ob (.arr false false false (.int .i64)))]⟩ (.seq (.seq .nil .nil) (.seq .nil .nil))))) .nil)))
--FN 34 22 [.tmp 4] callees [31] self false
/-- warmpath/warmpathref08.Has -/
def sg35 : TSig := { nargs := 2, pin := ⟨[(0, (.one (.p true false (.sl (.int .i64))))), (1, (.one (.p true false (.int .i64))))], []⟩, pout := ⟨[(0, (.one (.p false false .bool)))], []⟩, nres := 1, ios := [], news := [] }
def an35 : Ann := (.seq .nil (.seq (.seq .nil (.meet true ⟨[], []⟩ (.loop ⟨[(0, .keep), (1, .keep), (5, .sl (.one (.p false false (.int .i64))))], []⟩ (.seq (.seq .nil .nil) (.seq (.seq (.seq .nil (.seq .nil .nil)) .nil) .nil))))) .nil))
--FN 35 18 [.tmp 4] callees [] self false
/-- slices.reverseRangeOrdered[int] -/
def sg46 : TSig := { nargs := 3, pin := ⟨[(0, (.one (.own 55000))), (1, (.one (.p true false (.int .i64)))), (2, (.one (.p true false (.int .i64))))], [(55000, (.arr false false true (.int .i64)))]⟩, pout := ⟨[], []⟩, nres := 0, ios := [], news := [] }
def an46 : Ann := (.seq .nil (.seq .nil (.meet false ⟨[], []⟩ (.loop ⟨[(0, .keep), (6, .sl (.one (.p true false (.int .i64)))), (7, .sl (.one (.p false false (.int .i64))))], [(55000, .ob (.arr false false true (.int .i64)))]⟩ (.seq (.seq .nil .nil) (.seq (.seq .nil .nil) .nil))))))
--FN 46 32 [] callees [] self false
/-- math/bits.Len32 -/
def sg51 : TSig := { nargs := 1, pin := ⟨[(0, (.one (.p true false (.int .u32))))], []⟩, pout := ⟨[(0, (.one (.p false false (.int .i64))))], []⟩, nres := 1, ios := [], news := [] }
def an51 : Ann := (.seq .nil (.seq (.seq .nil (.meet false ⟨[(0, .sl (.one (.p true false (.int .u32)))), (2, .sl (.one (.p false false (.int .i64))))], []⟩ (.seq .nil .nil))) (.seq (.seq .nil (.meet false ⟨[(0, .sl (.one (.p true false (.int .u32)))), (2, .sl (.one (.p false false (.int .i64))))], []⟩ (.seq .nil .nil))) .nil)))
--FN 51 19 [.tmp 2] callees [] self false
/-- math/bits.Len64 -/
def sg52 : TSig := { nargs := 1, pin := ⟨[(0, (.one (.p true false (.int .u64))))], []⟩, pout := ⟨[(0, (.one (.p false false (.int .i64))))], []⟩, nres := 1, ios := [], news := [] }
def an52 : Ann := (.seq .nil (.seq (.seq .nil (.meet false ⟨[(0, .sl (.one (.p true false (.int .u64)))), (2, .sl (.one (.p false false (.int .i64))))], []⟩ (.seq .nil .nil))) (.seq (.seq .nil (.meet false ⟨[(0, .sl (.one (.p true false (.int .u64)))), (2, .sl (.one (.p false false (.int .i64))))], []⟩ (.seq .nil .nil))) (.seq (.seq .nil (.meet false ⟨[(0, .sl (.one (.p true false (.int .u64)))), (2, .sl (.one (.p false false (.int .i64))))], []⟩ (.seq .nil .nil))) .nil))))
--FN 52 25 [.tmp 2] callees [] self false
/-- slices.Reverse[[]int,int] -/
def sg53 : TSig := { nargs := 1, pin := ⟨[(0, (.one (.own 55000)))], [(55000, (.arr false false true (.int .i64)))]⟩, pout := ⟨[], []⟩, nres := 0, ios := [], news := [] }
def an53 : Ann := (.seq .nil (.meet false ⟨[], []⟩ (.loop ⟨[(0, .keep), (2, .sl (.one (.p false false (.int .i64)))), (3, .sl (.one (.p false false (.int .i64))))], [(55000, .ob (.arr false false true (.int .i64)))]⟩ (.seq (.seq .nil .nil) (.seq .nil .nil)))))
--FN 53 28 [] callees [] self false
/-- (*slices.xorshift).Next -/
def sg56 : TSig := { nargs := 1, pin := ⟨[(0, (.one (.box 50000 0)))], [(50000, (.box [(.p false true (.int .u64))]))]⟩, pout := ⟨[(0, (.one (.p false false (.int .u64))))], [(50000, (.box [(.p false false (.int .u64))]))]⟩, nres := 1, ios := [50000], news := [] }
def an56 : Ann := (.seq .nil (.seq .nil (.seq .nil (.seq .nil .nil))))
--FN 56 33 [.tmp 2] callees [] self false
/-- cmp.isNaN[int] -/
def sg59 : TSig := { nargs := 1, pin := ⟨[(0, (.one (.p true false (.int .i64))))], []⟩, pout := ⟨[(0, (.one (.p false false .bool)))], []⟩, nres := 1, ios := [], news := [] }
def an59 : Ann := (.seq .nil .nil)
--FN 59 6 [.tmp 2] callees [] self false
/-- warmpath/warmpathref18.Touch -/
def sg11 : TSig := { nargs := 3, pin := ⟨[(0, (.one (.p true false (.sl (.int .i64))))), (1, (.one (.p true false (.int .i64)))), (2, (.one (.p true false (.int .i64))))], []⟩, pout := ⟨[(0, (.one (.p true false (.sl (.int .i64))))), (1, (.one (.p false false .bool)))], []⟩, nres := 2, ios := [], news := [] }
def an11 : Ann := (.seq .nil (.seq .nil .nil))
--FN 11 20 [.tmp 6, .tmp 7] callees [28] self false
/-- warmpath/warmpathlaw18.model -/
def sg14 : TSig := { nargs := 1, pin := ⟨[(0, (.one (.box 50000 0)))], [(50000, (.box [(.p false true (.sl (.int .u8))), (.p false true (.int .i64))]))]⟩, pout := ⟨[(0, (.agg [(.p false false (.int .i64)), (.p false false (.int .i64)), (.p false false (.int .i64)), (.p false false (.int .i64)), (.p false false (.int .i64)), (.p false false (.int .i64)), (.p false false (.int .i64)), (.p false false (.int .i64)), (.p false false (.int .i64)), (.p false false (.int .i64)), (.p false false (.int .i64)), (.p false false (.int .i64))]))], [(50000, (.box [(.p false true (.sl (.int .u8))), (.p false false (.int .i64))]))]⟩, nres := 1, ios := [50000], news := [] }
def an14 : Ann := (.seq .nil (.seq .nil (.seq .nil .nil)))
--FN 14 17 [.cell 2 34] callees [15, 9] self false
/-- warmpath/warmpathref18.Each -/
def sg19 : TSig := { nargs := 2, pin := ⟨[(0, (.agg [(.p true false (.int .i64)), (.p true false (.int .i64)), (.p true false (.int .i64)), (.p true false (.int .i64)), (.p true false (.int .i64)), (.p true false (.int .i64)), (.p true false (.int .i64)), (.p true false (.int .i64)), (.p true false (.int .i64)), (.p true false (.int .i64)), (.p true false (.int .i64)), (.p true false (.int .i64))])), (1, (.one (.p true false (.sl (.st 3)))))], []⟩, pout := ⟨[(0, (.one (.own 13)))], [(13, (.arr false false false (.int .i64)))]⟩, nres := 1, ios := [], news := [13] }
def an19 : Ann := (.seq .nil (.seq .nil (.seq .nil (.seq (.seq .nil (.meet false ⟨[(5, .keep)], [(13, .ob (.arr false false false (.int .i64)))]⟩ (.loop ⟨[(1, .keep), (2, .keep), (5, .keep), (6, .sl (.one (.p true false (.sl (.int .i64))))), (7, .sl (.one (.p false false (.int .i64))))], [(2, .keep), (13, .ob (.arr false false false (.int .i64)))]⟩ (.seq (.seq (.meet false ⟨[(1, .keep), (2, .keep), (5, .keep), (6, .keep), (7, .keep), (22, .sl (.one (.p false false .bool)))], [(2, .keep), (13, .keep)]⟩ .nil) .nil) (.seq (.seq (.seq .nil (.seq .nil (.meet false ⟨[(1, .keep), (2, .keep), (5, .keep), (6, .sl (.one (.p true false (.sl (.int .i64))))), (7, .keep)], [(2, .keep), (13, .ob (.arr false false false (.int .i64)))]⟩ (.loop ⟨[(1, .keep), (2, .keep), (5, .keep), (6, .sl (.one (.p true false (.sl (.int .i64))))), (7, .keep), (8, .keep), (9, .sl (.one (.p false false (.int .i64))))], [(2, .keep), (13, .ob (.arr false false false (.int .i64))), (31, .keep)]⟩ (.seq (.seq .nil .nil) (.seq (.seq (.seq .nil (.seq .nil (.seq .nil (.meet false ⟨[(1, .keep), (2, .keep), (5, .keep), (6, .keep), (7, .keep), (8, .keep), (9, .keep)], [(2, .keep), (13, .ob (.arr false false false (.int .i64))), (31, .keep)]⟩ .nil)))) .nil) .nil)))))) .nil) .nil))))) .nil))))
--FN 19 57 [.tmp 4] callees [31, 11] self false
/-- warmpath/warmpathref18.Pages -/
def sg21 : TSig := { nargs := 2, pin := ⟨[(0, (.one (.p true false (.int .i64)))), (1, (.one (.p true false (.sl (.st 3)))))], []⟩, pout := ⟨[(0, (.one (.own 100001)))], [(100001, (.arr false false false (.int .i64)))]⟩, nres := 1, ios := [], news := [100001] }
def an21 : Ann := (.seq .nil (.seq .nil (.seq .nil (.seq (.seq .nil (.meet false ⟨[(6, .sl (.one (.own 100001)))], [(100001, .ob (.arr false false false (.int .i64)))]⟩ (.loop ⟨[(5, .keep), (6, .sl (.one (.own 100001))), (7, .sl (.one (.p false false (.int .i64))))], [(11, .keep), (100001, .ob (.arr false false false (.int .i64)))]⟩ (.seq (.seq .nil .nil) (.seq (.seq (.seq .nil (.seq (.meet false ⟨[(5, .keep), (6, .keep), (7, .keep), (8, .sl (.one (.p false false (.int .i64))))], [(11, .keep), (100001, .keep)]⟩ (.loop ⟨[(5, .keep), (6, .keep), (7, .keep), (8, .sl (.one (.p false false (.int .i64))))], [(11, .keep), (100001, .keep)]⟩ (.seq (.seq (.meet false ⟨[(5, .keep), (6, .keep), (7, .keep), (8, .keep), (32, .sl (.one (.p false false .bool)))], [(11, .keep), (100001, .keep)]⟩ .nil) .nil) .nil))) (.seq (.meet false ⟨[(5, .keep), (6, .keep), (7, .keep), (8, .keep), (49, .sl (.one (.p false false .bool)))], [(11, .keep), (100001, .keep)]⟩ .nil) (.meet false ⟨[(5, .keep), (6, .sl (.one (.own 105001))), (7, .keep)], [(11, .keep), (105001, .ob (.arr false false false (.int .i64)))]⟩ .nil)))) .nil) .nil))))) .nil))))
--FN 21 65 [.tmp 4] callees [34] self false
/-- warmpath/warmpathref18.Distance -/
def sg23 : TSig := { nargs := 2, pin := ⟨[(0, (.one (.p true false (.int .i64)))), (1, (.one (.p true false (.sl (.st 3)))))], []⟩, pout := ⟨[(0, (.one (.own 100001)))], [(100001, (.arr false false false (.int .i64)))]⟩, nres := 1, ios := [], news := [100001] }
def an23 : Ann := (.seq .nil (.seq .nil (.seq .nil (.seq (.seq .nil (.meet false ⟨[(6, .sl (.one (.own 100001)))], [(100001, .ob (.arr false false false (.int .i64)))]⟩ (.loop ⟨[(5, .keep), (6, .sl (.one (.own 100001))), (7, .sl (.one (.p false false (.int .i64))))], [(13, .keep), (100001, .ob (.arr false false false (.int .i64)))]⟩ (.seq (.seq .nil .nil) (.seq (.seq (.seq .nil (.seq .nil (.seq (.seq .nil (.meet false ⟨[(5, .keep), (6, .keep), (7, .keep), (8, .sl (.one (.p false false (.int .i64))))], [(13, .keep), (100001, .keep)]⟩ (.loop ⟨[(5, .keep), (6, .keep), (7, .keep), (8, .keep), (9, .sl (.one (.own 101002))), (10, .sl (.one (.p false false (.int .i64))))], [(13, .keep), (100001, .keep), (101002, .ob (.arr false false false (.int .i64)))]⟩ (.seq (.seq .nil .nil) (.seq (.seq (.seq (.seq .nil (.meet false ⟨[(5, .keep), (6, .keep), (7, .keep), (8, .keep), (9, .sl (.one (.own 102002))), (10, .keep)], [(13, .keep), (100001, .keep), (102002, .ob (.arr false false false (.int .i64)))]⟩ .nil)) (.seq .nil (.seq .nil .nil))) .nil) .nil))))) .nil))) .nil) .nil))))) .nil))))
--FN 23 56 [.tmp 4] callees [34, 35] self false
/-- math/bits.Len -/
def sg40 : TSig := { nargs := 1, pin := ⟨[(0, (.one (.p true false (.int .u64))))], []⟩, pout := ⟨[(0, (.one (.p false false (.int .i64))))], []⟩, nres := 1, ios := [], news := [] }
def an40 : Ann := (.seq .nil (.seq .nil .nil))
--FN 40 8 [.tmp 2] callees [51, 52] self false
/-- cmp.Less[int] -/
def sg48 : TSig := { nargs := 2, pin := ⟨[(0, (.one (.p true false (.int .i64)))), (1, (.one (.p true false (.int .i64))))], []⟩, pout := ⟨[(0, (.one (.p false false .bool)))], []⟩, nres := 1, ios := [], news := [] }
def an48 : Ann := (.seq .nil (.seq (.meet false ⟨[(4, .sl (.one (.p false false .bool)))], []⟩ .nil) .nil))
--FN 48 17 [.tmp 4] callees [59] self false
/-- slices.partitionEqualOrdered[int] -/
def sg49 : TSig := { nargs := 4, pin := ⟨[(0, (.one (.own 55000))), (1, (.one (.p true false (.int .i64)))), (2, (.one (.p true false (.int .i64)))), (3, (.one (.p true false (.int .i64))))], [(55000, (.arr false false true (.int .i64)))]⟩, pout := ⟨[(0, (.one (.p false false (.int .i64))))], []⟩, nres := 1, ios := [], news := [] }
def an49 : Ann := (.seq .nil (.seq .nil (.seq .nil (.seq (.meet false ⟨[(9, .sl (.one (.p false false (.int .i64))))], []⟩ (.loop ⟨[(0, .keep), (1, .keep), (9, .sl (.one (.p false false (.int .i64)))), (10, .sl (.one (.p false false (.int .i64))))], [(55000, .ob (.arr false false true (.int .i64)))]⟩ (.seq (.seq (.meet false ⟨[(0, .keep), (1, .keep), (9, .sl (.one (.p false false (.int .i64)))), (10, .keep)], [(55000, .keep)]⟩ (.loop ⟨[(0, .keep), (1, .keep), (9, .sl (.one (.p false false (.int .i64)))), (10, .keep)], [(55000, .keep)]⟩ (.seq (.seq (.meet false ⟨[(0, .keep), (1, .keep), (9, .keep), (10, .keep), (43, .sl (.one (.p false false .bool)))], [(55000, .keep)]⟩ .nil) .nil) .nil))) (.seq (.meet false ⟨[(0, .keep), (1, .keep), (9, .keep), (10, .sl (.one (.p false false (.int .i64))))], [(55000, .keep)]⟩ (.loop ⟨[(0, .keep), (1, .keep), (9, .keep), (10, .sl (.one (.p false false (.int .i64))))], [(55000, .keep)]⟩ (.seq (.seq (.meet false ⟨[(0, .keep), (1, .keep), (9, .keep), (10, .keep), (59, .sl (.one (.p false false .bool)))], [(55000, .keep)]⟩ .nil) .nil) .nil))) (.seq (.seq .nil .nil) (.seq .nil .nil)))) .nil))) .nil))))
--FN 49 84 [.tmp 8] callees [48] self false
/-- slices.partitionOrdered[int] -/
def sg50 : TSig := { nargs := 4, pin := ⟨[(0, (.one (.own 55000))), (1, (.one (.p true false (.int .i64)))), (2, (.one (.p true false (.int .i64)))), (3, (.one (.p true false (.int .i64))))], [(55000, (.arr false false true (.int .i64)))]⟩, pout := ⟨[(0, (.one (.p false false (.int .i64)))), (1, (.one (.p false false .bool)))], []⟩, nres := 2, ios := [], news := [] }
def an50 : Ann := (.seq .nil (.seq .nil (.seq .nil (.seq (.meet false ⟨[(0, .keep), (1, .keep), (10, .sl (.one (.p false false (.int .i64)))), (11, .keep)], [(55000, .keep)]⟩ (.loop ⟨[(0, .keep), (1, .keep), (10, .sl (.one (.p false false (.int .i64)))), (11, .keep)], [(55000, .keep)]⟩ (.seq (.seq (.meet false ⟨[(0, .keep), (1, .keep), (10, .keep), (11, .keep), (43, .sl (.one (.p false false .bool)))], [(55000, .keep)]⟩ .nil) .nil) .nil))) (.seq (.meet false ⟨[(0, .keep), (1, .keep), (10, .keep), (11, .sl (.one (.p false false (.int .i64))))], [(55000, .keep)]⟩ (.loop ⟨[(0, .keep), (1, .keep), (10, .keep), (11, .sl (.one (.p false false (.int .i64))))], [(55000, .keep)]⟩ (.seq (.seq (.meet false ⟨[(0, .keep), (1, .keep), (10, .keep), (11, .keep), (60, .sl (.one (.p false false .bool)))], [(55000, .keep)]⟩ .nil) .nil) .nil))) (.seq (.seq .nil (.seq (.seq .nil .nil) .nil)) (.seq .nil (.seq .nil (.seq .nil (.seq (.meet false ⟨[(0, .keep), (1, .keep), (11, .sl (.one (.p false false (.int .i64))))], [(55000, .ob (.arr false false true (.int .i64)))]⟩ (.loop ⟨[(0, .keep), (1, .keep), (10, .sl (.one (.p false false (.int .i64)))), (11, .sl (.one (.p false false (.int .i64))))], [(55000, .ob (.arr false false true (.int .i64)))]⟩ (.seq (.seq (.meet false ⟨[(0, .keep), (1, .keep), (10, .sl (.one (.p false false (.int .i64)))), (11, .keep)], [(55000, .keep)]⟩ (.loop ⟨[(0, .keep), (1, .keep), (10, .sl (.one (.p false false (.int .i64)))), (11, .keep)], [(55000, .keep)]⟩ (.seq (.seq (.meet false ⟨[(0, .keep), (1, .keep), (10, .keep), (11, .keep), (112, .sl (.one (.p false false .bool)))], [(55000, .keep)]⟩ .nil) .nil) .nil))) (.seq (.meet false ⟨[(0, .keep), (1, .keep), (10, .keep), (11, .sl (.one (.p false false (.int .i64))))], [(55000, .keep)]⟩ (.loop ⟨[(0, .keep), (1, .keep), (10, .keep), (11, .sl (.one (.p false false (.int .i64))))], [(55000, .keep)]⟩ (.seq (.seq (.meet false ⟨[(0, .keep), (1, .keep), (10, .keep), (11, .keep), (129, .sl (.one (.p false false .bool)))], [(55000, .keep)]⟩ .nil) .nil) .nil))) (.seq (.seq .nil .nil) (.seq .nil .nil)))) .nil))) (.seq .nil .nil)))))))))))
--FN 50 168 [.tmp 8, .tmp 9] callees [48] self false
/-- slices.siftDownOrdered[int] -/
def sg54 : TSig := { nargs := 4, pin := ⟨[(0, (.one (.own 55000))), (1, (.one (.p true false (.int .i64)))), (2, (.one (.p true false (.int .i64)))), (3, (.one (.p true false (.int .i64))))], [(55000, (.arr false false true (.int .i64)))]⟩, pout := ⟨[], []⟩, nres := 0, ios := [], news := [] }
def an54 : Ann := (.seq .nil (.meet true ⟨[], []⟩ (.loop ⟨[(0, .keep), (2, .keep), (3, .keep), (8, .sl (.one (.p true false (.int .i64))))], [(55000, .ob (.arr false false true (.int .i64)))]⟩ (.seq (.seq .nil (.seq (.seq .nil .nil) (.seq (.seq (.meet false ⟨[(0, .keep), (2, .keep), (3, .keep), (8, .keep), (9, .keep), (36, .sl (.one (.p false false .bool)))], [(55000, .keep)]⟩ .nil) (.meet false ⟨[(0, .keep), (2, .keep), (3, .keep), (8, .keep), (9, .sl (.one (.p false false (.int .i64))))], [(55000, .keep)]⟩ .nil)) (.seq (.seq .nil .nil) .nil)))) .nil))))
--FN 54 76 [] callees [48] self false
/-- slices.nextPowerOfTwo -/
def sg55 : TSig := { nargs := 1, pin := ⟨[(0, (.one (.p true false (.int .i64))))], []⟩, pout := ⟨[(0, (.one (.p false false (.int .u64))))], []⟩, nres := 1, ios := [], news := [] }
def an55 : Ann := (.seq .nil .nil)
--FN 55 7 [.tmp 2] callees [40] self false
/-- slices.order2Ordered[int] -/
def sg60 : TSig := { nargs := 4, pin := ⟨[(0, (.one (.p true false (.sl (.int .i64))))), (1, (.one (.p true false (.int .i64)))), (2, (.one (.p true false (.int .i64)))), (3, (.one (.box 50030 0)))], [(50030, (.box [(.p false true (.int .i64))]))]⟩, pout := ⟨[(0, (.one (.p false false (.int .i64)))), (1, (.one (.p false false (.int .i64))))], [(50030, (.box [(.p false false (.int .i64))]))]⟩, nres := 2, ios := [50030], news := [] }
def an60 : Ann := (.seq .nil (.seq (.seq .nil (.seq (.seq .nil .nil) .nil)) .nil))
--FN 60 28 [.tmp 8, .tmp 9] callees [48] self false
/-- warmpath/warmpathref18.Faults -/
def sg17 : TSig := { nargs := 2, pin := ⟨[(0, (.agg [(.p true false (.int .i64)), (.p true false (.int .i64)), (.p true false (.int .i64)), (.p true false (.int .i64)), (.p true false (.int .i64)), (.p true false (.int .i64)), (.p true false (.int .i64)), (.p true false (.int .i64)), (.p true false (.int .i64)), (.p true false (.int .i64)), (.p true false (.int .i64)), (.p true false (.int .i64))])), (1, (.one (.p true false (.sl (.st 3)))))], []⟩, pout := ⟨[(0, (.one (.p false false (.int .i64))))], []⟩, nres := 1, ios := [], news := [] }
def an17 : Ann := (.seq .nil .nil)
--FN 17 9 [.tmp 4] callees [19, 29] self false
/-- slices.insertionSortOrdered[int] -/
def sg42 : TSig := { nargs := 3, pin := ⟨[(0, (.one (.own 55000))), (1, (.one (.p true false (.int .i64)))), (2, (.one (.p true false (.int .i64))))], [(55000, (.arr false false true (.int .i64)))]⟩, pout := ⟨[], []⟩, nres := 0, ios := [], news := [] }
def an42 : Ann := (.seq .nil (.meet false ⟨[], []⟩ (.loop ⟨[(0, .keep), (1, .keep), (2, .keep), (6, .sl (.one (.p false false (.int .i64))))], [(55000, .ob (.arr false false true (.int .i64)))]⟩ (.seq (.seq .nil .nil) (.seq (.seq (.seq .nil (.meet false ⟨[(0, .keep), (1, .keep), (2, .keep), (6, .keep)], [(55000, .ob (.arr false false true (.int .i64)))]⟩ (.loop ⟨[(0, .keep), (1, .keep), (2, .keep), (6, .keep), (7, .sl (.one (.p false false (.int .i64))))], [(55000, .ob (.arr false false true (.int .i64)))]⟩ (.seq (.seq (.meet false ⟨[(0, .keep), (1, .keep), (2, .keep), (6, .keep), (7, .keep), (30, .sl (.one (.p false false .bool)))], [(55000, .keep)]⟩ .nil) .nil) (.seq .nil .nil))))) .nil) .nil)))))
--FN 42 49 [] callees [48] self false
/-- slices.breakPatternsOrdered[int] -/
def sg44 : TSig := { nargs := 3, pin := ⟨[(0, (.one (.own 55000))), (1, (.one (.p true false (.int .i64)))), (2, (.one (.p true false (.int .i64))))], [(55000, (.arr false false true (.int .i64)))]⟩, pout := ⟨[], []⟩, nres := 0, ios := [], news := [] }
def an44 : Ann := (.seq .nil (.seq .nil (.meet false ⟨[], []⟩ (.seq (.seq .nil (.seq .nil (.seq .nil (.meet false ⟨[], []⟩ (.loop ⟨[(0, .keep), (1, .keep), (6, .keep), (7, .keep), (8, .keep), (9, .sl (.one (.p false false (.int .i64))))], [(55000, .ob (.arr false false true (.int .i64))), (7, .ob (.box [(.p false false (.int .u64))]))]⟩ (.seq (.seq .nil .nil) (.seq (.seq (.seq .nil (.seq (.seq .nil (.meet false ⟨[(0, .keep), (1, .keep), (6, .keep), (7, .keep), (8, .keep), (9, .keep), (10, .sl (.one (.p false false (.int .i64))))], [(55000, .keep), (7, .keep)]⟩ .nil)) .nil)) .nil) .nil))))))) .nil))))
--FN 44 65 [] callees [55, 56] self false
/-- slices.partialInsertionSortOrdered[int] -/
def sg47 : TSig := { nargs := 3, pin := ⟨[(0, (.one (.own 55000))), (1, (.one (.p true false (.int .i64)))), (2, (.one (.p true false (.int .i64))))], [(55000, (.arr false false true (.int .i64)))]⟩, pout := ⟨[(0, (.one (.p false false .bool)))], []⟩, nres := 1, ios := [], news := [] }
def an47 : Ann := (.seq .nil (.seq .nil (.seq (.seq .nil (.meet true ⟨[], []⟩ (.loop ⟨[(0, .keep), (1, .keep), (2, .keep), (7, .sl (.one (.p false false (.int .i64)))), (8, .sl (.one (.p false false (.int .i64))))], [(55000, .ob (.arr false false true (.int .i64)))]⟩ (.seq (.seq .nil .nil) (.seq (.seq (.seq (.meet false ⟨[(0, .keep), (1, .keep), (2, .keep), (7, .sl (.one (.p false false (.int .i64)))), (8, .keep)], [(55000, .keep)]⟩ (.loop ⟨[(0, .keep), (1, .keep), (2, .keep), (7, .sl (.one (.p false false (.int .i64)))), (8, .keep)], [(55000, .keep)]⟩ (.seq (.seq (.meet false ⟨[(0, .keep), (1, .keep), (2, .keep), (7, .keep), (8, .keep), (32, .sl (.one (.p false false .bool)))], [(55000, .keep)]⟩ .nil) .nil) .nil))) (.seq (.seq .nil (.seq .nil .nil)) (.seq (.seq .nil (.seq .nil .nil)) (.seq .nil (.seq (.seq .nil (.meet false ⟨[(0, .keep), (1, .keep), (2, .keep), (7, .keep), (8, .keep)], [(55000, .ob (.arr false false true (.int .i64)))]⟩ (.seq (.seq .nil (.meet false ⟨[(0, .keep), (1, .keep), (2, .keep), (7, .keep), (8, .keep)], [(55000, .ob (.arr false false true (.int .i64)))]⟩ (.loop ⟨[(0, .keep), (1, .keep), (2, .keep), (7, .keep), (8, .keep), (9, .sl (.one (.p false false (.int .i64))))], [(55000, .ob (.arr false false true (.int .i64)))]⟩ (.seq (.seq .nil .nil) (.seq (.seq (.seq (.seq .nil .nil) .nil) .nil) .nil))))) .nil))) (.seq .nil (.meet false ⟨[(0, .keep), (1, .keep), (2, .keep), (7, .keep), (8, .keep)], [(55000, .ob (.arr false false true (.int .i64)))]⟩ (.seq (.seq .nil (.meet false ⟨[(0, .keep), (1, .keep), (2, .keep), (7, .keep), (8, .keep)], [(55000, .ob (.arr false false true (.int .i64)))]⟩ (.loop ⟨[(0, .keep), (1, .keep), (2, .keep), (7, .keep), (8, .keep), (10, .sl (.one (.p false false (.int .i64))))], [(55000, .ob (.arr false false true (.int .i64)))]⟩ (.seq (.seq .nil .nil) (.seq (.seq (.seq (.seq .nil .nil) .nil) .nil) .nil))))) .nil)))))))) .nil) .nil))))) .nil)))
--FN 47 133 [.tmp 6] callees [48] self false
/-- slices.medianOrdered[int] -/
def sg58 : TSig := { nargs := 5, pin := ⟨[(0, (.one (.p true false (.sl (.int .i64))))), (1, (.one (.p true false (.int .i64)))), (2, (.one (.p true false (.int .i64)))), (3, (.one (.p true false (.int .i64)))), (4, (.one (.box 50040 0)))], [(50040, (.box [(.p false true (.int .i64))]))]⟩, pout := ⟨[(0, (.one (.p false false (.int .i64))))], [(50040, (.box [(.p false false (.int .i64))]))]⟩, nres := 1, ios := [50040], news := [] }
def an58 : Ann := (.seq .nil (.seq .nil (.seq .nil (.seq .nil .nil))))
--FN 58 36 [.tmp 10] callees [60] self false
/-- slices.Insert[[]int,int] -/
def sg27 : TSig := sgIns
--HAND 27 Ins
/-- slices.medianAdjacentOrdered[int] -/
def sg57 : TSig := { nargs := 3, pin := ⟨[(0, (.one (.p true false (.sl (.int .i64))))), (1, (.one (.p true false (.int .i64)))), (2, (.one (.box 50020 0)))], [(50020, (.box [(.p false true (.int .i64))]))]⟩, pout := ⟨[(0, (.one (.p false false (.int .i64))))], [(50020, (.box [(.p false false (.int .i64))]))]⟩, nres := 1, ios := [50020], news := [] }
def an57 : Ann := (.seq .nil .nil)
--FN 57 15 [.tmp 6] callees [58] self false
/-- warmpath/paging.Touch -/
def sg10 : TSig := { nargs := 3, pin := ⟨[(0, (.one (.p true false (.sl (.int .i64))))), (1, (.one (.p true false (.int .i64)))), (2, (.one (.p true false (.int .i64))))], []⟩, pout := ⟨[(0, (.one (.p true false (.sl (.int .i64))))), (1, (.one (.p false false .bool)))], []⟩, nres := 2, ios := [], news := [] }
def an10 : Ann := (.seq .nil (.seq .nil (.seq .nil (.seq (.seq .nil (.meet false ⟨[(1, .keep), (2, .keep), (8, .keep), (9, .sl (.one (.own 100000)))], [(100000, .ob (.arr false true false (.int .i64)))]⟩ .nil)) (.seq .nil .nil)))))
--FN 10 34 [.tmp 6, .tmp 7] callees [24, 25, 26, 27] self false
/-- warmpath/paging.Each -/
def sg18 : TSig := { nargs := 2, pin := ⟨[(0, (.agg [(.p true false (.int .i64)), (.p true false (.int .i64)), (.p true false (.int .i64)), (.p true false (.int .i64)), (.p true false (.int .i64)), (.p true false (.int .i64)), (.p true false (.int .i64)), (.p true false (.int .i64)), (.p true false (.int .i64)), (.p true false (.int .i64)), (.p true false (.int .i64)), (.p true false (.int .i64))])), (1, (.one (.p true false (.sl (.st 3)))))], []⟩, pout := ⟨[(0, (.one (.own 60000)))], [(60000, (.arr false true true (.int .i64)))]⟩, nres := 1, ios := [], news := [60000] }
def an18 : Ann := (.seq .nil (.seq .nil (.seq (.seq .nil (.seq .nil .nil)) (.seq .nil (.seq (.seq .nil (.meet false ⟨[(5, .keep)], [(5, .ob (.box [(.own 100003)])), (100003, .ob (.arr false true true (.int .i64)))]⟩ (.range ⟨[(2, .keep), (5, .keep), (6, .keep), (20, .keep)], [(2, .ob (.box [(.p true true (.int .i64)), (.p true true (.int .i64)), (.p true true (.int .i64)), (.p true true (.int .i64)), (.p true true (.int .i64)), (.p true true (.int .i64)), (.p true true (.int .i64)), (.p true true (.int .i64)), (.p true true (.int .i64)), (.p true true (.int .i64)), (.p true true (.int .i64)), (.p true true (.int .i64))])), (5, .ob (.box [(.own 100003)])), (6, .ob (.box [(.p true true (.sl (.int .i64)))])), (100003, .ob (.arr false true true (.int .i64)))]⟩ { nargs := 39, pin := ⟨[(2, (.one (.box 2 0))), (8, (.one (.p true false (.int .i64)))), (6, (.one (.box 6 0))), (7, (.one (.p true false (.int .i64)))), (5, (.one (.box 5 0)))], [(5, (.box [(.own 100003)])), (6, (.box [(.p false true (.sl (.int .i64)))])), (2, (.box [(.p false true (.int .i64)), (.p false true (.int .i64)), (.p false true (.int .i64)), (.p false true (.int .i64)), (.p false true (.int .i64)), (.p false true (.int .i64)), (.p false true (.int .i64)), (.p false true (.int .i64)), (.p false true (.int .i64)), (.p false true (.int .i64)), (.p false true (.int .i64)), (.p false true (.int .i64))])), (100003, (.arr false false true (.int .i64)))]⟩, pout := ⟨[], [(5, (.box [(.own 100003)])), (6, (.box [(.p true true (.sl (.int .i64)))])), (2, (.box [(.p false true (.int .i64)), (.p false true (.int .i64)), (.p false true (.int .i64)), (.p false true (.int .i64)), (.p false true (.int .i64)), (.p false true (.int .i64)), (.p false true (.int .i64)), (.p false true (.int .i64)), (.p false true (.int .i64)), (.p false true (.int .i64)), (.p false true (.int .i64)), (.p false true (.int .i64))])), (100003, (.arr false false true (.int .i64)))]⟩, nres := 0, ios := [5, 6, 2], news := [100003] } (.seq (.seq .nil (.seq .nil (.seq .nil (.meet false ⟨[], [(5, .keep), (6, .keep), (2, .keep), (100003, .ob (.arr false false true (.int .i64)))]⟩ .nil)))) .nil)))) .nil)))))
--FN 18 39 [.tmp 4] callees [30, 10] self false
/-- warmpath/paging.Distance -/
def sg22 : TSig := { nargs := 2, pin := ⟨[(0, (.one (.p true false (.int .i64)))), (1, (.one (.p true false (.sl (.st 3)))))], []⟩, pout := ⟨[(0, (.one (.own 100003)))], [(100003, (.arr false false false (.int .i64)))]⟩, nres := 1, ios := [], news := [100003] }
def an22 : Ann := (.seq .nil (.seq .nil (.seq (.seq .nil (.meet false ⟨[(6, .keep)], [(6, .ob (.box [(.own 100003)])), (100003, .ob (.arr false false false (.int .i64)))]⟩ (.range ⟨[(5, .keep), (6, .keep), (12, .keep)], [(5, .ob (.box [(.own 100002)])), (6, .ob (.box [(.own 100003)])), (100002, .ob (.arr false false false (.int .i64))), (100003, .ob (.arr false false false (.int .i64)))]⟩ { nargs := 35, pin := ⟨[(6, (.one (.box 6 0))), (8, (.one (.p true false (.int .i64)))), (5, (.one (.box 5 0)))], [(5, (.box [(.own 100002)])), (6, (.box [(.own 100003)])), (100002, (.arr false false true (.int .i64))), (100003, (.arr false false true (.int .i64)))]⟩, pout := ⟨[], [(5, (.box [(.own 33)])), (6, (.box [(.own 22)])), (33, (.arr false true true (.int .i64))), (22, (.arr false false true (.int .i64)))]⟩, nres := 0, ios := [5, 6], news := [33, 22] } (.seq (.seq .nil (.seq .nil (.seq (.seq .nil (.meet false ⟨[(5, .keep), (8, .keep)], [(5, .ob (.box [(.own 101002)])), (6, .keep), (101002, .ob (.arr false false true (.int .i64))), (22, .keep)]⟩ .nil)) .nil))) .nil)))) .nil)))
--FN 22 35 [.tmp 4] callees [30, 24, 26, 27] self false
/-- slices.choosePivotOrdered[int] -/
def sg45 : TSig := { nargs := 3, pin := ⟨[(0, (.one (.p true false (.sl (.int .i64))))), (1, (.one (.p true false (.int .i64)))), (2, (.one (.p true false (.int .i64))))], []⟩, pout := ⟨[(0, (.one (.p false false (.int .i64)))), (1, (.one (.p false false (.int .i64))))], []⟩, nres := 2, ios := [], news := [] }
def an45 : Ann := (.seq .nil (.seq .nil (.seq .nil (.seq .nil (.seq .nil (.seq .nil (.seq (.seq .nil (.meet false ⟨[(9, .keep), (11, .sl (.one (.p false false (.int .i64))))], [(9, .ob (.box [(.p false false (.int .i64))]))]⟩ (.seq (.seq (.seq .nil (.meet false ⟨[(0, .keep), (9, .keep), (10, .sl (.one (.p false false (.int .i64)))), (11, .sl (.one (.p false false (.int .i64)))), (12, .sl (.one (.p false false (.int .i64))))], [(9, .ob (.box [(.p false false (.int .i64))]))]⟩ (.seq (.seq .nil .nil) .nil))) .nil) .nil))) (.seq .nil (.seq (.seq .nil (.seq .nil (.seq .nil (.seq .nil .nil)))) .nil)))))))))
--FN 45 57 [.tmp 6, .tmp 7] callees [57, 58] self false
/-- warmpath/paging.Faults -/
def sg16 : TSig := { nargs := 2, pin := ⟨[(0, (.agg [(.p true false (.int .i64)), (.p true false (.int .i64)), (.p true false (.int .i64)), (.p true false (.int .i64)), (.p true false (.int .i64)), (.p true false (.int .i64)), (.p true false (.int .i64)), (.p true false (.int .i64)), (.p true false (.int .i64)), (.p true false (.int .i64)), (.p true false (.int .i64)), (.p true false (.int .i64))])), (1, (.one (.p true false (.sl (.st 3)))))], []⟩, pout := ⟨[(0, (.one (.p false false (.int .i64))))], []⟩, nres := 1, ios := [], news := [] }
def an16 : Ann := (.seq .nil (.seq .nil (.seq (.seq .nil (.meet false ⟨[(5, .sl (.one (.p false false (.int .i64))))], []⟩ (.loop ⟨[(5, .sl (.one (.p false false (.int .i64)))), (10, .keep), (11, .keep), (12, .sl (.one (.p false false (.int .i64))))], [(10, .keep)]⟩ (.seq .nil (.seq .nil (.seq (.seq .nil .nil) .nil)))))) .nil)))
--FN 16 21 [.tmp 4] callees [18] self false
/-- slices.Sort[[]int,int] -/
def sg32 : TSig := sgSrt
--HAND 32 Srt
/-- warmpath/paging.Pages -/
def sg20 : TSig := { nargs := 2, pin := ⟨[(0, (.one (.p true false (.int .i64)))), (1, (.one (.p true false (.sl (.st 3)))))], []⟩, pout := ⟨[(0, (.one (.own 20)))], [(20, (.arr false false false (.int .i64)))]⟩, nres := 1, ios := [], news := [20] }
def an20 : Ann := (.seq .nil (.seq .nil (.seq (.seq .nil (.meet false ⟨[(5, .keep)], [(5, .ob (.box [(.own 100001)])), (100001, .ob (.arr false false false (.int .i64)))]⟩ (.range ⟨[(5, .keep), (10, .keep)], [(5, .ob (.box [(.own 100001)])), (100001, .ob (.arr false false false (.int .i64)))]⟩ { nargs := 21, pin := ⟨[(7, (.one (.p true false (.int .i64)))), (5, (.one (.box 5 0)))], [(5, (.box [(.own 100001)])), (100001, (.arr false false true (.int .i64)))]⟩, pout := ⟨[], [(5, (.box [(.own 16)])), (16, (.arr false true true (.int .i64)))]⟩, nres := 0, ios := [5], news := [16] } .nil))) (.seq .nil .nil))))
--FN 20 21 [.tmp 4] callees [30, 32, 33] self false
/-- warmpath/warmpathlaw18.awake -/
def sg7 : TSig := { nargs := 0, pin := ⟨[], []⟩, pout := ⟨[(0, (.one (.p false false .bool)))], []⟩, nres := 1, ios := [], news := [] }
def an7 : Ann := (.seq .nil (.seq .nil (.seq (.seq .nil (.meet false ⟨[(1, .sl (.one (.own 100000)))], [(100000, .ob (.arr false false false (.st 3)))]⟩ (.loop ⟨[(1, .sl (.one (.own 100000))), (4, .keep), (5, .keep), (6, .sl (.one (.p false false (.int .i64))))], [(100000, .ob (.arr false false false (.st 3))), (4, .keep)]⟩ (.seq .nil (.seq .nil (.seq (.seq .nil .nil) .nil)))))) (.seq (.meet false ⟨[(0, .sl (.one (.p false false .bool)))], []⟩ .nil) .nil))))
--FN 7 27 [.tmp 0] callees [22, 12, 20] self false
/-- warmpath/warmpathlaw18.PagingExact -/
def sg3 : TSig := { nargs := 1, pin := ⟨[(0, (.one (.p true false (.sl (.int .u8)))))], []⟩, pout := ⟨[(0, (.one (.p false false .bool)))], []⟩, nres := 1, ios := [], news := [] }
def an3 : Ann := (.seq .nil (.seq (.seq .nil (.seq .nil .nil)) (.seq .nil (.seq .nil (.seq .nil (.seq (.seq .nil (.meet true ⟨[(3, .keep)], [(18, .ob (.box [(.p true false (.sl (.int .u8))), (.p false false (.int .i64))]))]⟩ (.loop ⟨[(3, .keep), (4, .sl (.one (.p false false (.sl (.int .i64))))), (5, .keep), (6, .sl (.one (.p false false (.int .i64))))], [(18, .ob (.box [(.p true false (.sl (.int .u8))), (.p false false (.int .i64))]))]⟩ (.seq (.seq .nil .nil) (.seq (.seq (.seq .nil (.seq .nil (.seq .nil (.seq (.seq (.meet false ⟨[(3, .keep), (5, .keep), (6, .keep), (10, .keep), (52, .sl (.one (.p false false .bool)))], [(18, .keep)]⟩ .nil) (.seq .nil .nil)) .nil)))) .nil) .nil))))) (.seq .nil (.seq (.seq .nil (.meet true ⟨[], []⟩ (.loop ⟨[(12, .sl (.one (.p false false (.sl (.st 3))))), (60, .keep), (61, .keep), (62, .sl (.one (.p false false (.int .i64))))], [(60, .keep)]⟩ (.seq .nil (.seq .nil (.seq (.seq (.seq .nil (.seq (.seq (.meet false ⟨[(12, .keep), (14, .keep), (60, .keep), (61, .keep), (62, .keep), (82, .sl (.one (.p false false .bool)))], [(14, .keep), (60, .keep)]⟩ .nil) (.seq .nil .nil)) (.seq (.meet false ⟨[(12, .keep), (60, .keep), (61, .keep), (62, .keep), (109, .sl (.one (.p false false .bool)))], [(60, .keep)]⟩ .nil) (.seq .nil .nil)))) .nil) .nil)))))) .nil))))))))
--FN 3 111 [.tmp 2] callees [7, 8, 9, 10, 11, 12, 13, 14, 15, 16, 17, 18, 19, 20, 21, 22, 23] self false
/-- warmpath/warmpathlaw18.PagingDistances -/
def sg4 : TSig := { nargs := 1, pin := ⟨[(0, (.one (.p true false (.sl (.int .u8)))))], []⟩, pout := ⟨[(0, (.one (.p false false .bool)))], []⟩, nres := 1, ios := [], news := [] }
def an4 : Ann := (.seq .nil (.seq (.seq .nil (.seq .nil .nil)) (.seq .nil (.seq .nil (.seq .nil (.seq .nil (.seq .nil (.seq (.seq .nil (.meet true ⟨[(4, .keep), (5, .keep), (7, .sl (.one (.p false false (.int .i64))))], [(4, .keep), (16, .keep)]⟩ (.loop ⟨[(4, .keep), (5, .keep), (6, .keep), (7, .sl (.one (.p false false (.int .i64)))), (8, .sl (.one (.p false false (.int .i64))))], [(4, .keep), (16, .keep), (20, .keep)]⟩ (.seq (.seq .nil .nil) (.seq (.seq (.seq (.seq .nil (.seq .nil .nil)) (.seq (.meet false ⟨[(4, .keep), (5, .keep), (6, .keep), (7, .keep), (8, .keep), (45, .sl (.one (.p false false .bool)))], [(4, .keep), (16, .keep), (20, .keep)]⟩ .nil) (.meet false ⟨[(4, .keep), (5, .keep), (6, .keep), (7, .sl (.one (.p false false (.int .i64)))), (8, .keep)], [(4, .keep), (16, .keep), (20, .keep)]⟩ .nil))) .nil) .nil))))) .nil))))))))
--FN 4 53 [.tmp 2] callees [7, 8, 14, 13, 22, 16] self false
/-- warmpath/warmpathlaw18.PagingResident -/
def sg5 : TSig := { nargs := 2, pin := ⟨[(0, (.one (.p true false (.sl (.int .u8))))), (1, (.one (.p true false (.int .u8))))], []⟩, pout := ⟨[(0, (.one (.p false false .bool)))], []⟩, nres := 1, ios := [], news := [] }
def an5 : Ann := (.seq .nil (.seq (.seq .nil (.seq .nil .nil)) (.seq .nil (.seq .nil (.seq .nil (.seq .nil (.seq .nil (.seq .nil (.seq .nil (.seq .nil (.seq (.meet false ⟨[(4, .sl (.one (.p false false .bool)))], []⟩ .nil) .nil)))))))))))
--FN 5 57 [.tmp 4] callees [7, 8, 14, 13, 20, 16] self false
/-- warmpath/warmpathlaw18.PagingSteps -/
def sg6 : TSig := { nargs := 1, pin := ⟨[(0, (.one (.p true false (.sl (.int .u8)))))], []⟩, pout := ⟨[(0, (.one (.p false false .bool)))], []⟩, nres := 1, ios := [], news := [] }
def an6 : Ann := (.seq .nil (.seq (.seq .nil (.seq .nil .nil)) (.seq .nil (.seq .nil (.seq .nil (.seq .nil (.seq .nil (.seq (.seq .nil (.meet true ⟨[(4, .keep), (5, .keep), (7, .sl (.one (.p false false (.int .i64))))], [(4, .keep), (18, .keep)]⟩ (.loop ⟨[(4, .keep), (5, .keep), (6, .sl (.one (.p false false (.sl (.int .i64))))), (7, .sl (.one (.p false false (.int .i64)))), (8, .sl (.one (.p false false (.int .i64))))], [(4, .keep), (18, .keep)]⟩ (.seq (.seq .nil .nil) (.seq (.seq (.seq .nil (.meet true ⟨[(4, .keep), (5, .keep), (6, .sl (.one (.p false false (.sl (.int .i64))))), (7, .sl (.one (.p false false (.int .i64)))), (8, .keep)], [(4, .keep), (18, .keep)]⟩ (.loop ⟨[(4, .keep), (5, .keep), (6, .sl (.one (.p false false (.sl (.int .i64))))), (7, .sl (.one (.p false false (.int .i64)))), (8, .keep), (9, .sl (.one (.p false false (.int .i64))))], [(4, .keep), (18, .keep)]⟩ (.seq (.seq .nil .nil) (.seq (.seq (.seq .nil (.seq .nil (.seq (.seq .nil (.meet false ⟨[(4, .keep), (5, .keep), (6, .keep), (7, .sl (.one (.p false false (.int .i64)))), (8, .keep), (9, .keep)], [(4, .keep), (18, .keep)]⟩ .nil)) (.seq (.meet false ⟨[(4, .keep), (5, .keep), (6, .keep), (7, .keep), (8, .keep), (9, .keep), (79, .sl (.one (.p false false .bool)))], [(4, .keep), (18, .keep)]⟩ .nil) (.seq .nil .nil))))) .nil) .nil))))) .nil) .nil))))) .nil))))))))
--FN 6 85 [.tmp 2] callees [7, 8, 14, 13, 10, 16] self false
end Go.Fg.Ytdddhnagekhihaa
