/-
  Shapes of the functions of the seat, printed by a program (wip/gen/Infer.lean).
-/
import Derived.Test.YtcehajipaclnlaaDoorFwT
import Derived.Test.YtcehajipaclnlaaDoorZd
namespace Go.Fg.YtcehajipaclnlaaDoor
open Go.Fw Go.Proofs
set_option linter.unusedVariables false
def tbl0 : List (List UInt8) := [([] : List UInt8), ([100, 56] : List UInt8), ([100, 97] : List UInt8), ([111, 100, 97] : List UInt8), ([111, 100, 97, 98] : List UInt8), ([100, 49] : List UInt8), ([97, 49] : List UInt8), ([100, 97, 49] : List UInt8), ([97, 98, 49] : List UInt8), ([100] : List UInt8), ([97] : List UInt8), ([100, 52, 110] : List UInt8), ([100, 97, 110] : List UInt8), ([106] : List UInt8), ([97, 106] : List UInt8), ([97, 106] : List UInt8), ([97] : List UInt8), ([50] : List UInt8), ([100, 49] : List UInt8)]
def reC : Nat → Type
  | 0 => Unit
  | 1 => Unit
  | 2 => Unit
  | 3 => Unit
  | 4 => Unit
  | 5 => Unit
  | 6 => Unit
  | 7 => Unit
  | 8 => Unit
  | _ => Unit
def reF : Nat → List Ty
  | 0 => []
  | 1 => []
  | 2 => []
  | 3 => []
  | 4 => []
  | 5 => []
  | 6 => []
  | 7 => []
  | 8 => []
  | _ => []
def reDf : (n : Nat) → reC n
  | 0 => ()
  | 1 => ()
  | 2 => ()
  | 3 => ()
  | 4 => ()
  | 5 => ()
  | 6 => ()
  | 7 => ()
  | 8 => ()
  | _ + 9 => ()
def reUn : (n : Nat) → reC n → List (TP reC)
  | 0, x => []
  | 1, x => []
  | 2, x => []
  | 3, x => []
  | 4, x => []
  | 5, x => []
  | 6, x => []
  | 7, x => []
  | 8, x => []
  | _ + 9, _ => []
def reRo : (n : Nat) → List (TP reC) → reC n
  | 0, ws => ()
  | 1, ws => ()
  | 2, ws => ()
  | 3, ws => ()
  | 4, ws => ()
  | 5, ws => ()
  | 6, ws => ()
  | 7, ws => ()
  | 8, ws => ()
  | _ + 9, _ => ()
def reEr : (n : Nat) → reC n → List P
  | 0, x => []
  | 1, x => []
  | 2, x => []
  | 3, x => []
  | 4, x => []
  | 5, x => []
  | 6, x => []
  | 7, x => []
  | 8, x => []
  | _ + 9, _ => []
theorem reFwd : ∀ n, (reF n).all Ty.word = true
  | 0 => rfl
  | 1 => rfl
  | 2 => rfl
  | 3 => rfl
  | 4 => rfl
  | 5 => rfl
  | 6 => rfl
  | 7 => rfl
  | 8 => rfl
  | _ + 9 => rfl
theorem reUnTy : ∀ (n : Nat) (x : reC n), (reUn n x).map (·.t) = reF n
  | 0, x => rfl
  | 1, x => rfl
  | 2, x => rfl
  | 3, x => rfl
  | 4, x => rfl
  | 5, x => rfl
  | 6, x => rfl
  | 7, x => rfl
  | 8, x => rfl
  | _ + 9, _ => rfl
theorem reUnRo : ∀ (n : Nat) (ws : List (TP reC)), ws.map (·.t) = reF n → reUn n (reRo n ws) = ws
  | 0, ws, h => by
    have e := typed_nil h
    subst e
    rfl
  | 1, ws, h => by
    have e := typed_nil h
    subst e
    rfl
  | 2, ws, h => by
    have e := typed_nil h
    subst e
    rfl
  | 3, ws, h => by
    have e := typed_nil h
    subst e
    rfl
  | 4, ws, h => by
    have e := typed_nil h
    subst e
    rfl
  | 5, ws, h => by
    have e := typed_nil h
    subst e
    rfl
  | 6, ws, h => by
    have e := typed_nil h
    subst e
    rfl
  | 7, ws, h => by
    have e := typed_nil h
    subst e
    rfl
  | 8, ws, h => by
    have e := typed_nil h
    subst e
    rfl
  | _ + 9, ws, h => by have e := typed_nil h; subst e; rfl
theorem reErUn : ∀ (n : Nat) (x : reC n), reEr n x = (reUn n x).map fun w => enc1With (sizeWith reF) (encEWith reF reEr (sizeWith reF)) w.t w.x
  | 0, x => by kernel_rfl
  | 1, x => by kernel_rfl
  | 2, x => by kernel_rfl
  | 3, x => by kernel_rfl
  | 4, x => by kernel_rfl
  | 5, x => by kernel_rfl
  | 6, x => by kernel_rfl
  | 7, x => by kernel_rfl
  | 8, x => by kernel_rfl
  | _ + 9, _ => rfl
def reG : Nat → Option ((e : Ty) × List (D reC e))
  | 0 => some ⟨.str, tbl0⟩
  | _ => none
instance re : RE where
  C := reC
  F := reF
  dflt := reDf
  un := reUn
  ro := reRo
  er := reEr
  Fwd := reFwd
  un_ty := reUnTy
  un_ro := reUnRo
  er_un := reErUn
  G := reG
def etys : List (Nat × Ty) := [(3, (.int .i64)), (5, (.int .u8))]
def ety : TypeId → Option Ty := fun t => etys.lookup t
/-- warmpath/warmpathdraw.New -/
def sg7 : TSig := { nargs := 2, pin := ⟨[(0, (.one (.p true false (.sl (.int .u8))))), (1, (.one (.p true false (.int .i64))))], []⟩, pout := ⟨[(0, (.one (.box 14 0)))], [(14, (.box [(.p true false (.sl (.int .u8))), (.p false false (.int .i64))]))]⟩, nres := 1, ios := [], news := [14] }
def an7 : Ann := (.seq .nil (.seq (.seq .nil (.meet false ⟨[(0, .sl (.one (.p true false (.sl (.int .u8)))))], []⟩ .nil)) .nil))
--FN 7 15 [.tmp 4] callees [] self false
/-- (*warmpath/warmpathdraw.Codes).Next -/
def sg11 : TSig := { nargs := 2, pin := ⟨[(0, (.one (.box 50000 0))), (1, (.one (.p true false (.int .i64))))], [(50000, (.box [(.p false true (.sl (.int .u8))), (.p false true (.int .i64))]))]⟩, pout := ⟨[(0, (.one (.p false false (.int .i64))))], [(50000, (.box [(.p false true (.sl (.int .u8))), (.p false false (.int .i64))]))]⟩, nres := 1, ios := [50000], news := [] }
def an11 : Ann := (.seq .nil (.seq (.seq (.meet false ⟨[(0, .keep), (1, .keep), (19, .sl (.one (.p false false .bool)))], [(50000, .keep)]⟩ .nil) (.seq .nil .nil)) (.seq .nil (.seq .nil (.seq (.seq .nil (.seq .nil .nil)) .nil)))))
--FN 11 50 [.tmp 4] callees [] self true
/-- warmpath/warmpathref01.Equal -/
def sg14 : TSig := { nargs := 2, pin := ⟨[(0, (.one (.p true false (.sl (.int .u8))))), (1, (.one (.p true false (.sl (.int .u8)))))], []⟩, pout := ⟨[(0, (.one (.p false false .bool)))], []⟩, nres := 1, ios := [], news := [] }
def an14 : Ann := (.seq .nil (.seq (.seq .nil (.seq .nil .nil)) (.seq (.seq .nil (.meet true ⟨[], []⟩ (.loop ⟨[(0, .keep), (1, .keep), (5, .sl (.one (.p false false (.int .i64))))], []⟩ (.seq (.seq .nil .nil) (.seq (.seq (.seq .nil (.seq .nil .nil)) .nil) .nil))))) .nil)))
--FN 14 26 [.tmp 4] callees [] self false
/-- (*warmpath/warmpathdraw.Codes).Int -/
def sg15 : TSig := { nargs := 1, pin := ⟨[(0, (.one (.box 50000 0)))], [(50000, (.box [(.p false true (.sl (.int .u8))), (.p false true (.int .i64))]))]⟩, pout := ⟨[(0, (.one (.p false false (.int .i64))))], [(50000, (.box [(.p false true (.sl (.int .u8))), (.p false false (.int .i64))]))]⟩, nres := 1, ios := [50000], news := [] }
def an15 : Ann := (.seq .nil (.seq (.seq .nil (.seq (.seq .nil (.seq .nil (.seq .nil (.seq .nil (.seq .nil (.seq .nil .nil)))))) .nil)) .nil))
--FN 15 27 [.tmp 2] callees [11] self false
/-- warmpath/machine.slots -/
def sg17 : TSig := { nargs := 1, pin := ⟨[(0, (.agg [(.p true false (.int .i64)), (.p true false (.int .i64)), (.p true false (.int .i64)), (.p true false (.int .i64)), (.p true false (.int .i64)), (.p true false (.int .i64)), (.p true false .bool), (.p true false (.sl (.int .i64)))]))], []⟩, pout := ⟨[(0, (.one (.own 100001)))], [(100001, (.arr false true false (.int .i64)))]⟩, nres := 1, ios := [], news := [100001] }
def an17 : Ann := (.seq .nil (.seq .nil (.seq (.seq .nil (.meet false ⟨[(3, .sl (.one (.own 100001)))], [(100001, .ob (.arr false true false (.int .i64)))]⟩ (.loop ⟨[(1, .keep), (3, .sl (.one (.own 100001))), (10, .keep)], [(1, .keep), (100001, .ob (.arr false true false (.int .i64))), (10, .ob .it)]⟩ (.seq .nil (.seq .nil (.seq (.seq .nil (.seq .nil (.seq (.seq .nil (.meet false ⟨[(1, .keep), (3, .sl (.one (.own 104001))), (10, .keep)], [(1, .keep), (104001, .ob (.arr false true false (.int .i64))), (10, .keep)]⟩ (.seq .nil (.seq .nil (.meet false ⟨[(1, .keep), (3, .sl (.one (.own 103001))), (10, .keep)], [(1, .keep), (103001, .ob (.arr false true false (.int .i64))), (10, .keep)]⟩ (.seq .nil (.seq .nil (.meet false ⟨[(1, .keep), (3, .sl (.one (.own 102001))), (10, .keep)], [(1, .keep), (102001, .ob (.arr false true false (.int .i64))), (10, .keep)]⟩ (.seq .nil (.seq .nil (.meet false ⟨[(1, .keep), (3, .sl (.one (.own 101001))), (10, .keep)], [(1, .keep), (101001, .ob (.arr false true false (.int .i64))), (10, .keep)]⟩ .nil))))))))))) .nil))) .nil)))))) .nil)))
--FN 17 43 [.tmp 2] callees [] self false
/-- warmpath/machine.within -/
def sg20 : TSig := { nargs := 3, pin := ⟨[(0, (.one (.p true false (.int .i64)))), (1, (.one (.p true false (.int .i64)))), (2, (.one (.p true false (.int .i64))))], []⟩, pout := ⟨[(0, (.one (.p false false .bool)))], []⟩, nres := 1, ios := [], news := [] }
def an20 : Ann := (.seq .nil (.seq (.meet false ⟨[(6, .sl (.one (.p false false .bool)))], []⟩ .nil) .nil))
--FN 20 15 [.tmp 6] callees [] self false
/-- warmpath/machine.value -/
def sg21 : TSig := { nargs := 1, pin := ⟨[(0, (.agg [(.p true false (.int .i64)), (.p true false (.int .i64)), (.p true false (.int .i64)), (.p true false (.int .i64)), (.p true false (.int .i64)), (.p true false (.int .i64)), (.p true false .bool), (.p true false (.sl (.int .i64)))]))], []⟩, pout := ⟨[(0, (.one (.p false false .bool)))], []⟩, nres := 1, ios := [], news := [] }
def an21 : Ann := (.seq .nil (.seq .nil (.seq (.seq .nil (.seq (.seq (.seq .nil (.meet false ⟨[(1, .keep), (3, .keep), (6, .keep), (7, .sl (.one (.p false false .bool)))], [(1, .keep)]⟩ (.seq .nil (.seq .nil (.meet false ⟨[(1, .keep), (3, .keep), (6, .keep), (7, .sl (.one (.p false false .bool)))], [(1, .keep)]⟩ (.seq .nil (.seq .nil (.meet false ⟨[(1, .keep), (3, .keep), (6, .keep), (7, .sl (.one (.p false false .bool)))], [(1, .keep)]⟩ .nil)))))))) (.meet true ⟨[(1, .keep), (3, .sl (.one (.p false false (.int .i64)))), (4, .sl (.one (.p false false (.int .i64))))], [(1, .keep)]⟩ (.seq .nil (.seq .nil (.meet true ⟨[(1, .keep), (3, .sl (.one (.p false false (.int .i64)))), (4, .sl (.one (.p false false (.int .i64))))], [(1, .keep)]⟩ (.seq .nil (.seq .nil (.meet true ⟨[(1, .keep), (3, .sl (.one (.p false false (.int .i64)))), (4, .sl (.one (.p false false (.int .i64))))], [(1, .keep)]⟩ (.seq .nil (.seq .nil (.meet true ⟨[(1, .keep), (3, .sl (.one (.p false false (.int .i64)))), (4, .sl (.one (.p false false (.int .i64))))], [(1, .keep)]⟩ (.seq .nil (.seq (.seq .nil (.meet false ⟨[(1, .keep), (18, .sl (.one (.p false false .bool)))], [(1, .keep)]⟩ (.seq .nil (.seq .nil (.meet false ⟨[(1, .keep), (18, .sl (.one (.p false false .bool)))], [(1, .keep)]⟩ .nil))))) (.seq (.seq .nil (.seq .nil (.meet false ⟨[(1, .keep), (3, .sl (.one (.p false false (.int .i64)))), (4, .sl (.one (.p false false (.int .i64))))], [(1, .keep)]⟩ .nil))) .nil)))))))))))))) .nil)) .nil)))
--FN 21 29 [.tmp 2] callees [20] self false
/-- warmpath/machine.put -/
def sg22 : TSig := { nargs := 3, pin := ⟨[(0, (.one (.own 55000))), (1, (.one (.p true false (.int .i64)))), (2, (.one (.p true false (.int .i64))))], [(55000, (.arr false false true (.int .u8)))]⟩, pout := ⟨[(0, (.one (.own 100000)))], [(100000, (.arr false false true (.int .u8)))]⟩, nres := 1, ios := [], news := [100000] }
def an22 : Ann := (.seq .nil (.seq (.seq .nil (.meet false ⟨[(0, .sl (.one (.own 100000)))], [(100000, .ob (.arr false false true (.int .u8)))]⟩ (.loop ⟨[(0, .sl (.one (.own 100000))), (1, .keep), (8, .keep), (9, .sl (.one (.p false false (.int .i64))))], [(100000, .ob (.arr false false true (.int .u8)))]⟩ (.seq .nil (.seq .nil (.seq (.seq .nil .nil) .nil)))))) .nil))
--FN 22 23 [.tmp 6] callees [] self false
/-- warmpath/machine.distance -/
def sg23 : TSig := { nargs := 1, pin := ⟨[(0, (.one (.p true false .bool)))], []⟩, pout := ⟨[(0, (.one (.p false false (.int .i64))))], []⟩, nres := 1, ios := [], news := [] }
def an23 : Ann := (.seq .nil (.seq (.seq .nil (.seq .nil .nil)) .nil))
--FN 23 4 [.tmp 2] callees [] self false
/-- warmpath/machine.jumps -/
def sg24 : TSig := { nargs := 1, pin := ⟨[(0, (.one (.p true false (.int .i64))))], []⟩, pout := ⟨[(0, (.one (.p false false .bool)))], []⟩, nres := 1, ios := [], news := [] }
def an24 : Ann := (.seq .nil .nil)
--FN 24 5 [.tmp 2] callees [20] self false
/-- (*warmpath/machine.reader).get -/
def sg25 : TSig := { nargs := 2, pin := ⟨[(0, (.one (.box 50000 0))), (1, (.one (.p true false (.int .i64))))], [(50000, (.box [(.p false true (.sl (.int .u8))), (.p false true (.int .i64)), (.p false true .bool)]))]⟩, pout := ⟨[(0, (.one (.p false false (.int .i64))))], [(50000, (.box [(.p false true (.sl (.int .u8))), (.p false false (.int .i64)), (.p false false .bool)]))]⟩, nres := 1, ios := [50000], news := [] }
def an25 : Ann := (.seq .nil (.seq (.seq (.meet false ⟨[(0, .keep), (1, .keep)], [(50000, .ob (.box [(.p false true (.sl (.int .u8))), (.p false true (.int .i64)), (.p false false .bool)]))]⟩ .nil) (.seq .nil (.seq .nil .nil))) (.seq .nil (.seq (.seq .nil (.meet false ⟨[(0, .keep), (1, .keep), (5, .sl (.one (.p false false (.int .u64))))], [(50000, .keep)]⟩ (.loop ⟨[(0, .keep), (1, .keep), (5, .sl (.one (.p false false (.int .u64)))), (32, .keep), (33, .sl (.one (.p false false (.int .i64))))], [(50000, .keep)]⟩ (.seq .nil (.seq .nil (.seq (.seq .nil .nil) .nil)))))) (.seq .nil .nil)))))
--FN 25 65 [.tmp 4] callees [] self false
/-- (*warmpath/machine.reader).signed -/
def sg26 : TSig := { nargs := 2, pin := ⟨[(0, (.one (.box 50000 0))), (1, (.one (.p true false .bool)))], [(50000, (.box [(.p false true (.sl (.int .u8))), (.p false true (.int .i64)), (.p false true .bool)]))]⟩, pout := ⟨[(0, (.one (.p false false (.int .i64))))], [(50000, (.box [(.p false true (.sl (.int .u8))), (.p false false (.int .i64)), (.p false false .bool)]))]⟩, nres := 1, ios := [50000], news := [] }
def an26 : Ann := (.seq .nil (.seq .nil (.seq (.seq .nil (.seq .nil .nil)) .nil)))
--FN 26 17 [.tmp 4] callees [23, 25] self false
/-- (*warmpath/warmpathdraw.Codes).Code -/
def sg8 : TSig := { nargs := 1, pin := ⟨[(0, (.one (.box 50000 0)))], [(50000, (.box [(.p false true (.sl (.int .u8))), (.p false true (.int .i64))]))]⟩, pout := ⟨[(0, (.agg [(.p false false (.int .i64)), (.p false false (.int .i64)), (.p false false (.int .i64)), (.p false false (.int .i64)), (.p false false (.int .i64)), (.p false false (.int .i64)), (.p false false .bool), (.own 100003)]))], [(50000, (.box [(.p false true (.sl (.int .u8))), (.p false false (.int .i64))])), (100003, (.arr false false false (.int .i64)))]⟩, nres := 1, ios := [50000], news := [100003] }
def an8 : Ann := (.seq .nil (.seq .nil (.seq (.seq .nil (.meet false ⟨[(0, .keep), (2, .keep), (3, .keep)], [(50000, .ob (.box [(.p false true (.sl (.int .u8))), (.p false false (.int .i64))])), (2, .keep), (3, .ob (.box [(.p false false (.int .i64)), (.p false false (.int .i64)), (.p false false (.int .i64)), (.p false false (.int .i64)), (.p false false (.int .i64)), (.p false false (.int .i64)), (.p false false .bool), (.own 100003)])), (100003, .ob (.arr false false false (.int .i64)))]⟩ (.loop ⟨[(0, .keep), (2, .keep), (3, .keep), (4, .sl (.one (.p false false (.int .i64))))], [(50000, .ob (.box [(.p false true (.sl (.int .u8))), (.p false false (.int .i64))])), (2, .keep), (3, .ob (.box [(.p false false (.int .i64)), (.p false false (.int .i64)), (.p false false (.int .i64)), (.p false false (.int .i64)), (.p false false (.int .i64)), (.p false false (.int .i64)), (.p false false .bool), (.own 100003)])), (100003, .ob (.arr false false false (.int .i64)))]⟩ (.seq (.seq .nil .nil) (.seq .nil .nil))))) (.seq (.seq .nil (.meet false ⟨[(0, .keep), (2, .keep), (3, .keep)], [(50000, .ob (.box [(.p false true (.sl (.int .u8))), (.p false false (.int .i64))])), (2, .keep), (3, .ob (.box [(.p false false (.int .i64)), (.p false false (.int .i64)), (.p false false (.int .i64)), (.p false false (.int .i64)), (.p false false (.int .i64)), (.p false false (.int .i64)), (.p false false .bool), (.own 100003)])), (100003, .keep)]⟩ .nil)) (.seq (.seq .nil (.meet false ⟨[(0, .keep), (2, .keep), (3, .keep)], [(50000, .ob (.box [(.p false true (.sl (.int .u8))), (.p false false (.int .i64))])), (2, .keep), (3, .ob (.box [(.p false false (.int .i64)), (.p false false (.int .i64)), (.p false false (.int .i64)), (.p false false (.int .i64)), (.p false false (.int .i64)), (.p false false (.int .i64)), (.p false false .bool), (.own 100003)])), (100003, .keep)]⟩ .nil)) (.seq (.meet false ⟨[(0, .keep), (2, .keep), (3, .keep)], [(50000, .ob (.box [(.p false true (.sl (.int .u8))), (.p false false (.int .i64))])), (2, .keep), (3, .ob (.box [(.p false false (.int .i64)), (.p false false (.int .i64)), (.p false false (.int .i64)), (.p false false (.int .i64)), (.p false false (.int .i64)), (.p false false (.int .i64)), (.p false false .bool), (.own 100003)])), (100003, .keep)]⟩ .nil) (.seq (.seq .nil (.seq (.seq .nil (.meet false ⟨[(2, .keep), (3, .keep)], [(50000, .ob (.box [(.p false true (.sl (.int .u8))), (.p false false (.int .i64))])), (2, .keep), (3, .ob (.box [(.p false false (.int .i64)), (.p false false (.int .i64)), (.p false false (.int .i64)), (.p false false (.int .i64)), (.p false false (.int .i64)), (.p false false (.int .i64)), (.p false false .bool), (.own 100003)])), (100003, .keep)]⟩ (.seq .nil (.seq .nil (.meet false ⟨[(2, .keep), (3, .keep)], [(50000, .ob (.box [(.p false true (.sl (.int .u8))), (.p false false (.int .i64))])), (2, .keep), (3, .ob (.box [(.p false false (.int .i64)), (.p false false (.int .i64)), (.p false false (.int .i64)), (.p false false (.int .i64)), (.p false false (.int .i64)), (.p false false (.int .i64)), (.p false false .bool), (.own 100003)])), (100003, .keep)]⟩ (.seq .nil (.seq .nil (.meet false ⟨[(2, .keep), (3, .keep)], [(50000, .ob (.box [(.p false true (.sl (.int .u8))), (.p false false (.int .i64))])), (2, .keep), (3, .ob (.box [(.p false false (.int .i64)), (.p false false (.int .i64)), (.p false false (.int .i64)), (.p false false (.int .i64)), (.p false false (.int .i64)), (.p false false (.int .i64)), (.p false false .bool), (.own 100003)])), (100003, .keep)]⟩ (.seq .nil (.seq .nil (.meet false ⟨[(2, .keep), (3, .keep)], [(50000, .ob (.box [(.p false true (.sl (.int .u8))), (.p false false (.int .i64))])), (2, .keep), (3, .ob (.box [(.p false false (.int .i64)), (.p false false (.int .i64)), (.p false false (.int .i64)), (.p false false (.int .i64)), (.p false false (.int .i64)), (.p false false (.int .i64)), (.p false false .bool), (.own 100003)])), (100003, .keep)]⟩ .nil))))))))))) .nil)) .nil)))))))
--FN 8 99 [.cell 2 26] callees [11, 15] self false
/-- warmpath/machine.operation -/
def sg16 : TSig := { nargs := 1, pin := ⟨[(0, (.agg [(.p true false (.int .i64)), (.p true false (.int .i64)), (.p true false (.int .i64)), (.p true false (.int .i64)), (.p true false (.int .i64)), (.p true false (.int .i64)), (.p true false .bool), (.p true false (.sl (.int .i64)))]))], []⟩, pout := ⟨[(0, (.one (.p false false .bool)))], []⟩, nres := 1, ios := [], news := [] }
def an16 : Ann := (.seq .nil (.seq (.seq (.seq (.seq .nil (.meet false ⟨[(1, .keep), (3, .sl (.one (.p false false .bool)))], [(1, .keep)]⟩ (.seq .nil (.meet false ⟨[(1, .keep), (3, .sl (.one (.p false false .bool)))], [(1, .keep)]⟩ .nil)))) (.seq .nil (.seq .nil (.seq .nil (.seq .nil (.seq .nil .nil)))))) .nil) .nil))
--FN 16 30 [.tmp 2] callees [20, 24] self false
/-- warmpath/machine.Check$1 -/
def sg19 : TSig := { nargs := 1, pin := ⟨[(0, (.one (.p true false (.int .i64))))], []⟩, pout := ⟨[(0, (.one (.p false false .bool)))], []⟩, nres := 1, ios := [], news := [] }
def an19 : Ann := (.seq .nil .nil)
--FN 19 6 [.tmp 2] callees [20] self false
/-- slices.IndexFunc[[]int,int] -/
def sg27 : TSig := { nargs := 2, pin := ⟨[(0, (.one (.p true false (.sl (.int .i64))))), (1, (.one (.fn 19)))], []⟩, pout := ⟨[(0, (.one (.p false false (.int .i64))))], []⟩, nres := 1, ios := [], news := [] }
def an27 : Ann := (.seq .nil (.seq (.seq .nil (.meet true ⟨[], []⟩ (.loop ⟨[(0, .keep), (1, .keep), (7, .keep), (8, .sl (.one (.p false false (.int .i64))))], []⟩ (.seq .nil (.seq .nil (.seq (.seq (.seq .nil (.seq .nil (.seq .nil .nil))) .nil) .nil)))))) .nil))
--FN 27 19 [.tmp 4] callees [19] self false
/-- slices.ContainsFunc[[]int,int] -/
def sg18 : TSig := { nargs := 2, pin := ⟨[(0, (.one (.p true false (.sl (.int .i64))))), (1, (.one (.fn 19)))], []⟩, pout := ⟨[(0, (.one (.p false false .bool)))], []⟩, nres := 1, ios := [], news := [] }
def an18 : Ann := (.seq .nil .nil)
--FN 18 9 [.tmp 4] callees [27, 19] self false
/-- warmpath/machine.Check -/
def sg9 : TSig := { nargs := 1, pin := ⟨[(0, (.agg [(.p true false (.int .i64)), (.p true false (.int .i64)), (.p true false (.int .i64)), (.p true false (.int .i64)), (.p true false (.int .i64)), (.p true false (.int .i64)), (.p true false .bool), (.p true false (.sl (.int .i64)))]))], []⟩, pout := ⟨[(0, (.one (.p false false (.int .i64))))], []⟩, nres := 1, ios := [], news := [] }
def an9 : Ann := (.seq .nil (.seq (.seq .nil (.seq .nil .nil)) (.seq .nil (.seq (.seq (.meet false ⟨[(1, .keep), (30, .sl (.one (.p false false .bool)))], [(1, .keep)]⟩ .nil) (.seq .nil .nil)) (.seq (.seq .nil (.seq .nil .nil)) .nil)))))
--FN 9 34 [.tmp 2] callees [16, 17, 18, 21] self false
/-- warmpath/machine.Encode -/
def sg12 : TSig := { nargs := 1, pin := ⟨[(0, (.agg [(.p true false (.int .i64)), (.p true false (.int .i64)), (.p true false (.int .i64)), (.p true false (.int .i64)), (.p true false (.int .i64)), (.p true false (.int .i64)), (.p true false .bool), (.p true false (.sl (.int .i64)))]))], []⟩, pout := ⟨[(0, (.one (.own 60000))), (1, (.one (.p false false (.int .i64))))], [(60000, (.arr false false false (.int .u8)))]⟩, nres := 2, ios := [], news := [60000] }
def an12 : Ann := (.seq .nil (.seq (.seq .nil (.seq .nil (.seq .nil .nil))) (.seq .nil (.seq (.seq .nil (.meet false ⟨[(1, .keep), (5, .keep)], [(1, .keep), (18, .ob (.arr false false false (.int .u8)))]⟩ .nil)) (.seq (.seq .nil (.meet false ⟨[(5, .sl (.one (.own 101001)))], [(101001, .ob (.arr false false false (.int .u8)))]⟩ (.loop ⟨[(1, .keep), (5, .sl (.one (.own 101001))), (30, .keep)], [(1, .keep), (101001, .ob (.arr false false false (.int .u8))), (30, .ob .it)]⟩ (.seq .nil (.seq .nil (.seq (.seq .nil (.seq .nil (.seq (.seq .nil (.meet false ⟨[(1, .keep), (5, .sl (.one (.own 109001))), (30, .keep)], [(1, .keep), (109001, .ob (.arr false false false (.int .u8))), (30, .keep)]⟩ (.seq .nil (.seq .nil (.meet false ⟨[(1, .keep), (5, .sl (.one (.own 108001))), (30, .keep)], [(1, .keep), (108001, .ob (.arr false false false (.int .u8))), (30, .keep)]⟩ (.seq .nil (.seq .nil (.meet false ⟨[(1, .keep), (5, .sl (.one (.own 107001))), (30, .keep)], [(1, .keep), (107001, .ob (.arr false false false (.int .u8))), (30, .keep)]⟩ (.seq .nil (.seq .nil (.meet false ⟨[(1, .keep), (5, .sl (.one (.own 106001))), (30, .keep)], [(1, .keep), (106001, .ob (.arr false false false (.int .u8))), (30, .keep)]⟩ (.seq .nil (.seq .nil (.meet false ⟨[(1, .keep), (5, .sl (.one (.own 105001))), (30, .keep)], [(1, .keep), (105001, .ob (.arr false false false (.int .u8))), (30, .keep)]⟩ (.seq .nil (.seq .nil (.meet false ⟨[(1, .keep), (5, .sl (.one (.own 104001))), (30, .keep)], [(1, .keep), (104001, .ob (.arr false false false (.int .u8))), (30, .keep)]⟩ (.seq (.seq .nil (.seq .nil (.meet false ⟨[(1, .keep), (5, .sl (.one (.own 102001))), (30, .keep)], [(1, .keep), (102001, .ob (.arr false false false (.int .u8))), (30, .keep)]⟩ (.loop ⟨[(1, .keep), (5, .sl (.one (.own 102001))), (30, .keep), (83, .keep), (84, .keep), (85, .sl (.one (.p false false (.int .i64))))], [(1, .keep), (102001, .ob (.arr false false false (.int .u8))), (30, .keep)]⟩ (.seq .nil (.seq .nil (.seq (.seq .nil .nil) .nil))))))) .nil)))))))))))))))))) .nil))) .nil)))))) .nil)))))
--FN 12 94 [.tmp 2, .tmp 3] callees [9, 22, 23] self false
/-- warmpath/machine.Decode -/
def sg13 : TSig := { nargs := 2, pin := ⟨[(0, (.one (.p true false (.sl (.int .u8))))), (1, (.one (.p true false (.int .i64))))], []⟩, pout := ⟨[(0, (.agg [(.p false false (.int .i64)), (.p false false (.int .i64)), (.p false false (.int .i64)), (.p false false (.int .i64)), (.p false false (.int .i64)), (.p false false (.int .i64)), (.p false false .bool), (.own 60000)])), (1, (.one (.p false false (.int .i64)))), (2, (.one (.p false false (.int .i64))))], [(60000, (.arr false false false (.int .i64)))]⟩, nres := 3, ios := [], news := [60000] }
def an13 : Ann := (.seq .nil (.seq (.seq (.seq .nil (.seq .nil (.seq .nil (.seq .nil .nil)))) .nil) (.seq .nil (.seq (.seq (.meet false ⟨[(0, .keep), (1, .keep), (4, .keep), (7, .keep), (47, .sl (.one (.p false false .bool)))], [(4, .keep), (7, .keep)]⟩ .nil) (.seq .nil .nil)) (.seq .nil (.seq (.seq .nil (.meet false ⟨[(1, .keep), (4, .keep), (7, .keep), (8, .keep)], [(4, .keep), (7, .ob (.box [(.p false false (.int .i64)), (.p false false (.int .i64)), (.p false false (.int .i64)), (.p false false (.int .i64)), (.p false false (.int .i64)), (.p false false (.int .i64)), (.p false false .bool), (.own 101004)])), (53, .ob (.box [(.p true false (.sl (.int .u8))), (.p false false (.int .i64)), (.p false false .bool)])), (101004, .ob (.arr false false false (.int .i64)))]⟩ (.loop ⟨[(1, .keep), (4, .keep), (7, .keep), (8, .keep), (58, .keep)], [(4, .keep), (7, .ob (.box [(.p false false (.int .i64)), (.p false false (.int .i64)), (.p false false (.int .i64)), (.p false false (.int .i64)), (.p false false (.int .i64)), (.p false false (.int .i64)), (.p false false .bool), (.own 101004)])), (53, .ob (.box [(.p true false (.sl (.int .u8))), (.p false false (.int .i64)), (.p false false .bool)])), (58, .ob .it), (101004, .ob (.arr false false false (.int .i64)))]⟩ (.seq .nil (.seq .nil (.seq (.seq .nil (.seq .nil (.seq (.seq .nil (.meet false ⟨[(1, .keep), (4, .keep), (7, .keep), (8, .keep), (58, .keep)], [(4, .keep), (7, .ob (.box [(.p false false (.int .i64)), (.p false false (.int .i64)), (.p false false (.int .i64)), (.p false false (.int .i64)), (.p false false (.int .i64)), (.p false false (.int .i64)), (.p false false .bool), (.own 109004)])), (53, .ob (.box [(.p true false (.sl (.int .u8))), (.p false false (.int .i64)), (.p false false .bool)])), (58, .keep), (109004, .ob (.arr false false false (.int .i64)))]⟩ (.seq .nil (.seq .nil (.meet false ⟨[(1, .keep), (4, .keep), (7, .keep), (8, .keep), (58, .keep)], [(4, .keep), (7, .ob (.box [(.p false false (.int .i64)), (.p false false (.int .i64)), (.p false false (.int .i64)), (.p false false (.int .i64)), (.p false false (.int .i64)), (.p false false (.int .i64)), (.p false false .bool), (.own 108004)])), (53, .ob (.box [(.p true false (.sl (.int .u8))), (.p false false (.int .i64)), (.p false false .bool)])), (58, .keep), (108004, .ob (.arr false false false (.int .i64)))]⟩ (.seq .nil (.seq .nil (.meet false ⟨[(1, .keep), (4, .keep), (7, .keep), (8, .keep), (58, .keep)], [(4, .keep), (7, .ob (.box [(.p false false (.int .i64)), (.p false false (.int .i64)), (.p false false (.int .i64)), (.p false false (.int .i64)), (.p false false (.int .i64)), (.p false false (.int .i64)), (.p false false .bool), (.own 107004)])), (53, .ob (.box [(.p true false (.sl (.int .u8))), (.p false false (.int .i64)), (.p false false .bool)])), (58, .keep), (107004, .ob (.arr false false false (.int .i64)))]⟩ (.seq .nil (.seq .nil (.meet false ⟨[(1, .keep), (4, .keep), (7, .keep), (8, .keep), (58, .keep)], [(4, .keep), (7, .ob (.box [(.p false false (.int .i64)), (.p false false (.int .i64)), (.p false false (.int .i64)), (.p false false (.int .i64)), (.p false false (.int .i64)), (.p false false (.int .i64)), (.p false false .bool), (.own 106004)])), (53, .ob (.box [(.p true false (.sl (.int .u8))), (.p false false (.int .i64)), (.p false false .bool)])), (58, .keep), (106004, .ob (.arr false false false (.int .i64)))]⟩ (.seq .nil (.seq .nil (.meet false ⟨[(1, .keep), (4, .keep), (7, .keep), (8, .keep), (58, .keep)], [(4, .keep), (7, .ob (.box [(.p false false (.int .i64)), (.p false false (.int .i64)), (.p false false (.int .i64)), (.p false false (.int .i64)), (.p false false (.int .i64)), (.p false false (.int .i64)), (.p false false .bool), (.own 105004)])), (53, .ob (.box [(.p true false (.sl (.int .u8))), (.p false false (.int .i64)), (.p false false .bool)])), (58, .keep), (105004, .ob (.arr false false false (.int .i64)))]⟩ (.seq .nil (.seq .nil (.meet false ⟨[(1, .keep), (4, .keep), (7, .keep), (8, .keep), (58, .keep)], [(4, .keep), (7, .ob (.box [(.p false false (.int .i64)), (.p false false (.int .i64)), (.p false false (.int .i64)), (.p false false (.int .i64)), (.p false false (.int .i64)), (.p false false (.int .i64)), (.p false false .bool), (.own 104004)])), (53, .ob (.box [(.p true false (.sl (.int .u8))), (.p false false (.int .i64)), (.p false false .bool)])), (58, .keep), (104004, .ob (.arr false false false (.int .i64)))]⟩ (.seq (.seq .nil (.meet false ⟨[(1, .keep), (4, .keep), (7, .keep), (8, .keep), (58, .keep)], [(4, .keep), (7, .ob (.box [(.p false false (.int .i64)), (.p false false (.int .i64)), (.p false false (.int .i64)), (.p false false (.int .i64)), (.p false false (.int .i64)), (.p false false (.int .i64)), (.p false false .bool), (.own 102004)])), (53, .ob (.box [(.p true false (.sl (.int .u8))), (.p false false (.int .i64)), (.p false false .bool)])), (58, .keep), (102004, .ob (.arr false false false (.int .i64)))]⟩ (.loop ⟨[(1, .keep), (4, .keep), (7, .keep), (8, .keep), (58, .keep), (99, .keep), (100, .sl (.one (.p false false (.int .i64))))], [(4, .keep), (7, .ob (.box [(.p false false (.int .i64)), (.p false false (.int .i64)), (.p false false (.int .i64)), (.p false false (.int .i64)), (.p false false (.int .i64)), (.p false false (.int .i64)), (.p false false .bool), (.own 102004)])), (53, .ob (.box [(.p true false (.sl (.int .u8))), (.p false false (.int .i64)), (.p false false .bool)])), (58, .keep), (102004, .ob (.arr false false false (.int .i64)))]⟩ (.seq .nil (.seq .nil (.seq .nil .nil)))))) .nil)))))))))))))))))) .nil))) .nil)))))) (.seq (.seq .nil (.seq .nil .nil)) (.seq (.seq .nil (.seq .nil (.seq .nil .nil))) .nil))))))))
--FN 13 128 [.cell 4 26, .tmp 5, .tmp 6] callees [20, 24, 25, 26, 9] self false
/-- warmpath/warmpathlaw12.awake -/
def sg6 : TSig := { nargs := 0, pin := ⟨[], []⟩, pout := ⟨[(0, (.one (.p false false .bool)))], []⟩, nres := 1, ios := [], news := [] }
def an6 : Ann := (.seq .nil (.seq .nil (.seq (.meet false ⟨[(0, .sl (.one (.p false false .bool)))], []⟩ .nil) .nil)))
--FN 6 33 [.tmp 0] callees [12] self false
/-- warmpath/machine.Size -/
def sg10 : TSig := { nargs := 1, pin := ⟨[(0, (.agg [(.p true false (.int .i64)), (.p true false (.int .i64)), (.p true false (.int .i64)), (.p true false (.int .i64)), (.p true false (.int .i64)), (.p true false (.int .i64)), (.p true false .bool), (.p true false (.sl (.int .i64)))]))], []⟩, pout := ⟨[(0, (.one (.p false false (.int .i64))))], []⟩, nres := 1, ios := [], news := [] }
def an10 : Ann := (.seq .nil (.seq .nil .nil))
--FN 10 12 [.tmp 2] callees [12] self false
/-- warmpath/warmpathlaw12.MachineSizes -/
def sg3 : TSig := { nargs := 2, pin := ⟨[(0, (.one (.p true false (.sl (.int .u8))))), (1, (.one (.p true false (.int .i64))))], []⟩, pout := ⟨[(0, (.one (.p false false .bool)))], []⟩, nres := 1, ios := [], news := [] }
def an3 : Ann := (.seq .nil (.seq (.seq .nil (.seq .nil .nil)) (.seq .nil (.seq (.seq .nil (.seq .nil .nil)) (.seq .nil (.seq .nil (.seq .nil (.seq .nil (.seq (.seq .nil (.meet false ⟨[(5, .keep), (6, .keep), (7, .keep), (8, .sl (.one (.p false false (.int .i64))))], [(5, .keep), (6, .keep), (7, .keep), (13, .keep)]⟩ .nil)) (.seq (.meet false ⟨[(4, .sl (.one (.p false false .bool)))], []⟩ .nil) .nil))))))))))
--FN 3 53 [.tmp 4] callees [6, 7, 8, 9, 10] self false
/-- warmpath/warmpathlaw12.MachineStreams -/
def sg4 : TSig := { nargs := 1, pin := ⟨[(0, (.one (.p true false (.sl (.int .u8)))))], []⟩, pout := ⟨[(0, (.one (.p false false .bool)))], []⟩, nres := 1, ios := [], news := [] }
def an4 : Ann := (.seq .nil (.seq (.seq .nil (.seq .nil .nil)) (.seq .nil (.seq .nil (.seq .nil (.seq (.seq .nil (.meet false ⟨[(4, .sl (.one (.own 100001))), (5, .sl (.one (.own 100002)))], [(100001, .ob (.arr false false false (.int .u8))), (100002, .ob (.arr false false false (.int .i64)))]⟩ (.loop ⟨[(3, .keep), (4, .sl (.one (.own 100001))), (5, .sl (.one (.own 100002))), (6, .sl (.one (.p false false (.int .i64))))], [(20, .ob (.box [(.p true false (.sl (.int .u8))), (.p false false (.int .i64))])), (100001, .ob (.arr false false false (.int .u8))), (100002, .ob (.arr false false false (.int .i64)))]⟩ (.seq (.seq .nil .nil) (.seq (.seq (.seq .nil (.seq .nil (.meet false ⟨[(3, .keep), (4, .sl (.one (.own 101001))), (5, .sl (.one (.own 101002))), (6, .keep)], [(20, .keep), (101001, .ob (.arr false false false (.int .u8))), (101002, .ob (.arr false false false (.int .i64)))]⟩ .nil))) .nil) .nil))))) (.seq .nil (.seq (.seq .nil (.meet true ⟨[(4, .keep), (9, .sl (.one (.p false false (.int .i64))))], [(100001, .keep)]⟩ (.loop ⟨[(4, .keep), (5, .keep), (9, .sl (.one (.p false false (.int .i64)))), (10, .sl (.one (.p false false (.int .i64))))], [(100001, .keep), (100002, .keep)]⟩ (.seq (.seq .nil .nil) (.seq (.seq (.seq .nil (.seq (.seq (.meet false ⟨[(4, .keep), (5, .keep), (9, .keep), (10, .keep), (12, .keep), (65, .sl (.one (.p false false .bool)))], [(100001, .keep), (100002, .keep)]⟩ .nil) (.seq .nil .nil)) .nil)) .nil) .nil))))) (.seq .nil (.seq (.meet false ⟨[(2, .sl (.one (.p false false .bool)))], []⟩ .nil) .nil))))))))))
--FN 4 84 [.tmp 2] callees [6, 7, 11, 8, 12, 13] self false
/-- warmpath/warmpathlaw12.MachineBack -/
def sg5 : TSig := { nargs := 3, pin := ⟨[(0, (.one (.p true false (.sl (.int .u8))))), (1, (.one (.p true false (.sl (.int .u8))))), (2, (.one (.p true false (.sl (.int .u8)))))], []⟩, pout := ⟨[(0, (.one (.p false false .bool)))], []⟩, nres := 1, ios := [], news := [] }
def an5 : Ann := (.seq .nil (.seq (.seq (.meet false ⟨[(0, .keep), (1, .keep), (2, .keep), (26, .sl (.one (.p false false .bool)))], []⟩ .nil) (.seq (.seq (.meet false ⟨[(6, .sl (.one (.p false false .bool)))], []⟩ .nil) .nil) .nil)) (.seq .nil (.seq .nil (.seq (.seq .nil (.seq (.seq (.meet false ⟨[(6, .sl (.one (.p false false .bool)))], []⟩ .nil) .nil) .nil)) (.seq .nil (.seq .nil (.seq (.meet false ⟨[(6, .sl (.one (.p false false .bool)))], []⟩ .nil) .nil))))))))
--FN 5 101 [.tmp 6] callees [6, 7, 8, 12, 10, 13, 14] self false
end Go.Fg.YtcehajipaclnlaaDoor
