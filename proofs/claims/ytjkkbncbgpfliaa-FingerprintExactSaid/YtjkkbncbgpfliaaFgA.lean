/-
  Shapes of the functions of the seat, printed by a program (wip/gen/Infer.lean).
-/
import Derived.Test.YtjkkbncbgpfliaaFwT
import Derived.Test.YtjkkbncbgpfliaaZe
namespace Go.Fg.Ytjkkbncbgpfliaa
open Go.Fw Go.Proofs Go.Fw.Ytjkkbncbgpfliaa
set_option linter.unusedVariables false
def reC : Nat → Type
  | 0 => Unit
  | 1 => Unit
  | 2 => Unit
  | 3 => Unit
  | 4 => Unit
  | 5 => Unit
  | 6 => Unit
  | _ => Unit
def reF : Nat → List Ty
  | 0 => []
  | 1 => []
  | 2 => []
  | 3 => []
  | 4 => []
  | 5 => []
  | 6 => []
  | _ => []
def reDf : (n : Nat) → reC n
  | 0 => ()
  | 1 => ()
  | 2 => ()
  | 3 => ()
  | 4 => ()
  | 5 => ()
  | 6 => ()
  | _ + 7 => ()
def reUn : (n : Nat) → reC n → List (TP reC)
  | 0, x => []
  | 1, x => []
  | 2, x => []
  | 3, x => []
  | 4, x => []
  | 5, x => []
  | 6, x => []
  | _ + 7, _ => []
def reRo : (n : Nat) → List (TP reC) → reC n
  | 0, ws => ()
  | 1, ws => ()
  | 2, ws => ()
  | 3, ws => ()
  | 4, ws => ()
  | 5, ws => ()
  | 6, ws => ()
  | _ + 7, _ => ()
def reEr : (n : Nat) → reC n → List P
  | 0, x => []
  | 1, x => []
  | 2, x => []
  | 3, x => []
  | 4, x => []
  | 5, x => []
  | 6, x => []
  | _ + 7, _ => []
theorem reFwd : ∀ n, (reF n).all Ty.word = true
  | 0 => rfl
  | 1 => rfl
  | 2 => rfl
  | 3 => rfl
  | 4 => rfl
  | 5 => rfl
  | 6 => rfl
  | _ + 7 => rfl
theorem reUnTy : ∀ (n : Nat) (x : reC n), (reUn n x).map (·.t) = reF n
  | 0, x => rfl
  | 1, x => rfl
  | 2, x => rfl
  | 3, x => rfl
  | 4, x => rfl
  | 5, x => rfl
  | 6, x => rfl
  | _ + 7, _ => rfl
theorem reUnRo : ∀ (n : Nat) (ws : List (TP reC)), ws.map (·.t) = reF n → reUn n (reRo n ws) = ws
  | 0, ws, h => by
    have e := typed_nil h
    subst e
    rfl
  | 1, ws, h => by
    have e := typed_nil h
    subst e
    rfl
  | 2, ws, h => by
    have e := typed_nil h
    subst e
    rfl
  | 3, ws, h => by
    have e := typed_nil h
    subst e
    rfl
  | 4, ws, h => by
    have e := typed_nil h
    subst e
    rfl
  | 5, ws, h => by
    have e := typed_nil h
    subst e
    rfl
  | 6, ws, h => by
    have e := typed_nil h
    subst e
    rfl
  | _ + 7, ws, h => by have e := typed_nil h; subst e; rfl
theorem reErUn : ∀ (n : Nat) (x : reC n), reEr n x = (reUn n x).map fun w => enc1With (sizeWith reF) (encEWith reF reEr (sizeWith reF)) w.t w.x
  | 0, x => by kernel_rfl
  | 1, x => by kernel_rfl
  | 2, x => by kernel_rfl
  | 3, x => by kernel_rfl
  | 4, x => by kernel_rfl
  | 5, x => by kernel_rfl
  | 6, x => by kernel_rfl
  | _ + 7, _ => rfl
def reG : Nat → Option ((e : Ty) × List (D reC e))
  | _ => none
instance re : RE where
  C := reC
  F := reF
  dflt := reDf
  un := reUn
  ro := reRo
  er := reEr
  Fwd := reFwd
  un_ty := reUnTy
  un_ro := reUnRo
  er_un := reErUn
  G := reG
theorem mixed : Fit Try.prog := ⟨Fw.Ytjkkbncbgpfliaa.mixed0, fun _ _ _ _ h => h.elim⟩
def etys : List (Nat × Ty) := [(5, (.int .u8)), (22, (.int .u64))]
def ety : TypeId → Option Ty := fun t => etys.lookup t
/-- warmpath/fingerprint.Scramble -/
def sg7 : TSig := { nargs := 1, pin := ⟨[(0, (.one (.p true false (.int .u64))))], []⟩, pout := ⟨[(0, (.one (.p false false (.int .u64))))], []⟩, nres := 1, ios := [], news := [] }
def an7 : Ann := (.seq .nil (.seq .nil (.seq .nil .nil)))
--FN 7 17 [.tmp 2] callees [] ring [] ety ety
/-- warmpath/fingerprint.Join -/
def sg8 : TSig := { nargs := 2, pin := ⟨[(0, (.one (.p true false (.int .u64)))), (1, (.one (.p true false (.int .u64))))], []⟩, pout := ⟨[(0, (.one (.p false false (.int .u64))))], []⟩, nres := 1, ios := [], news := [] }
def an8 : Ann := (.seq .nil .nil)
--FN 8 12 [.tmp 4] callees [7] ring [] ety ety
/-- warmpath/warmpathdraw.New -/
def sg9 : TSig := { nargs := 2, pin := ⟨[(0, (.one (.p true false (.sl (.int .u8))))), (1, (.one (.p true false (.int .i64))))], []⟩, pout := ⟨[(0, (.one (.box 14 0)))], [(14, (.box [(.p true false (.sl (.int .u8))), (.p false false (.int .i64))]))]⟩, nres := 1, ios := [], news := [14] }
def an9 : Ann := (.seq .nil (.seq (.seq .nil (.meet false ⟨[(0, .sl (.one (.p true false (.sl (.int .u8)))))], []⟩ .nil)) .nil))
--FN 9 15 [.tmp 4] callees [] ring [] ety ety
/-- (*warmpath/warmpathdraw.Codes).Next -/
def sg10 : TSig := { nargs := 2, pin := ⟨[(0, (.one (.box 50000 0))), (1, (.one (.p true false (.int .i64))))], [(50000, (.box [(.p false true (.sl (.int .u8))), (.p false true (.int .i64))]))]⟩, pout := ⟨[(0, (.one (.p false false (.int .i64))))], [(50000, (.box [(.p false true (.sl (.int .u8))), (.p false false (.int .i64))]))]⟩, nres := 1, ios := [50000], news := [] }
def an10 : Ann := (.seq .nil (.seq (.seq (.meet false ⟨[(0, .keep), (1, .keep), (19, .sl (.one (.p false false .bool)))], [(50000, .keep)]⟩ .nil) (.seq .nil .nil)) (.seq .nil (.seq .nil (.seq (.seq .nil (.seq .nil .nil)) .nil)))))
--FN 10 50 [.tmp 4] callees [] ring [10] ety ety
/-- warmpath/fingerprint.Set -/
def sg11 : TSig := { nargs := 1, pin := ⟨[(0, (.one (.p true false (.sl (.int .u64)))))], []⟩, pout := ⟨[(0, (.one (.p false false (.int .u64))))], []⟩, nres := 1, ios := [], news := [] }
def an11 : Ann := (.seq .nil (.seq .nil (.seq (.seq .nil (.meet false ⟨[(0, .keep), (3, .sl (.one (.p false false (.int .u64))))], []⟩ (.loop ⟨[(0, .keep), (3, .sl (.one (.p false false (.int .u64)))), (6, .keep), (7, .keep), (8, .sl (.one (.p false false (.int .i64))))], []⟩ (.seq .nil (.seq .nil (.seq (.seq .nil .nil) .nil)))))) .nil)))
--FN 11 23 [.tmp 2] callees [7, 8] ring [] ety ety
/-- warmpath/fingerprint.List -/
def sg13 : TSig := { nargs := 1, pin := ⟨[(0, (.one (.p true false (.sl (.int .u64)))))], []⟩, pout := ⟨[(0, (.one (.p false false (.int .u64))))], []⟩, nres := 1, ios := [], news := [] }
def an13 : Ann := (.seq .nil (.seq .nil (.seq (.seq .nil (.meet false ⟨[(3, .sl (.one (.p false false (.int .u64))))], []⟩ (.loop ⟨[(3, .sl (.one (.p false false (.int .u64)))), (9, .keep), (10, .keep), (11, .sl (.one (.p false false (.int .i64))))], []⟩ (.seq .nil (.seq .nil (.seq (.seq .nil .nil) .nil)))))) .nil)))
--FN 13 20 [.tmp 2] callees [8] ring [] ety ety
/-- warmpath/warmpathref02.Scramble -/
def sg14 : TSig := { nargs := 1, pin := ⟨[(0, (.one (.p true false (.int .u64))))], []⟩, pout := ⟨[(0, (.one (.p false false (.int .u64))))], []⟩, nres := 1, ios := [], news := [] }
def an14 : Ann := (.seq .nil (.seq .nil (.seq .nil .nil)))
--FN 14 17 [.tmp 2] callees [] ring [] ety ety
/-- warmpath/warmpathref02.Join -/
def sg15 : TSig := { nargs := 2, pin := ⟨[(0, (.one (.p true false (.int .u64)))), (1, (.one (.p true false (.int .u64))))], []⟩, pout := ⟨[(0, (.one (.p false false (.int .u64))))], []⟩, nres := 1, ios := [], news := [] }
def an15 : Ann := (.seq .nil .nil)
--FN 15 12 [.tmp 4] callees [14] ring [] ety ety
/-- warmpath/fingerprint.Bytes -/
def sg16 : TSig := { nargs := 1, pin := ⟨[(0, (.one (.p true false (.sl (.int .u8)))))], []⟩, pout := ⟨[(0, (.one (.p false false (.int .u64))))], []⟩, nres := 1, ios := [], news := [] }
def an16 : Ann := (.seq .nil (.seq .nil (.seq (.seq .nil (.meet false ⟨[(3, .sl (.one (.p false false (.int .u64))))], []⟩ (.loop ⟨[(3, .sl (.one (.p false false (.int .u64)))), (6, .keep), (7, .keep), (8, .sl (.one (.p false false (.int .i64))))], []⟩ (.seq .nil (.seq .nil (.seq (.seq .nil .nil) .nil)))))) .nil)))
--FN 16 20 [.tmp 2] callees [7] ring [] ety ety
/-- warmpath/warmpathref02.Bytes -/
def sg17 : TSig := { nargs := 1, pin := ⟨[(0, (.one (.p true false (.sl (.int .u8)))))], []⟩, pout := ⟨[(0, (.one (.p false false (.int .u64))))], []⟩, nres := 1, ios := [], news := [] }
def an17 : Ann := (.seq .nil (.seq .nil (.seq (.seq .nil (.meet false ⟨[(3, .sl (.one (.p false false (.int .u64))))], []⟩ (.loop ⟨[(0, .keep), (3, .sl (.one (.p false false (.int .u64)))), (4, .sl (.one (.p false false (.int .i64))))], []⟩ (.seq (.seq .nil .nil) (.seq .nil .nil))))) .nil)))
--FN 17 21 [.tmp 2] callees [14] ring [] ety ety
/-- warmpath/fingerprint.Text -/
def sg18 : TSig := { nargs := 1, pin := ⟨[(0, (.one (.p true false .str)))], []⟩, pout := ⟨[(0, (.one (.p false false (.int .u64))))], []⟩, nres := 1, ios := [], news := [] }
def an18 : Ann := (.seq .nil .nil)
--FN 18 6 [.tmp 2] callees [16] ring [] ety ety
/-- warmpath/warmpathref02.Text -/
def sg19 : TSig := { nargs := 1, pin := ⟨[(0, (.one (.p true false .str)))], []⟩, pout := ⟨[(0, (.one (.p false false (.int .u64))))], []⟩, nres := 1, ios := [], news := [] }
def an19 : Ann := (.seq .nil .nil)
--FN 19 6 [.tmp 2] callees [17] ring [] ety ety
/-- warmpath/warmpathref02.List -/
def sg20 : TSig := { nargs := 1, pin := ⟨[(0, (.one (.p true false (.sl (.int .u64)))))], []⟩, pout := ⟨[(0, (.one (.p false false (.int .u64))))], []⟩, nres := 1, ios := [], news := [] }
def an20 : Ann := (.seq .nil (.seq .nil (.seq (.seq .nil (.meet false ⟨[(3, .sl (.one (.p false false (.int .u64))))], []⟩ (.loop ⟨[(0, .keep), (3, .sl (.one (.p false false (.int .u64)))), (4, .sl (.one (.p false false (.int .i64))))], []⟩ (.seq (.seq .nil .nil) (.seq .nil .nil))))) .nil)))
--FN 20 21 [.tmp 2] callees [15] ring [] ety ety
/-- warmpath/warmpathref02.Set -/
def sg21 : TSig := { nargs := 1, pin := ⟨[(0, (.one (.p true false (.sl (.int .u64)))))], []⟩, pout := ⟨[(0, (.one (.p false false (.int .u64))))], []⟩, nres := 1, ios := [], news := [] }
def an21 : Ann := (.seq .nil (.seq .nil (.seq (.seq .nil (.meet false ⟨[(0, .keep), (3, .sl (.one (.p false false (.int .u64))))], []⟩ (.loop ⟨[(0, .keep), (3, .sl (.one (.p false false (.int .u64)))), (4, .sl (.one (.p false false (.int .i64))))], []⟩ (.seq (.seq .nil .nil) (.seq .nil .nil))))) .nil)))
--FN 21 24 [.tmp 2] callees [14, 15] ring [] ety ety
/-- warmpath/warmpathref02.Distinct -/
def sg22 : TSig := { nargs := 1, pin := ⟨[(0, (.one (.p true false (.sl (.int .u64)))))], []⟩, pout := ⟨[(0, (.one (.p false false (.int .u64))))], []⟩, nres := 1, ios := [], news := [] }
def an22 : Ann := (.seq .nil (.seq .nil (.seq (.seq .nil (.meet false ⟨[(3, .sl (.one (.own 100000)))], [(100000, .ob (.arr false true false (.int .u64)))]⟩ (.loop ⟨[(0, .keep), (3, .sl (.one (.own 100000))), (4, .sl (.one (.p false false (.int .i64))))], [(100000, .ob (.arr false true false (.int .u64)))]⟩ (.seq (.seq .nil .nil) (.seq (.seq (.seq .nil (.seq (.seq .nil (.meet false ⟨[(0, .keep), (3, .keep), (4, .keep), (5, .sl (.one (.p false false .bool)))], [(100000, .keep)]⟩ (.loop ⟨[(0, .keep), (3, .keep), (4, .keep), (5, .sl (.one (.p false false .bool))), (6, .sl (.one (.p false false (.int .i64))))], [(100000, .keep)]⟩ (.seq (.seq .nil .nil) (.seq (.seq (.meet false ⟨[(0, .keep), (3, .keep), (4, .keep), (5, .sl (.one (.p false false .bool))), (6, .keep)], [(100000, .keep)]⟩ .nil) .nil) .nil))))) (.seq .nil (.meet false ⟨[(0, .keep), (3, .sl (.one (.own 104000))), (4, .keep)], [(104000, .ob (.arr false true false (.int .u64)))]⟩ .nil)))) .nil) .nil))))) .nil)))
--FN 22 42 [.tmp 2] callees [21] ring [] ety ety
/-- slices.Clone[[]uint64,uint64] -/
def sg23 : TSig := { nargs := 1, pin := ⟨[(0, (.one (.p true false (.sl (.int .u64)))))], []⟩, pout := ⟨[(0, (.one (.own 60000)))], [(60000, (.arr false true false (.int .u64)))]⟩, nres := 1, ios := [], news := [60000] }
def an23 : Ann := (.seq .nil (.seq (.seq .nil (.seq .nil .nil)) .nil))
--FN 23 8 [.tmp 2] callees [] ring [] ety ety
/-- slices.Compact[[]uint64,uint64] -/
def sg25 : TSig := { nargs := 1, pin := ⟨[(0, (.one (.own 55000)))], [(55000, (.arr false false true (.int .u64)))]⟩, pout := ⟨[(0, (.one (.p false true (.sl (.int .u64)))))], []⟩, nres := 1, ios := [], news := [] }
def an25 : Ann := (.seq .nil (.seq (.seq .nil (.seq .nil .nil)) (.seq (.seq .nil (.meet true ⟨[(0, .keep)], [(55000, .keep)]⟩ (.loop ⟨[(0, .keep), (3, .sl (.one (.p false false (.int .i64))))], [(55000, .keep)]⟩ (.seq (.seq .nil .nil) (.seq (.seq (.seq .nil (.seq (.seq .nil (.seq (.seq .nil (.meet false ⟨[(0, .keep), (3, .sl (.one (.p false false (.int .i64))))], [(55000, .ob (.arr false false true (.int .u64)))]⟩ (.loop ⟨[(0, .keep), (3, .sl (.one (.p false false (.int .i64)))), (4, .keep), (5, .sl (.one (.p false false (.int .i64))))], [(55000, .ob (.arr false false true (.int .u64)))]⟩ (.seq (.seq .nil .nil) (.seq (.seq (.seq .nil (.meet false ⟨[(0, .keep), (3, .sl (.one (.p false false (.int .i64)))), (4, .keep), (5, .keep)], [(55000, .ob (.arr false false true (.int .u64)))]⟩ (.seq .nil .nil))) .nil) .nil))))) (.seq .nil .nil))) .nil)) .nil) .nil))))) .nil)))
--FN 25 61 [.tmp 2] callees [] ring [] ety ety
/-- slices.reverseRangeOrdered[uint64] -/
def sg32 : TSig := { nargs := 3, pin := ⟨[(0, (.one (.own 55000))), (1, (.one (.p true false (.int .i64)))), (2, (.one (.p true false (.int .i64))))], [(55000, (.arr false false true (.int .u64)))]⟩, pout := ⟨[], [(55000, (.arr false false true (.int .u64)))]⟩, nres := 0, ios := [55000], news := [] }
def an32 : Ann := (.seq .nil (.seq .nil (.meet false ⟨[], [(55000, .ob (.arr false false true (.int .u64)))]⟩ (.loop ⟨[(0, .keep), (6, .sl (.one (.p true false (.int .i64)))), (7, .sl (.one (.p false false (.int .i64))))], [(55000, .ob (.arr false false true (.int .u64)))]⟩ (.seq (.seq .nil .nil) (.seq (.seq .nil .nil) .nil))))))
--FN 32 32 [] callees [] ring [] ety ety
/-- math/bits.Len32 -/
def sg37 : TSig := { nargs := 1, pin := ⟨[(0, (.one (.p true false (.int .u32))))], []⟩, pout := ⟨[(0, (.one (.p false false (.int .i64))))], []⟩, nres := 1, ios := [], news := [] }
def an37 : Ann := (.seq .nil (.seq (.seq .nil (.meet false ⟨[(0, .sl (.one (.p true false (.int .u32)))), (2, .sl (.one (.p false false (.int .i64))))], []⟩ (.seq .nil .nil))) (.seq (.seq .nil (.meet false ⟨[(0, .sl (.one (.p true false (.int .u32)))), (2, .sl (.one (.p false false (.int .i64))))], []⟩ (.seq .nil .nil))) .nil)))
--FN 37 19 [.tmp 2] callees [] ring [] ety ety
/-- math/bits.Len64 -/
def sg38 : TSig := { nargs := 1, pin := ⟨[(0, (.one (.p true false (.int .u64))))], []⟩, pout := ⟨[(0, (.one (.p false false (.int .i64))))], []⟩, nres := 1, ios := [], news := [] }
def an38 : Ann := (.seq .nil (.seq (.seq .nil (.meet false ⟨[(0, .sl (.one (.p true false (.int .u64)))), (2, .sl (.one (.p false false (.int .i64))))], []⟩ (.seq .nil .nil))) (.seq (.seq .nil (.meet false ⟨[(0, .sl (.one (.p true false (.int .u64)))), (2, .sl (.one (.p false false (.int .i64))))], []⟩ (.seq .nil .nil))) (.seq (.seq .nil (.meet false ⟨[(0, .sl (.one (.p true false (.int .u64)))), (2, .sl (.one (.p false false (.int .i64))))], []⟩ (.seq .nil .nil))) .nil))))
--FN 38 25 [.tmp 2] callees [] ring [] ety ety
/-- (*slices.xorshift).Next -/
def sg41 : TSig := { nargs := 1, pin := ⟨[(0, (.one (.box 50000 0)))], [(50000, (.box [(.p false true (.int .u64))]))]⟩, pout := ⟨[(0, (.one (.p false false (.int .u64))))], [(50000, (.box [(.p false false (.int .u64))]))]⟩, nres := 1, ios := [50000], news := [] }
def an41 : Ann := (.seq .nil (.seq .nil (.seq .nil (.seq .nil .nil))))
--FN 41 33 [.tmp 2] callees [] ring [] ety ety
/-- cmp.isNaN[uint64] -/
def sg44 : TSig := { nargs := 1, pin := ⟨[(0, (.one (.p true false (.int .u64))))], []⟩, pout := ⟨[(0, (.one (.p false false .bool)))], []⟩, nres := 1, ios := [], news := [] }
def an44 : Ann := (.seq .nil .nil)
--FN 44 6 [.tmp 2] callees [] ring [] ety ety
/-- warmpath/warmpathlaw02.awake -/
def sg6 : TSig := { nargs := 0, pin := ⟨[], []⟩, pout := ⟨[(0, (.one (.p false false .bool)))], []⟩, nres := 1, ios := [], news := [] }
def an6 : Ann := (.seq .nil (.seq (.meet false ⟨[(0, .sl (.one (.p false false .bool)))], []⟩ .nil) .nil))
--FN 6 8 [.tmp 0] callees [16, 14, 7] ring [] ety ety
/-- math/bits.Len -/
def sg27 : TSig := { nargs := 1, pin := ⟨[(0, (.one (.p true false (.int .u64))))], []⟩, pout := ⟨[(0, (.one (.p false false (.int .i64))))], []⟩, nres := 1, ios := [], news := [] }
def an27 : Ann := (.seq .nil (.seq .nil .nil))
--FN 27 8 [.tmp 2] callees [37, 38] ring [] ety ety
/-- cmp.Less[uint64] -/
def sg34 : TSig := { nargs := 2, pin := ⟨[(0, (.one (.p true false (.int .u64)))), (1, (.one (.p true false (.int .u64))))], []⟩, pout := ⟨[(0, (.one (.p false false .bool)))], []⟩, nres := 1, ios := [], news := [] }
def an34 : Ann := (.seq .nil (.seq (.meet false ⟨[(4, .sl (.one (.p false false .bool)))], []⟩ .nil) .nil))
--FN 34 17 [.tmp 4] callees [44] ring [] ety ety
/-- slices.partitionEqualOrdered[uint64] -/
def sg35 : TSig := { nargs := 4, pin := ⟨[(0, (.one (.own 55000))), (1, (.one (.p true false (.int .i64)))), (2, (.one (.p true false (.int .i64)))), (3, (.one (.p true false (.int .i64))))], [(55000, (.arr false false true (.int .u64)))]⟩, pout := ⟨[(0, (.one (.p false false (.int .i64))))], [(55000, (.arr false false true (.int .u64)))]⟩, nres := 1, ios := [55000], news := [] }
def an35 : Ann := (.seq .nil (.seq .nil (.seq .nil (.seq (.meet false ⟨[(9, .sl (.one (.p false false (.int .i64))))], [(55000, .ob (.arr false false true (.int .u64)))]⟩ (.loop ⟨[(0, .keep), (1, .keep), (9, .sl (.one (.p false false (.int .i64)))), (10, .sl (.one (.p false false (.int .i64))))], [(55000, .ob (.arr false false true (.int .u64)))]⟩ (.seq (.seq (.meet false ⟨[(0, .keep), (1, .keep), (9, .sl (.one (.p false false (.int .i64)))), (10, .keep)], [(55000, .keep)]⟩ (.loop ⟨[(0, .keep), (1, .keep), (9, .sl (.one (.p false false (.int .i64)))), (10, .keep)], [(55000, .keep)]⟩ (.seq (.seq (.meet false ⟨[(0, .keep), (1, .keep), (9, .keep), (10, .keep), (43, .sl (.one (.p false false .bool)))], [(55000, .keep)]⟩ .nil) .nil) .nil))) (.seq (.meet false ⟨[(0, .keep), (1, .keep), (9, .keep), (10, .sl (.one (.p false false (.int .i64))))], [(55000, .keep)]⟩ (.loop ⟨[(0, .keep), (1, .keep), (9, .keep), (10, .sl (.one (.p false false (.int .i64))))], [(55000, .keep)]⟩ (.seq (.seq (.meet false ⟨[(0, .keep), (1, .keep), (9, .keep), (10, .keep), (59, .sl (.one (.p false false .bool)))], [(55000, .keep)]⟩ .nil) .nil) .nil))) (.seq (.seq .nil .nil) (.seq .nil .nil)))) .nil))) .nil))))
--FN 35 84 [.tmp 8] callees [34] ring [] ety ety
/-- slices.partitionOrdered[uint64] -/
def sg36 : TSig := { nargs := 4, pin := ⟨[(0, (.one (.own 55000))), (1, (.one (.p true false (.int .i64)))), (2, (.one (.p true false (.int .i64)))), (3, (.one (.p true false (.int .i64))))], [(55000, (.arr false false true (.int .u64)))]⟩, pout := ⟨[(0, (.one (.p false false (.int .i64)))), (1, (.one (.p false false .bool)))], [(55000, (.arr false false true (.int .u64)))]⟩, nres := 2, ios := [55000], news := [] }
def an36 : Ann := (.seq .nil (.seq .nil (.seq .nil (.seq (.meet false ⟨[(0, .keep), (1, .keep), (10, .sl (.one (.p false false (.int .i64)))), (11, .keep)], [(55000, .keep)]⟩ (.loop ⟨[(0, .keep), (1, .keep), (10, .sl (.one (.p false false (.int .i64)))), (11, .keep)], [(55000, .keep)]⟩ (.seq (.seq (.meet false ⟨[(0, .keep), (1, .keep), (10, .keep), (11, .keep), (43, .sl (.one (.p false false .bool)))], [(55000, .keep)]⟩ .nil) .nil) .nil))) (.seq (.meet false ⟨[(0, .keep), (1, .keep), (10, .keep), (11, .sl (.one (.p false false (.int .i64))))], [(55000, .keep)]⟩ (.loop ⟨[(0, .keep), (1, .keep), (10, .keep), (11, .sl (.one (.p false false (.int .i64))))], [(55000, .keep)]⟩ (.seq (.seq (.meet false ⟨[(0, .keep), (1, .keep), (10, .keep), (11, .keep), (60, .sl (.one (.p false false .bool)))], [(55000, .keep)]⟩ .nil) .nil) .nil))) (.seq (.seq .nil (.seq (.seq .nil .nil) .nil)) (.seq .nil (.seq .nil (.seq .nil (.seq (.meet false ⟨[(0, .keep), (1, .keep), (11, .sl (.one (.p false false (.int .i64))))], [(55000, .ob (.arr false false true (.int .u64)))]⟩ (.loop ⟨[(0, .keep), (1, .keep), (10, .sl (.one (.p false false (.int .i64)))), (11, .sl (.one (.p false false (.int .i64))))], [(55000, .ob (.arr false false true (.int .u64)))]⟩ (.seq (.seq (.meet false ⟨[(0, .keep), (1, .keep), (10, .sl (.one (.p false false (.int .i64)))), (11, .keep)], [(55000, .keep)]⟩ (.loop ⟨[(0, .keep), (1, .keep), (10, .sl (.one (.p false false (.int .i64)))), (11, .keep)], [(55000, .keep)]⟩ (.seq (.seq (.meet false ⟨[(0, .keep), (1, .keep), (10, .keep), (11, .keep), (112, .sl (.one (.p false false .bool)))], [(55000, .keep)]⟩ .nil) .nil) .nil))) (.seq (.meet false ⟨[(0, .keep), (1, .keep), (10, .keep), (11, .sl (.one (.p false false (.int .i64))))], [(55000, .keep)]⟩ (.loop ⟨[(0, .keep), (1, .keep), (10, .keep), (11, .sl (.one (.p false false (.int .i64))))], [(55000, .keep)]⟩ (.seq (.seq (.meet false ⟨[(0, .keep), (1, .keep), (10, .keep), (11, .keep), (129, .sl (.one (.p false false .bool)))], [(55000, .keep)]⟩ .nil) .nil) .nil))) (.seq (.seq .nil .nil) (.seq .nil .nil)))) .nil))) (.seq .nil .nil)))))))))))
--FN 36 168 [.tmp 8, .tmp 9] callees [34] ring [] ety ety
/-- slices.siftDownOrdered[uint64] -/
def sg39 : TSig := { nargs := 4, pin := ⟨[(0, (.one (.own 55000))), (1, (.one (.p true false (.int .i64)))), (2, (.one (.p true false (.int .i64)))), (3, (.one (.p true false (.int .i64))))], [(55000, (.arr false false true (.int .u64)))]⟩, pout := ⟨[], [(55000, (.arr false false true (.int .u64)))]⟩, nres := 0, ios := [55000], news := [] }
def an39 : Ann := (.seq .nil (.meet true ⟨[], [(55000, .ob (.arr false false true (.int .u64)))]⟩ (.loop ⟨[(0, .keep), (2, .keep), (3, .keep), (8, .sl (.one (.p true false (.int .i64))))], [(55000, .ob (.arr false false true (.int .u64)))]⟩ (.seq (.seq .nil (.seq (.seq .nil .nil) (.seq (.seq (.meet false ⟨[(0, .keep), (2, .keep), (3, .keep), (8, .keep), (9, .keep), (36, .sl (.one (.p false false .bool)))], [(55000, .keep)]⟩ .nil) (.meet false ⟨[(0, .keep), (2, .keep), (3, .keep), (8, .keep), (9, .sl (.one (.p false false (.int .i64))))], [(55000, .keep)]⟩ .nil)) (.seq (.seq .nil .nil) .nil)))) .nil))))
--FN 39 76 [] callees [34] ring [] ety ety
/-- slices.nextPowerOfTwo -/
def sg40 : TSig := { nargs := 1, pin := ⟨[(0, (.one (.p true false (.int .i64))))], []⟩, pout := ⟨[(0, (.one (.p false false (.int .u64))))], []⟩, nres := 1, ios := [], news := [] }
def an40 : Ann := (.seq .nil .nil)
--FN 40 7 [.tmp 2] callees [27] ring [] ety ety
/-- slices.order2Ordered[uint64] -/
def sg45 : TSig := { nargs := 4, pin := ⟨[(0, (.one (.p true false (.sl (.int .u64))))), (1, (.one (.p true false (.int .i64)))), (2, (.one (.p true false (.int .i64)))), (3, (.one (.box 50000 0)))], [(50000, (.box [(.p false true (.int .i64))]))]⟩, pout := ⟨[(0, (.one (.p false false (.int .i64)))), (1, (.one (.p false false (.int .i64))))], [(50000, (.box [(.p false false (.int .i64))]))]⟩, nres := 2, ios := [50000], news := [] }
def an45 : Ann := (.seq .nil (.seq (.seq .nil (.seq (.seq .nil .nil) .nil)) .nil))
--FN 45 28 [.tmp 8, .tmp 9] callees [34] ring [] ety ety
/-- warmpath/warmpathlaw02.FingerprintBijective -/
def sg3 : TSig := { nargs := 4, pin := ⟨[(0, (.one (.p true false (.int .u64)))), (1, (.one (.p true false (.int .u64)))), (2, (.one (.p true false (.int .u64)))), (3, (.one (.p true false (.int .u8))))], []⟩, pout := ⟨[(0, (.one (.p false false .bool)))], []⟩, nres := 1, ios := [], news := [] }
def an3 : Ann := (.seq .nil (.seq (.seq .nil (.seq .nil .nil)) (.seq .nil (.seq (.meet false ⟨[(8, .sl (.one (.p false false .bool)))], []⟩ .nil) .nil))))
--FN 3 64 [.tmp 8] callees [6, 7, 8] ring [] ety ety
/-- slices.insertionSortOrdered[uint64] -/
def sg28 : TSig := { nargs := 3, pin := ⟨[(0, (.one (.own 55000))), (1, (.one (.p true false (.int .i64)))), (2, (.one (.p true false (.int .i64))))], [(55000, (.arr false false true (.int .u64)))]⟩, pout := ⟨[], [(55000, (.arr false false true (.int .u64)))]⟩, nres := 0, ios := [55000], news := [] }
def an28 : Ann := (.seq .nil (.meet false ⟨[], [(55000, .ob (.arr false false true (.int .u64)))]⟩ (.loop ⟨[(0, .keep), (1, .keep), (2, .keep), (6, .sl (.one (.p false false (.int .i64))))], [(55000, .ob (.arr false false true (.int .u64)))]⟩ (.seq (.seq .nil .nil) (.seq (.seq (.seq .nil (.meet false ⟨[(0, .keep), (1, .keep), (2, .keep), (6, .keep)], [(55000, .ob (.arr false false true (.int .u64)))]⟩ (.loop ⟨[(0, .keep), (1, .keep), (2, .keep), (6, .keep), (7, .sl (.one (.p false false (.int .i64))))], [(55000, .ob (.arr false false true (.int .u64)))]⟩ (.seq (.seq (.meet false ⟨[(0, .keep), (1, .keep), (2, .keep), (6, .keep), (7, .keep), (30, .sl (.one (.p false false .bool)))], [(55000, .keep)]⟩ .nil) .nil) (.seq .nil .nil))))) .nil) .nil)))))
--FN 28 49 [] callees [34] ring [] ety ety
/-- slices.heapSortOrdered[uint64] -/
def sg29 : TSig := { nargs := 3, pin := ⟨[(0, (.one (.own 55000))), (1, (.one (.p true false (.int .i64)))), (2, (.one (.p true false (.int .i64))))], [(55000, (.arr false false true (.int .u64)))]⟩, pout := ⟨[], [(55000, (.arr false false true (.int .u64)))]⟩, nres := 0, ios := [55000], news := [] }
def an29 : Ann := (.seq .nil (.seq .nil (.seq .nil (.seq (.seq .nil (.meet false ⟨[(0, .keep), (6, .keep), (7, .keep), (8, .keep)], [(55000, .ob (.arr false false true (.int .u64)))]⟩ (.loop ⟨[(0, .keep), (6, .keep), (7, .keep), (8, .keep), (9, .sl (.one (.p false false (.int .i64))))], [(55000, .ob (.arr false false true (.int .u64)))]⟩ (.seq (.seq .nil .nil) (.seq .nil .nil))))) (.seq .nil (.meet false ⟨[], [(55000, .ob (.arr false false true (.int .u64)))]⟩ (.loop ⟨[(0, .keep), (6, .keep), (7, .keep), (10, .sl (.one (.p false false (.int .i64))))], [(55000, .ob (.arr false false true (.int .u64)))]⟩ (.seq (.seq .nil .nil) (.seq (.seq .nil .nil) .nil)))))))))
--FN 29 56 [] callees [39] ring [] ety ety
/-- slices.breakPatternsOrdered[uint64] -/
def sg30 : TSig := { nargs := 3, pin := ⟨[(0, (.one (.own 55000))), (1, (.one (.p true false (.int .i64)))), (2, (.one (.p true false (.int .i64))))], [(55000, (.arr false false true (.int .u64)))]⟩, pout := ⟨[], [(55000, (.arr false false true (.int .u64)))]⟩, nres := 0, ios := [55000], news := [] }
def an30 : Ann := (.seq .nil (.seq .nil (.meet false ⟨[], [(55000, .ob (.arr false false true (.int .u64)))]⟩ (.seq (.seq .nil (.seq .nil (.seq .nil (.meet false ⟨[], [(55000, .ob (.arr false false true (.int .u64)))]⟩ (.loop ⟨[(0, .keep), (1, .keep), (6, .keep), (7, .keep), (8, .keep), (9, .sl (.one (.p false false (.int .i64))))], [(55000, .ob (.arr false false true (.int .u64))), (7, .ob (.box [(.p false false (.int .u64))]))]⟩ (.seq (.seq .nil .nil) (.seq (.seq (.seq .nil (.seq (.seq .nil (.meet false ⟨[(0, .keep), (1, .keep), (6, .keep), (7, .keep), (8, .keep), (9, .keep), (10, .sl (.one (.p false false (.int .i64))))], [(55000, .keep), (7, .keep)]⟩ .nil)) .nil)) .nil) .nil))))))) .nil))))
--FN 30 65 [] callees [40, 41] ring [] ety ety
/-- slices.partialInsertionSortOrdered[uint64] -/
def sg33 : TSig := { nargs := 3, pin := ⟨[(0, (.one (.own 55000))), (1, (.one (.p true false (.int .i64)))), (2, (.one (.p true false (.int .i64))))], [(55000, (.arr false false true (.int .u64)))]⟩, pout := ⟨[(0, (.one (.p false false .bool)))], [(55000, (.arr false false true (.int .u64)))]⟩, nres := 1, ios := [55000], news := [] }
def an33 : Ann := (.seq .nil (.seq .nil (.seq (.seq .nil (.meet true ⟨[], [(55000, .ob (.arr false false true (.int .u64)))]⟩ (.loop ⟨[(0, .keep), (1, .keep), (2, .keep), (7, .sl (.one (.p false false (.int .i64)))), (8, .sl (.one (.p false false (.int .i64))))], [(55000, .ob (.arr false false true (.int .u64)))]⟩ (.seq (.seq .nil .nil) (.seq (.seq (.seq (.meet false ⟨[(0, .keep), (1, .keep), (2, .keep), (7, .sl (.one (.p false false (.int .i64)))), (8, .keep)], [(55000, .keep)]⟩ (.loop ⟨[(0, .keep), (1, .keep), (2, .keep), (7, .sl (.one (.p false false (.int .i64)))), (8, .keep)], [(55000, .keep)]⟩ (.seq (.seq (.meet false ⟨[(0, .keep), (1, .keep), (2, .keep), (7, .keep), (8, .keep), (32, .sl (.one (.p false false .bool)))], [(55000, .keep)]⟩ .nil) .nil) .nil))) (.seq (.seq .nil (.seq .nil .nil)) (.seq (.seq .nil (.seq .nil .nil)) (.seq .nil (.seq (.seq .nil (.meet false ⟨[(0, .keep), (1, .keep), (2, .keep), (7, .keep), (8, .keep)], [(55000, .ob (.arr false false true (.int .u64)))]⟩ (.seq (.seq .nil (.meet false ⟨[(0, .keep), (1, .keep), (2, .keep), (7, .keep), (8, .keep)], [(55000, .ob (.arr false false true (.int .u64)))]⟩ (.loop ⟨[(0, .keep), (1, .keep), (2, .keep), (7, .keep), (8, .keep), (9, .sl (.one (.p false false (.int .i64))))], [(55000, .ob (.arr false false true (.int .u64)))]⟩ (.seq (.seq .nil .nil) (.seq (.seq (.seq (.seq .nil .nil) .nil) .nil) .nil))))) .nil))) (.seq .nil (.meet false ⟨[(0, .keep), (1, .keep), (2, .keep), (7, .keep), (8, .keep)], [(55000, .ob (.arr false false true (.int .u64)))]⟩ (.seq (.seq .nil (.meet false ⟨[(0, .keep), (1, .keep), (2, .keep), (7, .keep), (8, .keep)], [(55000, .ob (.arr false false true (.int .u64)))]⟩ (.loop ⟨[(0, .keep), (1, .keep), (2, .keep), (7, .keep), (8, .keep), (10, .sl (.one (.p false false (.int .i64))))], [(55000, .ob (.arr false false true (.int .u64)))]⟩ (.seq (.seq .nil .nil) (.seq (.seq (.seq (.seq .nil .nil) .nil) .nil) .nil))))) .nil)))))))) .nil) .nil))))) .nil)))
--FN 33 133 [.tmp 6] callees [34] ring [] ety ety
/-- slices.medianOrdered[uint64] -/
def sg43 : TSig := { nargs := 5, pin := ⟨[(0, (.one (.p true false (.sl (.int .u64))))), (1, (.one (.p true false (.int .i64)))), (2, (.one (.p true false (.int .i64)))), (3, (.one (.p true false (.int .i64)))), (4, (.one (.box 50000 0)))], [(50000, (.box [(.p false true (.int .i64))]))]⟩, pout := ⟨[(0, (.one (.p false false (.int .i64))))], [(50000, (.box [(.p false false (.int .i64))]))]⟩, nres := 1, ios := [50000], news := [] }
def an43 : Ann := (.seq .nil (.seq .nil (.seq .nil (.seq .nil .nil))))
--FN 43 36 [.tmp 10] callees [45] ring [] ety ety
/-- slices.medianAdjacentOrdered[uint64] -/
def sg42 : TSig := { nargs := 3, pin := ⟨[(0, (.one (.p true false (.sl (.int .u64))))), (1, (.one (.p true false (.int .i64)))), (2, (.one (.box 50000 0)))], [(50000, (.box [(.p false true (.int .i64))]))]⟩, pout := ⟨[(0, (.one (.p false false (.int .i64))))], [(50000, (.box [(.p false false (.int .i64))]))]⟩, nres := 1, ios := [50000], news := [] }
def an42 : Ann := (.seq .nil .nil)
--FN 42 15 [.tmp 6] callees [43] ring [] ety ety
/-- slices.choosePivotOrdered[uint64] -/
def sg31 : TSig := { nargs := 3, pin := ⟨[(0, (.one (.p true false (.sl (.int .u64))))), (1, (.one (.p true false (.int .i64)))), (2, (.one (.p true false (.int .i64))))], []⟩, pout := ⟨[(0, (.one (.p false false (.int .i64)))), (1, (.one (.p false false (.int .i64))))], []⟩, nres := 2, ios := [], news := [] }
def an31 : Ann := (.seq .nil (.seq .nil (.seq .nil (.seq .nil (.seq .nil (.seq .nil (.seq (.seq .nil (.meet false ⟨[(9, .keep), (11, .sl (.one (.p false false (.int .i64))))], [(9, .ob (.box [(.p false false (.int .i64))]))]⟩ (.seq (.seq (.seq .nil (.meet false ⟨[(0, .keep), (9, .keep), (10, .sl (.one (.p false false (.int .i64)))), (11, .sl (.one (.p false false (.int .i64)))), (12, .sl (.one (.p false false (.int .i64))))], [(9, .ob (.box [(.p false false (.int .i64))]))]⟩ (.seq (.seq .nil .nil) .nil))) .nil) .nil))) (.seq .nil (.seq (.seq .nil (.seq .nil (.seq .nil (.seq .nil .nil)))) .nil)))))))))
--FN 31 57 [.tmp 6, .tmp 7] callees [42, 43] ring [] ety ety
/-- slices.pdqsortOrdered[uint64] -/
def sg26 : TSig := { nargs := 4, pin := ⟨[(0, (.one (.own 55000))), (1, (.one (.p true false (.int .i64)))), (2, (.one (.p true false (.int .i64)))), (3, (.one (.p true false (.int .i64))))], [(55000, (.arr false false true (.int .u64)))]⟩, pout := ⟨[], [(55000, (.arr false false true (.int .u64)))]⟩, nres := 0, ios := [55000], news := [] }
def an26 : Ann := (.seq .nil (.seq .nil (.seq (.loop ⟨[(0, .keep), (1, .sl (.one (.p true false (.int .i64)))), (2, .sl (.one (.p true false (.int .i64)))), (3, .sl (.one (.p true false (.int .i64)))), (8, .sl (.one (.p false false .bool))), (9, .sl (.one (.p false false .bool)))], [(55000, .ob (.arr false false true (.int .u64)))]⟩ (.meet true ⟨[(0, .keep), (1, .sl (.one (.p true false (.int .i64)))), (2, .sl (.one (.p true false (.int .i64)))), (3, .sl (.one (.p true false (.int .i64)))), (8, .sl (.one (.p false false .bool))), (9, .sl (.one (.p false false .bool)))], [(55000, .ob (.arr false false true (.int .u64)))]⟩ (.seq .nil (.seq (.seq .nil (.seq .nil .nil)) (.seq (.seq .nil (.seq .nil .nil)) (.seq (.seq .nil (.meet false ⟨[(0, .keep), (1, .keep), (2, .keep), (3, .sl (.one (.p true false (.int .i64)))), (8, .keep), (9, .keep), (10, .keep)], [(55000, .ob (.arr false false true (.int .u64)))]⟩ (.seq .nil .nil))) (.seq .nil (.seq (.seq .nil (.meet false ⟨[(0, .keep), (1, .keep), (2, .keep), (3, .keep), (8, .keep), (9, .keep), (10, .keep), (11, .sl (.one (.p false false (.int .i64)))), (12, .sl (.one (.p false false (.int .i64))))], [(55000, .ob (.arr false false true (.int .u64)))]⟩ (.seq (.seq .nil .nil) .nil))) (.seq (.seq (.meet false ⟨[(0, .keep), (1, .keep), (2, .keep), (3, .keep), (8, .keep), (9, .keep), (10, .keep), (11, .keep), (68, .sl (.one (.p false false .bool)))], [(55000, .keep)]⟩ .nil) (.meet true ⟨[(0, .keep), (1, .keep), (2, .keep), (3, .keep), (8, .keep), (9, .keep), (10, .keep), (11, .keep)], [(55000, .ob (.arr false false true (.int .u64)))]⟩ (.seq (.seq .nil .nil) .nil))) (.seq (.seq (.meet false ⟨[(0, .keep), (1, .keep), (2, .keep), (3, .keep), (8, .keep), (9, .keep), (10, .keep), (11, .keep), (87, .sl (.one (.p false false .bool)))], [(55000, .keep)]⟩ .nil) (.seq (.seq .nil .nil) .nil)) (.seq .nil (.seq .nil (.seq .nil (.seq .nil (.seq .nil (.meet false ⟨[(0, .keep), (1, .sl (.one (.p true false (.int .i64)))), (2, .sl (.one (.p true false (.int .i64)))), (3, .keep), (8, .sl (.one (.p false false .bool))), (9, .keep)], [(55000, .ob (.arr false false true (.int .u64)))]⟩ (.seq (.seq .nil .nil) (.seq .nil .nil)))))))))))))))))) .nil)))
--FN 26 134 [] callees [28, 29, 30, 31, 32, 33, 34, 35, 36] ring [26] ety ety
/-- slices.Sort[[]uint64,uint64] -/
def sg24 : TSig := { nargs := 1, pin := ⟨[(0, (.one (.own 55000)))], [(55000, (.arr false false true (.int .u64)))]⟩, pout := ⟨[], [(55000, (.arr false false true (.int .u64)))]⟩, nres := 0, ios := [55000], news := [] }
def an24 : Ann := .nil
--FN 24 11 [] callees [27, 26] ring [] ety ety
/-- warmpath/fingerprint.Distinct -/
def sg12 : TSig := { nargs := 1, pin := ⟨[(0, (.one (.p true false (.sl (.int .u64)))))], []⟩, pout := ⟨[(0, (.one (.p false false (.int .u64))))], []⟩, nres := 1, ios := [], news := [] }
def an12 : Ann := (.seq .nil (.seq .nil (.seq .nil .nil)))
--FN 12 10 [.tmp 2] callees [23, 24, 25, 11] ring [] ety ety
/-- warmpath/warmpathlaw02.FingerprintOrder -/
def sg4 : TSig := { nargs := 2, pin := ⟨[(0, (.one (.p true false (.sl (.int .u8))))), (1, (.one (.p true false (.int .u64))))], []⟩, pout := ⟨[(0, (.one (.p false false .bool)))], []⟩, nres := 1, ios := [], news := [] }
def an4 : Ann := (.seq .nil (.seq (.seq .nil (.seq .nil .nil)) (.seq .nil (.seq .nil (.seq (.seq .nil (.meet false ⟨[(1, .keep), (5, .keep), (6, .sl (.one (.own 100001))), (7, .keep)], [(16, .ob (.box [(.p true false (.sl (.int .u8))), (.p false false (.int .i64))])), (100001, .ob (.arr false false false (.int .u64)))]⟩ (.loop ⟨[(1, .keep), (5, .keep), (6, .sl (.one (.own 100001))), (7, .keep), (8, .sl (.one (.p false false (.int .i64))))], [(16, .ob (.box [(.p true false (.sl (.int .u8))), (.p false false (.int .i64))])), (100001, .ob (.arr false false false (.int .u64)))]⟩ (.seq (.seq .nil .nil) (.seq .nil .nil))))) (.seq (.seq .nil (.meet false ⟨[(1, .keep), (5, .keep), (6, .keep), (7, .sl (.one (.own 102002)))], [(16, .ob (.box [(.p true false (.sl (.int .u8))), (.p false false (.int .i64))])), (100001, .keep), (102002, .ob (.arr false false false (.int .u64)))]⟩ (.loop ⟨[(1, .keep), (5, .keep), (6, .keep), (7, .sl (.one (.own 102002))), (9, .sl (.one (.p false false (.int .i64))))], [(16, .ob (.box [(.p true false (.sl (.int .u8))), (.p false false (.int .i64))])), (100001, .keep), (102002, .ob (.arr false false false (.int .u64)))]⟩ (.seq (.seq .nil .nil) (.seq (.seq .nil .nil) .nil))))) (.seq (.seq (.meet false ⟨[(1, .keep), (5, .keep), (6, .keep), (67, .sl (.one (.p false false .bool)))], [(16, .keep), (100001, .keep)]⟩ .nil) (.seq .nil .nil)) (.seq (.seq .nil (.seq .nil .nil)) (.seq .nil (.seq .nil (.seq .nil .nil)))))))))))
--FN 4 96 [.tmp 4] callees [6, 9, 10, 11, 12, 13] ring [] ety ety
/-- warmpath/warmpathlaw02.FingerprintExact -/
def sg5 : TSig := { nargs := 5, pin := ⟨[(0, (.one (.p true false (.int .u64)))), (1, (.one (.p true false (.int .u64)))), (2, (.one (.p true false (.sl (.int .u8))))), (3, (.one (.p true false .str))), (4, (.one (.p true false (.sl (.int .u64)))))], []⟩, pout := ⟨[(0, (.one (.p false false .bool)))], []⟩, nres := 1, ios := [], news := [] }
def an5 : Ann := (.seq .nil (.seq (.seq (.meet false ⟨[(0, .keep), (1, .keep), (2, .keep), (3, .keep), (4, .keep), (27, .sl (.one (.p false false .bool)))], []⟩ .nil) (.seq (.seq (.meet false ⟨[(10, .sl (.one (.p false false .bool)))], []⟩ .nil) .nil) .nil)) (.seq (.meet false ⟨[(10, .sl (.one (.p false false .bool)))], []⟩ .nil) .nil)))
--FN 5 90 [.tmp 10] callees [6, 7, 14, 8, 15, 16, 17, 18, 19, 13, 20, 11, 21, 12, 22] ring [] ety ety
end Go.Fg.Ytjkkbncbgpfliaa
