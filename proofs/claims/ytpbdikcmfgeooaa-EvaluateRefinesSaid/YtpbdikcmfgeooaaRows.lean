/-
  No cell of these rows narrows 'for every input' (looked for: loops, veiled, ifaces, maps, wideKeys, modest, calm, conditions, laid).
  DERIVED. THE GIVEN ROWS OF THIS SEAT. 4 by the template 'for every input the law returns true; each argument reads behind the call as it read before'; 0 by the template 'total and deterministic' (their statements: YtpbdikcmfgeooaaTotals.lean).
  GIVEN WITH THE SEED: the statements are not yours to turn. If you find one false, say at which input.
  Laid BY PROGRAM, IN A SANDBOX (cutbox-rows.mjs): the forced cells as the released guide's own fill.sh prints them over the translation f55ed5a781366624… (all of the seat's roots in one cut). By AI agents, Wed Nov 11 2026. No macro, syntax, notation, axiom, sorry.
-/
import Derived.Test.YtpbdikcmfgeooaaChecked
import GoSem.Claim
import GoSem.ClaimJoined
import GoSem.ClaimMapViews
import Derived.JoinedTies
import Derived.KernelRfl
namespace Go.Proofs.Ytpbdikcmfgeooaa
/- THE CELL 'sum', in the pinned program and in every row, IS THE sha256 OF THE DUMP (.gsa) THAT YtpbdikcmfgeooaaProg.lean LOADS. Nothing in Lean hashes anything: it is a label: what it is worth is what the hold of that sum in a sandbox is worth. -/
noncomputable def Try.pinned : Pinned := { name := "ytpbdikcmfgeooaa", sum := "f55ed5a781366624ef6568e7983aded8826a9f7ef6e9edc9cd010455075db0af", checked := Try.checked }
namespace Rows
def none {H : Type} : Left H := { results := [], args := [] }

/-- 'warmpathlaw07.EvaluateOperations': WHATEVER THE INPUT: true; the input reads as it did. -/
def evaluateOperationsSpec : ChangeSpec := { name := "evaluateOperations", fn := fun _ => fun
  | [d1, d2, d3, d4] => { results := [.lit (.bool true)], args := [d1, d2, d3, d4] }
  | _ => none }
def evaluateOperationsRow : OpenClaim := { program := "ytpbdikcmfgeooaa", sum := "f55ed5a781366624ef6568e7983aded8826a9f7ef6e9edc9cd010455075db0af", func := "warmpath/warmpathlaw07.EvaluateOperations", spec := "evaluateOperations", recurses := true, apart := false }
def EvaluateOperationsSaid : Prop := evaluateOperationsRow.holds Try.pinned (OpenSpec.ofChange evaluateOperationsSpec)

/-- ITS FALSE NEIGHBOUR: 'it returns false'. Refute it at one input. -/
def evaluateOperationsWrong : ChangeSpec := { name := "evaluateOperations", fn := fun _ => fun
  | [d1, d2, d3, d4] => { results := [.lit (.bool false)], args := [d1, d2, d3, d4] }
  | _ => none }
def EvaluateOperationsWrongFalsely : Prop := evaluateOperationsRow.holds Try.pinned (OpenSpec.ofChange evaluateOperationsWrong)

/-- 'warmpathlaw07.EvaluateInput': WHATEVER THE INPUT: true; the input reads as it did. -/
def evaluateInputSpec : ChangeSpec := { name := "evaluateInput", fn := fun _ => fun
  | [d1, d2] => { results := [.lit (.bool true)], args := [d1, d2] }
  | _ => none }
def evaluateInputRow : OpenClaim := { program := "ytpbdikcmfgeooaa", sum := "f55ed5a781366624ef6568e7983aded8826a9f7ef6e9edc9cd010455075db0af", func := "warmpath/warmpathlaw07.EvaluateInput", spec := "evaluateInput", recurses := true, apart := false }
def EvaluateInputSaid : Prop := evaluateInputRow.holds Try.pinned (OpenSpec.ofChange evaluateInputSpec)

/-- ITS FALSE NEIGHBOUR: 'it returns false'. Refute it at one input. -/
def evaluateInputWrong : ChangeSpec := { name := "evaluateInput", fn := fun _ => fun
  | [d1, d2] => { results := [.lit (.bool false)], args := [d1, d2] }
  | _ => none }
def EvaluateInputWrongFalsely : Prop := evaluateInputRow.holds Try.pinned (OpenSpec.ofChange evaluateInputWrong)

/-- 'warmpathlaw07.EvaluateLimits': WHATEVER THE INPUT: true; the input reads as it did. -/
def evaluateLimitsSpec : ChangeSpec := { name := "evaluateLimits", fn := fun _ => fun
  | [d1, d2, d3, d4, d5] => { results := [.lit (.bool true)], args := [d1, d2, d3, d4, d5] }
  | _ => none }
def evaluateLimitsRow : OpenClaim := { program := "ytpbdikcmfgeooaa", sum := "f55ed5a781366624ef6568e7983aded8826a9f7ef6e9edc9cd010455075db0af", func := "warmpath/warmpathlaw07.EvaluateLimits", spec := "evaluateLimits", recurses := true, apart := false }
def EvaluateLimitsSaid : Prop := evaluateLimitsRow.holds Try.pinned (OpenSpec.ofChange evaluateLimitsSpec)

/-- ITS FALSE NEIGHBOUR: 'it returns false'. Refute it at one input. -/
def evaluateLimitsWrong : ChangeSpec := { name := "evaluateLimits", fn := fun _ => fun
  | [d1, d2, d3, d4, d5] => { results := [.lit (.bool false)], args := [d1, d2, d3, d4, d5] }
  | _ => none }
def EvaluateLimitsWrongFalsely : Prop := evaluateLimitsRow.holds Try.pinned (OpenSpec.ofChange evaluateLimitsWrong)

/-- 'warmpathlaw07.EvaluateRefines': WHATEVER THE INPUT: true; the input reads as it did. -/
def evaluateRefinesSpec : ChangeSpec := { name := "evaluateRefines", fn := fun _ => fun
  | [d1, d2, d3] => { results := [.lit (.bool true)], args := [d1, d2, d3] }
  | _ => none }
def evaluateRefinesRow : OpenClaim := { program := "ytpbdikcmfgeooaa", sum := "f55ed5a781366624ef6568e7983aded8826a9f7ef6e9edc9cd010455075db0af", func := "warmpath/warmpathlaw07.EvaluateRefines", spec := "evaluateRefines", recurses := true, apart := false }
def EvaluateRefinesSaid : Prop := evaluateRefinesRow.holds Try.pinned (OpenSpec.ofChange evaluateRefinesSpec)

/-- ITS FALSE NEIGHBOUR: 'it returns false'. Refute it at one input. -/
def evaluateRefinesWrong : ChangeSpec := { name := "evaluateRefines", fn := fun _ => fun
  | [d1, d2, d3] => { results := [.lit (.bool false)], args := [d1, d2, d3] }
  | _ => none }
def EvaluateRefinesWrongFalsely : Prop := evaluateRefinesRow.holds Try.pinned (OpenSpec.ofChange evaluateRefinesWrong)

/- THE SECOND FORM. 'bulk': how many values and letters a reading holds, each counted each time it is reached (what is shared counts as often as it is met; a slice's spare places count too). A statement '..UptoSaid' is the law's where the arguments, and the package variables that the reading takes, are together of bulk at most 1048576: NARROWER than '..Said'. Prove '..Said' where nothing that the law and all that it calls make is longer than what came in: it says more and counts as full. Else prove '..UptoSaid'. A law counts once. -/
mutual
def uptoBulk {H : Type} : DataW H → Nat
  | .lit (.string bytes) => bytes.length + 1
  | .lit _ => 1
  | .nil => 1
  | .ptr d => uptoBulk d + 1
  | .slice elems spare => uptoBulkAll elems + uptoBulkAll spare + 1
  | .agg parts => uptoBulkAll parts + 1
  | .iface _ d => uptoBulk d + 1
  | .map entries => uptoBulkEntries entries + 1
  | .held _ => 1
def uptoBulkAll {H : Type} : List (DataW H) → Nat
  | [] => 0
  | d :: r => uptoBulk d + uptoBulkAll r
def uptoBulkEntries {H : Type} : List (Lit × DataW H) → Nat
  | [] => 0
  | x :: r => uptoBulkEntry x + uptoBulkEntries r
def uptoBulkEntry {H : Type} : Lit × DataW H → Nat
  | (.string bytes, d) => bytes.length + uptoBulk d + 1
  | (_, d) => uptoBulk d + 1
 end
def uptoSmall : (H : Type) → List (DataW H) → Bool := fun _ ds => decide (uptoBulkAll ds ≤ 1048576)
def OpenSpec.upto (s : _root_.Go.ChangeSpec) : _root_.Go.OpenSpec := { _root_.Go.OpenSpec.ofChange s with cond := some uptoSmall }

/-- 'warmpathlaw07.EvaluateOperations', WHERE WHAT IT READS IS OF BULK AT MOST 1048576: true; the input reads as it did. -/
def evaluateOperationsUptoRow : OpenClaim := { program := "ytpbdikcmfgeooaa", sum := "f55ed5a781366624ef6568e7983aded8826a9f7ef6e9edc9cd010455075db0af", func := "warmpath/warmpathlaw07.EvaluateOperations", spec := "evaluateOperations", recurses := true, apart := false, narrowed := true }
def EvaluateOperationsUptoSaid : Prop := evaluateOperationsUptoRow.holds Try.pinned (OpenSpec.upto evaluateOperationsSpec)

/-- 'warmpathlaw07.EvaluateInput', WHERE WHAT IT READS IS OF BULK AT MOST 1048576: true; the input reads as it did. -/
def evaluateInputUptoRow : OpenClaim := { program := "ytpbdikcmfgeooaa", sum := "f55ed5a781366624ef6568e7983aded8826a9f7ef6e9edc9cd010455075db0af", func := "warmpath/warmpathlaw07.EvaluateInput", spec := "evaluateInput", recurses := true, apart := false, narrowed := true }
def EvaluateInputUptoSaid : Prop := evaluateInputUptoRow.holds Try.pinned (OpenSpec.upto evaluateInputSpec)

/-- 'warmpathlaw07.EvaluateLimits', WHERE WHAT IT READS IS OF BULK AT MOST 1048576: true; the input reads as it did. -/
def evaluateLimitsUptoRow : OpenClaim := { program := "ytpbdikcmfgeooaa", sum := "f55ed5a781366624ef6568e7983aded8826a9f7ef6e9edc9cd010455075db0af", func := "warmpath/warmpathlaw07.EvaluateLimits", spec := "evaluateLimits", recurses := true, apart := false, narrowed := true }
def EvaluateLimitsUptoSaid : Prop := evaluateLimitsUptoRow.holds Try.pinned (OpenSpec.upto evaluateLimitsSpec)

/-- 'warmpathlaw07.EvaluateRefines', WHERE WHAT IT READS IS OF BULK AT MOST 1048576: true; the input reads as it did. -/
def evaluateRefinesUptoRow : OpenClaim := { program := "ytpbdikcmfgeooaa", sum := "f55ed5a781366624ef6568e7983aded8826a9f7ef6e9edc9cd010455075db0af", func := "warmpath/warmpathlaw07.EvaluateRefines", spec := "evaluateRefines", recurses := true, apart := false, narrowed := true }
def EvaluateRefinesUptoSaid : Prop := evaluateRefinesUptoRow.holds Try.pinned (OpenSpec.upto evaluateRefinesSpec)

end Rows
end Go.Proofs.Ytpbdikcmfgeooaa
