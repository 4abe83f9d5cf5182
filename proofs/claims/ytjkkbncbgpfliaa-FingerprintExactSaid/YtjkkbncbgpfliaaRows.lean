/-
  No cell of these rows narrows 'for every input' (looked for: loops, veiled, ifaces, maps, wideKeys, modest, calm, conditions, laid).
  DERIVED. THE GIVEN ROWS OF THIS SEAT. 3 by the template 'for every input the law returns true; each argument reads behind the call as it read before'; 0 by the template 'total and deterministic' (their statements: YtjkkbncbgpfliaaTotals.lean).
  GIVEN WITH THE SEED: the statements are not yours to turn. If you find one false, say at which input.
  Laid BY PROGRAM, IN A SANDBOX (cutbox-rows.mjs): the forced cells as the released guide's own fill.sh prints them over the translation 0d688ebef589fc32… (all of the seat's roots in one cut). By AI agents, Wed Nov 11 2026. No macro, syntax, notation, axiom, sorry.
-/
import Derived.Test.YtjkkbncbgpfliaaChecked
import GoSem.Claim
import GoSem.ClaimJoined
import GoSem.ClaimMapViews
import Derived.JoinedTies
import Derived.KernelRfl
namespace Go.Proofs.Ytjkkbncbgpfliaa
/- THE CELL 'sum', in the pinned program and in every row, IS THE sha256 OF THE DUMP (.gsa) THAT YtjkkbncbgpfliaaProg.lean LOADS. Nothing in Lean hashes anything: it is a label: what it is worth is what the hold of that sum in a sandbox is worth. -/
noncomputable def Try.pinned : Pinned := { name := "ytjkkbncbgpfliaa", sum := "0d688ebef589fc3247b5867187b8df73bddde946506beaa398b7870a371a0d4a", checked := Try.checked }
namespace Rows
def none {H : Type} : Left H := { results := [], args := [] }

/-- 'warmpathlaw02.FingerprintBijective': WHATEVER THE INPUT: true; the input reads as it did. -/
def fingerprintBijectiveSpec : ChangeSpec := { name := "fingerprintBijective", fn := fun _ => fun
  | [d1, d2, d3, d4] => { results := [.lit (.bool true)], args := [d1, d2, d3, d4] }
  | _ => none }
def fingerprintBijectiveRow : OpenClaim := { program := "ytjkkbncbgpfliaa", sum := "0d688ebef589fc3247b5867187b8df73bddde946506beaa398b7870a371a0d4a", func := "warmpath/warmpathlaw02.FingerprintBijective", spec := "fingerprintBijective", apart := false }
def FingerprintBijectiveSaid : Prop := fingerprintBijectiveRow.holds Try.pinned (OpenSpec.ofChange fingerprintBijectiveSpec)

/-- ITS FALSE NEIGHBOUR: 'it returns false'. Refute it at one input. -/
def fingerprintBijectiveWrong : ChangeSpec := { name := "fingerprintBijective", fn := fun _ => fun
  | [d1, d2, d3, d4] => { results := [.lit (.bool false)], args := [d1, d2, d3, d4] }
  | _ => none }
def FingerprintBijectiveWrongFalsely : Prop := fingerprintBijectiveRow.holds Try.pinned (OpenSpec.ofChange fingerprintBijectiveWrong)

/-- 'warmpathlaw02.FingerprintOrder': WHATEVER THE INPUT: true; the input reads as it did. -/
def fingerprintOrderSpec : ChangeSpec := { name := "fingerprintOrder", fn := fun _ => fun
  | [d1, d2] => { results := [.lit (.bool true)], args := [d1, d2] }
  | _ => none }
def fingerprintOrderRow : OpenClaim := { program := "ytjkkbncbgpfliaa", sum := "0d688ebef589fc3247b5867187b8df73bddde946506beaa398b7870a371a0d4a", func := "warmpath/warmpathlaw02.FingerprintOrder", spec := "fingerprintOrder", recurses := true, apart := false }
def FingerprintOrderSaid : Prop := fingerprintOrderRow.holds Try.pinned (OpenSpec.ofChange fingerprintOrderSpec)

/-- ITS FALSE NEIGHBOUR: 'it returns false'. Refute it at one input. -/
def fingerprintOrderWrong : ChangeSpec := { name := "fingerprintOrder", fn := fun _ => fun
  | [d1, d2] => { results := [.lit (.bool false)], args := [d1, d2] }
  | _ => none }
def FingerprintOrderWrongFalsely : Prop := fingerprintOrderRow.holds Try.pinned (OpenSpec.ofChange fingerprintOrderWrong)

/-- 'warmpathlaw02.FingerprintExact': WHATEVER THE INPUT: true; the input reads as it did. -/
def fingerprintExactSpec : ChangeSpec := { name := "fingerprintExact", fn := fun _ => fun
  | [d1, d2, d3, d4, d5] => { results := [.lit (.bool true)], args := [d1, d2, d3, d4, d5] }
  | _ => none }
def fingerprintExactRow : OpenClaim := { program := "ytjkkbncbgpfliaa", sum := "0d688ebef589fc3247b5867187b8df73bddde946506beaa398b7870a371a0d4a", func := "warmpath/warmpathlaw02.FingerprintExact", spec := "fingerprintExact", recurses := true, apart := false }
def FingerprintExactSaid : Prop := fingerprintExactRow.holds Try.pinned (OpenSpec.ofChange fingerprintExactSpec)

/-- ITS FALSE NEIGHBOUR: 'it returns false'. Refute it at one input. -/
def fingerprintExactWrong : ChangeSpec := { name := "fingerprintExact", fn := fun _ => fun
  | [d1, d2, d3, d4, d5] => { results := [.lit (.bool false)], args := [d1, d2, d3, d4, d5] }
  | _ => none }
def FingerprintExactWrongFalsely : Prop := fingerprintExactRow.holds Try.pinned (OpenSpec.ofChange fingerprintExactWrong)

/- THE SECOND FORM. 'bulk': how many values and letters a reading holds, each counted each time it is reached (what is shared counts as often as it is met; a slice's spare places count too). A statement '..UptoSaid' is the law's where the arguments, and the package variables that the reading takes, are together of bulk at most 1048576: NARROWER than '..Said'. Prove '..Said' where nothing that the law and all that it calls make is longer than what came in: it says more and counts as full. Else prove '..UptoSaid'. A law counts once. -/
mutual
def uptoBulk {H : Type} : DataW H → Nat
  | .lit (.string bytes) => bytes.length + 1
  | .lit _ => 1
  | .nil => 1
  | .ptr d => uptoBulk d + 1
  | .slice elems spare => uptoBulkAll elems + uptoBulkAll spare + 1
  | .agg parts => uptoBulkAll parts + 1
  | .iface _ d => uptoBulk d + 1
  | .map entries => uptoBulkEntries entries + 1
  | .held _ => 1
def uptoBulkAll {H : Type} : List (DataW H) → Nat
  | [] => 0
  | d :: r => uptoBulk d + uptoBulkAll r
def uptoBulkEntries {H : Type} : List (Lit × DataW H) → Nat
  | [] => 0
  | x :: r => uptoBulkEntry x + uptoBulkEntries r
def uptoBulkEntry {H : Type} : Lit × DataW H → Nat
  | (.string bytes, d) => bytes.length + uptoBulk d + 1
  | (_, d) => uptoBulk d + 1
 end
def uptoSmall : (H : Type) → List (DataW H) → Bool := fun _ ds => decide (uptoBulkAll ds ≤ 1048576)
def OpenSpec.upto (s : _root_.Go.ChangeSpec) : _root_.Go.OpenSpec := { _root_.Go.OpenSpec.ofChange s with cond := some uptoSmall }

/-- 'warmpathlaw02.FingerprintBijective', WHERE WHAT IT READS IS OF BULK AT MOST 1048576: true; the input reads as it did. -/
def fingerprintBijectiveUptoRow : OpenClaim := { program := "ytjkkbncbgpfliaa", sum := "0d688ebef589fc3247b5867187b8df73bddde946506beaa398b7870a371a0d4a", func := "warmpath/warmpathlaw02.FingerprintBijective", spec := "fingerprintBijective", apart := false, narrowed := true }
def FingerprintBijectiveUptoSaid : Prop := fingerprintBijectiveUptoRow.holds Try.pinned (OpenSpec.upto fingerprintBijectiveSpec)

/-- 'warmpathlaw02.FingerprintOrder', WHERE WHAT IT READS IS OF BULK AT MOST 1048576: true; the input reads as it did. -/
def fingerprintOrderUptoRow : OpenClaim := { program := "ytjkkbncbgpfliaa", sum := "0d688ebef589fc3247b5867187b8df73bddde946506beaa398b7870a371a0d4a", func := "warmpath/warmpathlaw02.FingerprintOrder", spec := "fingerprintOrder", recurses := true, apart := false, narrowed := true }
def FingerprintOrderUptoSaid : Prop := fingerprintOrderUptoRow.holds Try.pinned (OpenSpec.upto fingerprintOrderSpec)

/-- 'warmpathlaw02.FingerprintExact', WHERE WHAT IT READS IS OF BULK AT MOST 1048576: true; the input reads as it did. -/
def fingerprintExactUptoRow : OpenClaim := { program := "ytjkkbncbgpfliaa", sum := "0d688ebef589fc3247b5867187b8df73bddde946506beaa398b7870a371a0d4a", func := "warmpath/warmpathlaw02.FingerprintExact", spec := "fingerprintExact", recurses := true, apart := false, narrowed := true }
def FingerprintExactUptoSaid : Prop := fingerprintExactUptoRow.holds Try.pinned (OpenSpec.upto fingerprintExactSpec)

end Rows
end Go.Proofs.Ytjkkbncbgpfliaa
