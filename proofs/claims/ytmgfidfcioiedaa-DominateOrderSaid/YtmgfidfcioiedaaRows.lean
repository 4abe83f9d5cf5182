/-
  No cell of these rows narrows 'for every input' (looked for: loops, veiled, ifaces, maps, wideKeys, modest, calm, conditions, laid).
  DERIVED. THE GIVEN ROWS OF THIS SEAT. 3 by the template 'for every input the law returns true; each argument reads behind the call as it read before'; 0 by the template 'total and deterministic' (their statements: YtmgfidfcioiedaaTotals.lean).
  GIVEN WITH THE SEED: the statements are not yours to turn. If you find one false, say at which input.
  Laid BY PROGRAM, IN A SANDBOX (cutbox-rows.mjs): the forced cells as the released guide's own fill.sh prints them over the translation 5091acdf4e469196… (all of the seat's roots in one cut). By AI agents, Wed Nov 11 2026. No macro, syntax, notation, axiom, sorry.
-/
import Derived.Test.YtmgfidfcioiedaaChecked
import GoSem.Claim
import GoSem.ClaimJoined
import GoSem.ClaimMapViews
import Derived.JoinedTies
import Derived.KernelRfl
namespace Go.Proofs.Ytmgfidfcioiedaa
/- THE CELL 'sum', in the pinned program and in every row, IS THE sha256 OF THE DUMP (.gsa) THAT YtmgfidfcioiedaaProg.lean LOADS. Nothing in Lean hashes anything: it is a label: what it is worth is what the hold of that sum in a sandbox is worth. -/
noncomputable def Try.pinned : Pinned := { name := "ytmgfidfcioiedaa", sum := "5091acdf4e46919604ab2357f1d49f5992537f454dee80d88f19fd8740952725", checked := Try.checked }
namespace Rows
def none {H : Type} : Left H := { results := [], args := [] }

/-- 'warmpathlaw11.DominateWalks': WHATEVER THE INPUT: true; the input reads as it did. -/
def dominateWalksSpec : ChangeSpec := { name := "dominateWalks", fn := fun _ => fun
  | [d1, d2] => { results := [.lit (.bool true)], args := [d1, d2] }
  | _ => none }
def dominateWalksRow : OpenClaim := { program := "ytmgfidfcioiedaa", sum := "5091acdf4e46919604ab2357f1d49f5992537f454dee80d88f19fd8740952725", func := "warmpath/warmpathlaw11.DominateWalks", spec := "dominateWalks", unfollowed := true, recurses := true, apart := false }
def DominateWalksSaid : Prop := dominateWalksRow.holds Try.pinned (OpenSpec.ofChange dominateWalksSpec)

/-- ITS FALSE NEIGHBOUR: 'it returns false'. Refute it at one input. -/
def dominateWalksWrong : ChangeSpec := { name := "dominateWalks", fn := fun _ => fun
  | [d1, d2] => { results := [.lit (.bool false)], args := [d1, d2] }
  | _ => none }
def DominateWalksWrongFalsely : Prop := dominateWalksRow.holds Try.pinned (OpenSpec.ofChange dominateWalksWrong)

/-- 'warmpathlaw11.DominateLoops': WHATEVER THE INPUT: true; the input reads as it did. -/
def dominateLoopsSpec : ChangeSpec := { name := "dominateLoops", fn := fun _ => fun
  | [d] => { results := [.lit (.bool true)], args := [d] }
  | _ => none }
def dominateLoopsRow : OpenClaim := { program := "ytmgfidfcioiedaa", sum := "5091acdf4e46919604ab2357f1d49f5992537f454dee80d88f19fd8740952725", func := "warmpath/warmpathlaw11.DominateLoops", spec := "dominateLoops", unfollowed := true, recurses := true, apart := false }
def DominateLoopsSaid : Prop := dominateLoopsRow.holds Try.pinned (OpenSpec.ofChange dominateLoopsSpec)

/-- ITS FALSE NEIGHBOUR: 'it returns false'. Refute it at one input. -/
def dominateLoopsWrong : ChangeSpec := { name := "dominateLoops", fn := fun _ => fun
  | [d] => { results := [.lit (.bool false)], args := [d] }
  | _ => none }
def DominateLoopsWrongFalsely : Prop := dominateLoopsRow.holds Try.pinned (OpenSpec.ofChange dominateLoopsWrong)

/-- 'warmpathlaw11.DominateOrder': WHATEVER THE INPUT: true; the input reads as it did. -/
def dominateOrderSpec : ChangeSpec := { name := "dominateOrder", fn := fun _ => fun
  | [d] => { results := [.lit (.bool true)], args := [d] }
  | _ => none }
def dominateOrderRow : OpenClaim := { program := "ytmgfidfcioiedaa", sum := "5091acdf4e46919604ab2357f1d49f5992537f454dee80d88f19fd8740952725", func := "warmpath/warmpathlaw11.DominateOrder", spec := "dominateOrder", unfollowed := true, recurses := true, apart := false }
def DominateOrderSaid : Prop := dominateOrderRow.holds Try.pinned (OpenSpec.ofChange dominateOrderSpec)

/-- ITS FALSE NEIGHBOUR: 'it returns false'. Refute it at one input. -/
def dominateOrderWrong : ChangeSpec := { name := "dominateOrder", fn := fun _ => fun
  | [d] => { results := [.lit (.bool false)], args := [d] }
  | _ => none }
def DominateOrderWrongFalsely : Prop := dominateOrderRow.holds Try.pinned (OpenSpec.ofChange dominateOrderWrong)

/- THE SECOND FORM. 'bulk': how many values and letters a reading holds, each counted each time it is reached (what is shared counts as often as it is met; a slice's spare places count too). A statement '..UptoSaid' is the law's where the arguments, and the package variables that the reading takes, are together of bulk at most 1048576: NARROWER than '..Said'. Prove '..Said' where nothing that the law and all that it calls make is longer than what came in: it says more and counts as full. Else prove '..UptoSaid'. A law counts once. -/
mutual
def uptoBulk {H : Type} : DataW H → Nat
  | .lit (.string bytes) => bytes.length + 1
  | .lit _ => 1
  | .nil => 1
  | .ptr d => uptoBulk d + 1
  | .slice elems spare => uptoBulkAll elems + uptoBulkAll spare + 1
  | .agg parts => uptoBulkAll parts + 1
  | .iface _ d => uptoBulk d + 1
  | .map entries => uptoBulkEntries entries + 1
  | .held _ => 1
def uptoBulkAll {H : Type} : List (DataW H) → Nat
  | [] => 0
  | d :: r => uptoBulk d + uptoBulkAll r
def uptoBulkEntries {H : Type} : List (Lit × DataW H) → Nat
  | [] => 0
  | x :: r => uptoBulkEntry x + uptoBulkEntries r
def uptoBulkEntry {H : Type} : Lit × DataW H → Nat
  | (.string bytes, d) => bytes.length + uptoBulk d + 1
  | (_, d) => uptoBulk d + 1
 end
def uptoSmall : (H : Type) → List (DataW H) → Bool := fun _ ds => decide (uptoBulkAll ds ≤ 1048576)
def OpenSpec.upto (s : _root_.Go.ChangeSpec) : _root_.Go.OpenSpec := { _root_.Go.OpenSpec.ofChange s with cond := some uptoSmall }

/-- 'warmpathlaw11.DominateWalks', WHERE WHAT IT READS IS OF BULK AT MOST 1048576: true; the input reads as it did. -/
def dominateWalksUptoRow : OpenClaim := { program := "ytmgfidfcioiedaa", sum := "5091acdf4e46919604ab2357f1d49f5992537f454dee80d88f19fd8740952725", func := "warmpath/warmpathlaw11.DominateWalks", spec := "dominateWalks", unfollowed := true, recurses := true, apart := false, narrowed := true }
def DominateWalksUptoSaid : Prop := dominateWalksUptoRow.holds Try.pinned (OpenSpec.upto dominateWalksSpec)

/-- 'warmpathlaw11.DominateLoops', WHERE WHAT IT READS IS OF BULK AT MOST 1048576: true; the input reads as it did. -/
def dominateLoopsUptoRow : OpenClaim := { program := "ytmgfidfcioiedaa", sum := "5091acdf4e46919604ab2357f1d49f5992537f454dee80d88f19fd8740952725", func := "warmpath/warmpathlaw11.DominateLoops", spec := "dominateLoops", unfollowed := true, recurses := true, apart := false, narrowed := true }
def DominateLoopsUptoSaid : Prop := dominateLoopsUptoRow.holds Try.pinned (OpenSpec.upto dominateLoopsSpec)

/-- 'warmpathlaw11.DominateOrder', WHERE WHAT IT READS IS OF BULK AT MOST 1048576: true; the input reads as it did. -/
def dominateOrderUptoRow : OpenClaim := { program := "ytmgfidfcioiedaa", sum := "5091acdf4e46919604ab2357f1d49f5992537f454dee80d88f19fd8740952725", func := "warmpath/warmpathlaw11.DominateOrder", spec := "dominateOrder", unfollowed := true, recurses := true, apart := false, narrowed := true }
def DominateOrderUptoSaid : Prop := dominateOrderUptoRow.holds Try.pinned (OpenSpec.upto dominateOrderSpec)

end Rows
end Go.Proofs.Ytmgfidfcioiedaa
