/-
  No cell of these rows narrows 'for every input' (looked for: loops, veiled, ifaces, maps, wideKeys, modest, calm, conditions, laid).
  DERIVED. THE GIVEN ROWS OF THIS SEAT. 4 by the template 'for every input the law returns true; each argument reads behind the call as it read before'; 0 by the template 'total and deterministic' (their statements: YtdddhnagekhihaaTotals.lean).
  GIVEN WITH THE SEED: the statements are not yours to turn. If you find one false, say at which input.
  Laid BY PROGRAM, IN A SANDBOX (cutbox-rows.mjs): the forced cells as the released guide's own fill.sh prints them over the translation d8bff2842a43db1d… (all of the seat's roots in one cut). By AI agents, Wed Nov 11 2026. No macro, syntax, notation, axiom, sorry.
-/
import Derived.Test.YtdddhnagekhihaaChecked
import GoSem.Claim
import GoSem.ClaimJoined
import GoSem.ClaimMapViews
import Derived.JoinedTies
import Derived.KernelRfl
namespace Go.Proofs.Ytdddhnagekhihaa
/- THE CELL 'sum', in the pinned program and in every row, IS THE sha256 OF THE DUMP (.gsa) THAT YtdddhnagekhihaaProg.lean LOADS. Nothing in Lean hashes anything: it is a label: what it is worth is what the hold of that sum in a sandbox is worth. -/
noncomputable def Try.pinned : Pinned := { name := "ytdddhnagekhihaa", sum := "d8bff2842a43db1d5b20b57ae91347c46922b062ea9cb3e83345b8117e9fd565", checked := Try.checked }
namespace Rows
def none {H : Type} : Left H := { results := [], args := [] }

/-- 'warmpathlaw18.PagingExact': WHATEVER THE INPUT: true; the input reads as it did. -/
def pagingExactSpec : ChangeSpec := { name := "pagingExact", fn := fun _ => fun
  | [d] => { results := [.lit (.bool true)], args := [d] }
  | _ => none }
def pagingExactRow : OpenClaim := { program := "ytdddhnagekhihaa", sum := "d8bff2842a43db1d5b20b57ae91347c46922b062ea9cb3e83345b8117e9fd565", func := "warmpath/warmpathlaw18.PagingExact", spec := "pagingExact", inPlace := ["slices.overlaps[int]"], unfollowed := true, recurses := true, apart := false }
def PagingExactSaid : Prop := pagingExactRow.holds Try.pinned (OpenSpec.ofChange pagingExactSpec)

/-- ITS FALSE NEIGHBOUR: 'it returns false'. Refute it at one input. -/
def pagingExactWrong : ChangeSpec := { name := "pagingExact", fn := fun _ => fun
  | [d] => { results := [.lit (.bool false)], args := [d] }
  | _ => none }
def PagingExactWrongFalsely : Prop := pagingExactRow.holds Try.pinned (OpenSpec.ofChange pagingExactWrong)

/-- 'warmpathlaw18.PagingDistances': WHATEVER THE INPUT: true; the input reads as it did. -/
def pagingDistancesSpec : ChangeSpec := { name := "pagingDistances", fn := fun _ => fun
  | [d] => { results := [.lit (.bool true)], args := [d] }
  | _ => none }
def pagingDistancesRow : OpenClaim := { program := "ytdddhnagekhihaa", sum := "d8bff2842a43db1d5b20b57ae91347c46922b062ea9cb3e83345b8117e9fd565", func := "warmpath/warmpathlaw18.PagingDistances", spec := "pagingDistances", inPlace := ["slices.overlaps[int]"], unfollowed := true, recurses := true, apart := false }
def PagingDistancesSaid : Prop := pagingDistancesRow.holds Try.pinned (OpenSpec.ofChange pagingDistancesSpec)

/-- ITS FALSE NEIGHBOUR: 'it returns false'. Refute it at one input. -/
def pagingDistancesWrong : ChangeSpec := { name := "pagingDistances", fn := fun _ => fun
  | [d] => { results := [.lit (.bool false)], args := [d] }
  | _ => none }
def PagingDistancesWrongFalsely : Prop := pagingDistancesRow.holds Try.pinned (OpenSpec.ofChange pagingDistancesWrong)

/-- 'warmpathlaw18.PagingResident': WHATEVER THE INPUT: true; the input reads as it did. -/
def pagingResidentSpec : ChangeSpec := { name := "pagingResident", fn := fun _ => fun
  | [d1, d2] => { results := [.lit (.bool true)], args := [d1, d2] }
  | _ => none }
def pagingResidentRow : OpenClaim := { program := "ytdddhnagekhihaa", sum := "d8bff2842a43db1d5b20b57ae91347c46922b062ea9cb3e83345b8117e9fd565", func := "warmpath/warmpathlaw18.PagingResident", spec := "pagingResident", inPlace := ["slices.overlaps[int]"], unfollowed := true, recurses := true, apart := false }
def PagingResidentSaid : Prop := pagingResidentRow.holds Try.pinned (OpenSpec.ofChange pagingResidentSpec)

/-- ITS FALSE NEIGHBOUR: 'it returns false'. Refute it at one input. -/
def pagingResidentWrong : ChangeSpec := { name := "pagingResident", fn := fun _ => fun
  | [d1, d2] => { results := [.lit (.bool false)], args := [d1, d2] }
  | _ => none }
def PagingResidentWrongFalsely : Prop := pagingResidentRow.holds Try.pinned (OpenSpec.ofChange pagingResidentWrong)

/-- 'warmpathlaw18.PagingSteps': WHATEVER THE INPUT: true; the input reads as it did. -/
def pagingStepsSpec : ChangeSpec := { name := "pagingSteps", fn := fun _ => fun
  | [d] => { results := [.lit (.bool true)], args := [d] }
  | _ => none }
def pagingStepsRow : OpenClaim := { program := "ytdddhnagekhihaa", sum := "d8bff2842a43db1d5b20b57ae91347c46922b062ea9cb3e83345b8117e9fd565", func := "warmpath/warmpathlaw18.PagingSteps", spec := "pagingSteps", inPlace := ["slices.overlaps[int]"], unfollowed := true, recurses := true, apart := false }
def PagingStepsSaid : Prop := pagingStepsRow.holds Try.pinned (OpenSpec.ofChange pagingStepsSpec)

/-- ITS FALSE NEIGHBOUR: 'it returns false'. Refute it at one input. -/
def pagingStepsWrong : ChangeSpec := { name := "pagingSteps", fn := fun _ => fun
  | [d] => { results := [.lit (.bool false)], args := [d] }
  | _ => none }
def PagingStepsWrongFalsely : Prop := pagingStepsRow.holds Try.pinned (OpenSpec.ofChange pagingStepsWrong)

/- THE SECOND FORM. 'bulk': how many values and letters a reading holds, each counted each time it is reached (what is shared counts as often as it is met; a slice's spare places count too). A statement '..UptoSaid' is the law's where the arguments, and the package variables that the reading takes, are together of bulk at most 1048576: NARROWER than '..Said'. Prove '..Said' where nothing that the law and all that it calls make is longer than what came in: it says more and counts as full. Else prove '..UptoSaid'. A law counts once. -/
mutual
def uptoBulk {H : Type} : DataW H → Nat
  | .lit (.string bytes) => bytes.length + 1
  | .lit _ => 1
  | .nil => 1
  | .ptr d => uptoBulk d + 1
  | .slice elems spare => uptoBulkAll elems + uptoBulkAll spare + 1
  | .agg parts => uptoBulkAll parts + 1
  | .iface _ d => uptoBulk d + 1
  | .map entries => uptoBulkEntries entries + 1
  | .held _ => 1
def uptoBulkAll {H : Type} : List (DataW H) → Nat
  | [] => 0
  | d :: r => uptoBulk d + uptoBulkAll r
def uptoBulkEntries {H : Type} : List (Lit × DataW H) → Nat
  | [] => 0
  | x :: r => uptoBulkEntry x + uptoBulkEntries r
def uptoBulkEntry {H : Type} : Lit × DataW H → Nat
  | (.string bytes, d) => bytes.length + uptoBulk d + 1
  | (_, d) => uptoBulk d + 1
 end
def uptoSmall : (H : Type) → List (DataW H) → Bool := fun _ ds => decide (uptoBulkAll ds ≤ 1048576)
def OpenSpec.upto (s : _root_.Go.ChangeSpec) : _root_.Go.OpenSpec := { _root_.Go.OpenSpec.ofChange s with cond := some uptoSmall }

/-- 'warmpathlaw18.PagingExact', WHERE WHAT IT READS IS OF BULK AT MOST 1048576: true; the input reads as it did. -/
def pagingExactUptoRow : OpenClaim := { program := "ytdddhnagekhihaa", sum := "d8bff2842a43db1d5b20b57ae91347c46922b062ea9cb3e83345b8117e9fd565", func := "warmpath/warmpathlaw18.PagingExact", spec := "pagingExact", inPlace := ["slices.overlaps[int]"], unfollowed := true, recurses := true, apart := false, narrowed := true }
def PagingExactUptoSaid : Prop := pagingExactUptoRow.holds Try.pinned (OpenSpec.upto pagingExactSpec)

/-- 'warmpathlaw18.PagingDistances', WHERE WHAT IT READS IS OF BULK AT MOST 1048576: true; the input reads as it did. -/
def pagingDistancesUptoRow : OpenClaim := { program := "ytdddhnagekhihaa", sum := "d8bff2842a43db1d5b20b57ae91347c46922b062ea9cb3e83345b8117e9fd565", func := "warmpath/warmpathlaw18.PagingDistances", spec := "pagingDistances", inPlace := ["slices.overlaps[int]"], unfollowed := true, recurses := true, apart := false, narrowed := true }
def PagingDistancesUptoSaid : Prop := pagingDistancesUptoRow.holds Try.pinned (OpenSpec.upto pagingDistancesSpec)

/-- 'warmpathlaw18.PagingResident', WHERE WHAT IT READS IS OF BULK AT MOST 1048576: true; the input reads as it did. -/
def pagingResidentUptoRow : OpenClaim := { program := "ytdddhnagekhihaa", sum := "d8bff2842a43db1d5b20b57ae91347c46922b062ea9cb3e83345b8117e9fd565", func := "warmpath/warmpathlaw18.PagingResident", spec := "pagingResident", inPlace := ["slices.overlaps[int]"], unfollowed := true, recurses := true, apart := false, narrowed := true }
def PagingResidentUptoSaid : Prop := pagingResidentUptoRow.holds Try.pinned (OpenSpec.upto pagingResidentSpec)

/-- 'warmpathlaw18.PagingSteps', WHERE WHAT IT READS IS OF BULK AT MOST 1048576: true; the input reads as it did. -/
def pagingStepsUptoRow : OpenClaim := { program := "ytdddhnagekhihaa", sum := "d8bff2842a43db1d5b20b57ae91347c46922b062ea9cb3e83345b8117e9fd565", func := "warmpath/warmpathlaw18.PagingSteps", spec := "pagingSteps", inPlace := ["slices.overlaps[int]"], unfollowed := true, recurses := true, apart := false, narrowed := true }
def PagingStepsUptoSaid : Prop := pagingStepsUptoRow.holds Try.pinned (OpenSpec.upto pagingStepsSpec)

end Rows
end Go.Proofs.Ytdddhnagekhihaa
