/-
  No cell of these rows narrows 'for every input' (looked for: loops, veiled, ifaces, maps, wideKeys, modest, calm, conditions, laid).
  DERIVED. THE GIVEN ROWS OF THIS SEAT. 5 by the template 'for every input the law returns true; each argument reads behind the call as it read before'; 0 by the template 'total and deterministic' (their statements: YtdioheaklahnnaaTotals.lean).
  GIVEN WITH THE SEED: the statements are not yours to turn. If you find one false, say at which input.
  Laid BY PROGRAM, IN A SANDBOX (cutbox-rows.mjs): the forced cells as the released guide's own fill.sh prints them over the translation 37466fc002e5ea8a… (all of the seat's roots in one cut). By AI agents, Wed Nov 11 2026. No macro, syntax, notation, axiom, sorry.
-/
import Derived.Test.YtdioheaklahnnaaChecked
import GoSem.Claim
import GoSem.ClaimJoined
import GoSem.ClaimMapViews
import Derived.JoinedTies
import Derived.KernelRfl
namespace Go.Proofs.Ytdioheaklahnnaa
/- THE CELL 'sum', in the pinned program and in every row, IS THE sha256 OF THE DUMP (.gsa) THAT YtdioheaklahnnaaProg.lean LOADS. Nothing in Lean hashes anything: it is a label: what it is worth is what the hold of that sum in a sandbox is worth. -/
noncomputable def Try.pinned : Pinned := { name := "ytdioheaklahnnaa", sum := "37466fc002e5ea8a53904b36a4e16d403e5bee83903c4634100c7bb3753e095f", checked := Try.checked }
namespace Rows
def none {H : Type} : Left H := { results := [], args := [] }

/-- 'warmpathlaw17.CacheRecent': WHATEVER THE INPUT: true; the input reads as it did. -/
def cacheRecentSpec : ChangeSpec := { name := "cacheRecent", fn := fun _ => fun
  | [d] => { results := [.lit (.bool true)], args := [d] }
  | _ => none }
def cacheRecentRow : OpenClaim := { program := "ytdioheaklahnnaa", sum := "37466fc002e5ea8a53904b36a4e16d403e5bee83903c4634100c7bb3753e095f", func := "warmpath/warmpathlaw17.CacheRecent", spec := "cacheRecent", inPlace := ["slices.overlaps[int]"], recurses := true, apart := false }
def CacheRecentSaid : Prop := cacheRecentRow.holds Try.pinned (OpenSpec.ofChange cacheRecentSpec)

/-- ITS FALSE NEIGHBOUR: 'it returns false'. Refute it at one input. -/
def cacheRecentWrong : ChangeSpec := { name := "cacheRecent", fn := fun _ => fun
  | [d] => { results := [.lit (.bool false)], args := [d] }
  | _ => none }
def CacheRecentWrongFalsely : Prop := cacheRecentRow.holds Try.pinned (OpenSpec.ofChange cacheRecentWrong)

/-- 'warmpathlaw17.CacheExact': WHATEVER THE INPUT: true; the input reads as it did. -/
def cacheExactSpec : ChangeSpec := { name := "cacheExact", fn := fun _ => fun
  | [d1, d2, d3, d4] => { results := [.lit (.bool true)], args := [d1, d2, d3, d4] }
  | _ => none }
def cacheExactRow : OpenClaim := { program := "ytdioheaklahnnaa", sum := "37466fc002e5ea8a53904b36a4e16d403e5bee83903c4634100c7bb3753e095f", func := "warmpath/warmpathlaw17.CacheExact", spec := "cacheExact", inPlace := ["slices.overlaps[int]"], recurses := true, apart := false }
def CacheExactSaid : Prop := cacheExactRow.holds Try.pinned (OpenSpec.ofChange cacheExactSpec)

/-- ITS FALSE NEIGHBOUR: 'it returns false'. Refute it at one input. -/
def cacheExactWrong : ChangeSpec := { name := "cacheExact", fn := fun _ => fun
  | [d1, d2, d3, d4] => { results := [.lit (.bool false)], args := [d1, d2, d3, d4] }
  | _ => none }
def CacheExactWrongFalsely : Prop := cacheExactRow.holds Try.pinned (OpenSpec.ofChange cacheExactWrong)

/-- 'warmpathlaw17.CacheWays': WHATEVER THE INPUT: true; the input reads as it did. -/
def cacheWaysSpec : ChangeSpec := { name := "cacheWays", fn := fun _ => fun
  | [d1, d2] => { results := [.lit (.bool true)], args := [d1, d2] }
  | _ => none }
def cacheWaysRow : OpenClaim := { program := "ytdioheaklahnnaa", sum := "37466fc002e5ea8a53904b36a4e16d403e5bee83903c4634100c7bb3753e095f", func := "warmpath/warmpathlaw17.CacheWays", spec := "cacheWays", inPlace := ["slices.overlaps[int]"], recurses := true, apart := false }
def CacheWaysSaid : Prop := cacheWaysRow.holds Try.pinned (OpenSpec.ofChange cacheWaysSpec)

/-- ITS FALSE NEIGHBOUR: 'it returns false'. Refute it at one input. -/
def cacheWaysWrong : ChangeSpec := { name := "cacheWays", fn := fun _ => fun
  | [d1, d2] => { results := [.lit (.bool false)], args := [d1, d2] }
  | _ => none }
def CacheWaysWrongFalsely : Prop := cacheWaysRow.holds Try.pinned (OpenSpec.ofChange cacheWaysWrong)

/-- 'warmpathlaw17.CacheEnough': WHATEVER THE INPUT: true; the input reads as it did. -/
def cacheEnoughSpec : ChangeSpec := { name := "cacheEnough", fn := fun _ => fun
  | [d] => { results := [.lit (.bool true)], args := [d] }
  | _ => none }
def cacheEnoughRow : OpenClaim := { program := "ytdioheaklahnnaa", sum := "37466fc002e5ea8a53904b36a4e16d403e5bee83903c4634100c7bb3753e095f", func := "warmpath/warmpathlaw17.CacheEnough", spec := "cacheEnough", inPlace := ["slices.overlaps[int]"], recurses := true, apart := false }
def CacheEnoughSaid : Prop := cacheEnoughRow.holds Try.pinned (OpenSpec.ofChange cacheEnoughSpec)

/-- ITS FALSE NEIGHBOUR: 'it returns false'. Refute it at one input. -/
def cacheEnoughWrong : ChangeSpec := { name := "cacheEnough", fn := fun _ => fun
  | [d] => { results := [.lit (.bool false)], args := [d] }
  | _ => none }
def CacheEnoughWrongFalsely : Prop := cacheEnoughRow.holds Try.pinned (OpenSpec.ofChange cacheEnoughWrong)

/-- 'warmpathlaw17.CacheSets': WHATEVER THE INPUT: true; the input reads as it did. -/
def cacheSetsSpec : ChangeSpec := { name := "cacheSets", fn := fun _ => fun
  | [d] => { results := [.lit (.bool true)], args := [d] }
  | _ => none }
def cacheSetsRow : OpenClaim := { program := "ytdioheaklahnnaa", sum := "37466fc002e5ea8a53904b36a4e16d403e5bee83903c4634100c7bb3753e095f", func := "warmpath/warmpathlaw17.CacheSets", spec := "cacheSets", inPlace := ["slices.overlaps[int]"], recurses := true, apart := false }
def CacheSetsSaid : Prop := cacheSetsRow.holds Try.pinned (OpenSpec.ofChange cacheSetsSpec)

/-- ITS FALSE NEIGHBOUR: 'it returns false'. Refute it at one input. -/
def cacheSetsWrong : ChangeSpec := { name := "cacheSets", fn := fun _ => fun
  | [d] => { results := [.lit (.bool false)], args := [d] }
  | _ => none }
def CacheSetsWrongFalsely : Prop := cacheSetsRow.holds Try.pinned (OpenSpec.ofChange cacheSetsWrong)

/- THE SECOND FORM. 'bulk': how many values and letters a reading holds, each counted each time it is reached (what is shared counts as often as it is met; a slice's spare places count too). A statement '..UptoSaid' is the law's where the arguments, and the package variables that the reading takes, are together of bulk at most 1048576: NARROWER than '..Said'. Prove '..Said' where nothing that the law and all that it calls make is longer than what came in: it says more and counts as full. Else prove '..UptoSaid'. A law counts once. -/
mutual
def uptoBulk {H : Type} : DataW H → Nat
  | .lit (.string bytes) => bytes.length + 1
  | .lit _ => 1
  | .nil => 1
  | .ptr d => uptoBulk d + 1
  | .slice elems spare => uptoBulkAll elems + uptoBulkAll spare + 1
  | .agg parts => uptoBulkAll parts + 1
  | .iface _ d => uptoBulk d + 1
  | .map entries => uptoBulkEntries entries + 1
  | .held _ => 1
def uptoBulkAll {H : Type} : List (DataW H) → Nat
  | [] => 0
  | d :: r => uptoBulk d + uptoBulkAll r
def uptoBulkEntries {H : Type} : List (Lit × DataW H) → Nat
  | [] => 0
  | x :: r => uptoBulkEntry x + uptoBulkEntries r
def uptoBulkEntry {H : Type} : Lit × DataW H → Nat
  | (.string bytes, d) => bytes.length + uptoBulk d + 1
  | (_, d) => uptoBulk d + 1
 end
def uptoSmall : (H : Type) → List (DataW H) → Bool := fun _ ds => decide (uptoBulkAll ds ≤ 1048576)
def OpenSpec.upto (s : _root_.Go.ChangeSpec) : _root_.Go.OpenSpec := { _root_.Go.OpenSpec.ofChange s with cond := some uptoSmall }

/-- 'warmpathlaw17.CacheRecent', WHERE WHAT IT READS IS OF BULK AT MOST 1048576: true; the input reads as it did. -/
def cacheRecentUptoRow : OpenClaim := { program := "ytdioheaklahnnaa", sum := "37466fc002e5ea8a53904b36a4e16d403e5bee83903c4634100c7bb3753e095f", func := "warmpath/warmpathlaw17.CacheRecent", spec := "cacheRecent", inPlace := ["slices.overlaps[int]"], recurses := true, apart := false, narrowed := true }
def CacheRecentUptoSaid : Prop := cacheRecentUptoRow.holds Try.pinned (OpenSpec.upto cacheRecentSpec)

/-- 'warmpathlaw17.CacheExact', WHERE WHAT IT READS IS OF BULK AT MOST 1048576: true; the input reads as it did. -/
def cacheExactUptoRow : OpenClaim := { program := "ytdioheaklahnnaa", sum := "37466fc002e5ea8a53904b36a4e16d403e5bee83903c4634100c7bb3753e095f", func := "warmpath/warmpathlaw17.CacheExact", spec := "cacheExact", inPlace := ["slices.overlaps[int]"], recurses := true, apart := false, narrowed := true }
def CacheExactUptoSaid : Prop := cacheExactUptoRow.holds Try.pinned (OpenSpec.upto cacheExactSpec)

/-- 'warmpathlaw17.CacheWays', WHERE WHAT IT READS IS OF BULK AT MOST 1048576: true; the input reads as it did. -/
def cacheWaysUptoRow : OpenClaim := { program := "ytdioheaklahnnaa", sum := "37466fc002e5ea8a53904b36a4e16d403e5bee83903c4634100c7bb3753e095f", func := "warmpath/warmpathlaw17.CacheWays", spec := "cacheWays", inPlace := ["slices.overlaps[int]"], recurses := true, apart := false, narrowed := true }
def CacheWaysUptoSaid : Prop := cacheWaysUptoRow.holds Try.pinned (OpenSpec.upto cacheWaysSpec)

/-- 'warmpathlaw17.CacheEnough', WHERE WHAT IT READS IS OF BULK AT MOST 1048576: true; the input reads as it did. -/
def cacheEnoughUptoRow : OpenClaim := { program := "ytdioheaklahnnaa", sum := "37466fc002e5ea8a53904b36a4e16d403e5bee83903c4634100c7bb3753e095f", func := "warmpath/warmpathlaw17.CacheEnough", spec := "cacheEnough", inPlace := ["slices.overlaps[int]"], recurses := true, apart := false, narrowed := true }
def CacheEnoughUptoSaid : Prop := cacheEnoughUptoRow.holds Try.pinned (OpenSpec.upto cacheEnoughSpec)

/-- 'warmpathlaw17.CacheSets', WHERE WHAT IT READS IS OF BULK AT MOST 1048576: true; the input reads as it did. -/
def cacheSetsUptoRow : OpenClaim := { program := "ytdioheaklahnnaa", sum := "37466fc002e5ea8a53904b36a4e16d403e5bee83903c4634100c7bb3753e095f", func := "warmpath/warmpathlaw17.CacheSets", spec := "cacheSets", inPlace := ["slices.overlaps[int]"], recurses := true, apart := false, narrowed := true }
def CacheSetsUptoSaid : Prop := cacheSetsUptoRow.holds Try.pinned (OpenSpec.upto cacheSetsSpec)

end Rows
end Go.Proofs.Ytdioheaklahnnaa
