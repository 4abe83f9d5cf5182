/-
  NARROWER THAN 'FOR EVERY INPUT', by the rows' own cells (each row's printed sentence says how): LinkPlaces: laid · LinkOrders: laid · LinkFinds: laid.
  DERIVED. THE GIVEN ROWS OF THIS SEAT. 3 by the template 'for every input the law returns true; each argument reads behind the call as it read before'; 0 by the template 'total and deterministic' (their statements: YtoipcimfapppmaaGreatDoorTotals.lean).
  GIVEN WITH THE SEED: the statements are not yours to turn. If you find one false, say at which input.
  Laid BY PROGRAM, IN A SANDBOX (cutbox-rows.mjs): the forced cells as the released guide's own fill.sh prints them over the translation 2784c113b3da166a… (all of the seat's roots in one cut). By AI agents, Wed Nov 11 2026. No macro, syntax, notation, axiom, sorry.
-/
import Derived.Test.YtoipcimfapppmaaGreatDoorChecked
import GoSem.Claim
import GoSem.ClaimJoined
import GoSem.ClaimMapViews
import Derived.JoinedTies
import Derived.KernelRfl
namespace Go.Proofs.YtoipcimfapppmaaGreatDoor
/- THE CELL 'sum', in the pinned program and in every row, IS THE sha256 OF THE DUMP (.gsa) THAT YtoipcimfapppmaaGreatDoorProg.lean LOADS. Nothing in Lean hashes anything: it is a label: what it is worth is what the hold of that sum in a sandbox is worth. -/
noncomputable def Tryz.pinned : Pinned := { name := "ytoipcimfapppmaagreatdoor", sum := "2784c113b3da166ad36e5116f6c2de08e418bedb755d639c54161c99817b8af9", checked := Tryz.checked }
namespace Rows
def none {H : Type} : Left H := { results := [], args := [] }

/- WHAT THE LISTED PACKAGE-LEVEL VARIABLES READ AS WHEN THE CALL BEGINS. Each datum BY PROGRAM (the guide's laid-datum.mjs) off the statement by which the dump's own 'gosem.cut.vars' lays the variable. In a bare row this is a premise. The card (YtoipcimfapppmaaGreatDoorCards.lean) ties it to the program's text. -/
def laid_warmpath_machine_rows {H : Type} : DataW H := .agg [.lit (.string []), .lit (.string [100, 56]), .lit (.string [100, 97]), .lit (.string [111, 100, 97]), .lit (.string [111, 100, 97, 98]), .lit (.string [100, 49]), .lit (.string [97, 49]), .lit (.string [100, 97, 49]), .lit (.string [97, 98, 49]), .lit (.string [100]), .lit (.string [97]), .lit (.string [100, 52, 110]), .lit (.string [100, 97, 110]), .lit (.string [106]), .lit (.string [97, 106]), .lit (.string [97, 106]), .lit (.string [97]), .lit (.string [50]), .lit (.string [100, 49])]

/-- 'warmpathlaw14.LinkPlaces': WHATEVER THE INPUT: true; the input reads as it did. -/
def linkPlacesSpec : ChangeSpec := { name := "linkPlaces", fn := fun _ => fun
  | [d] => { results := [.lit (.bool true)], args := [d] }
  | _ => none }
def linkPlacesRow : OpenClaim := { program := "ytoipcimfapppmaagreatdoor", sum := "2784c113b3da166ad36e5116f6c2de08e418bedb755d639c54161c99817b8af9", func := "warmpath/warmpathlaw14.LinkPlaces", spec := "linkPlaces", unfollowed := true, recurses := true, named := ["warmpath/machine.rows"], apart := false, laid := [("warmpath/machine.rows", laid_warmpath_machine_rows)] }
def LinkPlacesSaid : Prop := linkPlacesRow.holds Tryz.pinned (OpenSpec.ofChange linkPlacesSpec)

/-- ITS FALSE NEIGHBOUR: 'it returns false'. Refute it at one input. -/
def linkPlacesWrong : ChangeSpec := { name := "linkPlaces", fn := fun _ => fun
  | [d] => { results := [.lit (.bool false)], args := [d] }
  | _ => none }
def LinkPlacesWrongFalsely : Prop := linkPlacesRow.holds Tryz.pinned (OpenSpec.ofChange linkPlacesWrong)

/-- 'warmpathlaw14.LinkOrders': WHATEVER THE INPUT: true; the input reads as it did. -/
def linkOrdersSpec : ChangeSpec := { name := "linkOrders", fn := fun _ => fun
  | [d] => { results := [.lit (.bool true)], args := [d] }
  | _ => none }
def linkOrdersRow : OpenClaim := { program := "ytoipcimfapppmaagreatdoor", sum := "2784c113b3da166ad36e5116f6c2de08e418bedb755d639c54161c99817b8af9", func := "warmpath/warmpathlaw14.LinkOrders", spec := "linkOrders", unfollowed := true, recurses := true, named := ["warmpath/machine.rows"], apart := false, laid := [("warmpath/machine.rows", laid_warmpath_machine_rows)] }
def LinkOrdersSaid : Prop := linkOrdersRow.holds Tryz.pinned (OpenSpec.ofChange linkOrdersSpec)

/-- ITS FALSE NEIGHBOUR: 'it returns false'. Refute it at one input. -/
def linkOrdersWrong : ChangeSpec := { name := "linkOrders", fn := fun _ => fun
  | [d] => { results := [.lit (.bool false)], args := [d] }
  | _ => none }
def LinkOrdersWrongFalsely : Prop := linkOrdersRow.holds Tryz.pinned (OpenSpec.ofChange linkOrdersWrong)

/-- 'warmpathlaw14.LinkFinds': WHATEVER THE INPUT: true; the input reads as it did. -/
def linkFindsSpec : ChangeSpec := { name := "linkFinds", fn := fun _ => fun
  | [d1, d2, d3, d4] => { results := [.lit (.bool true)], args := [d1, d2, d3, d4] }
  | _ => none }
def linkFindsRow : OpenClaim := { program := "ytoipcimfapppmaagreatdoor", sum := "2784c113b3da166ad36e5116f6c2de08e418bedb755d639c54161c99817b8af9", func := "warmpath/warmpathlaw14.LinkFinds", spec := "linkFinds", unfollowed := true, recurses := true, named := ["warmpath/machine.rows"], apart := false, laid := [("warmpath/machine.rows", laid_warmpath_machine_rows)] }
def LinkFindsSaid : Prop := linkFindsRow.holds Tryz.pinned (OpenSpec.ofChange linkFindsSpec)

/-- ITS FALSE NEIGHBOUR: 'it returns false'. Refute it at one input. -/
def linkFindsWrong : ChangeSpec := { name := "linkFinds", fn := fun _ => fun
  | [d1, d2, d3, d4] => { results := [.lit (.bool false)], args := [d1, d2, d3, d4] }
  | _ => none }
def LinkFindsWrongFalsely : Prop := linkFindsRow.holds Tryz.pinned (OpenSpec.ofChange linkFindsWrong)

/- THE SECOND FORM. 'bulk': how many values and letters a reading holds, each counted each time it is reached (what is shared counts as often as it is met; a slice's spare places count too). A statement '..UptoSaid' is the law's where the arguments, and the package variables that the reading takes, are together of bulk at most 1048576: NARROWER than '..Said'. Prove '..Said' where nothing that the law and all that it calls make is longer than what came in: it says more and counts as full. Else prove '..UptoSaid'. A law counts once. -/
mutual
def uptoBulk {H : Type} : DataW H → Nat
  | .lit (.string bytes) => bytes.length + 1
  | .lit _ => 1
  | .nil => 1
  | .ptr d => uptoBulk d + 1
  | .slice elems spare => uptoBulkAll elems + uptoBulkAll spare + 1
  | .agg parts => uptoBulkAll parts + 1
  | .iface _ d => uptoBulk d + 1
  | .map entries => uptoBulkEntries entries + 1
  | .held _ => 1
def uptoBulkAll {H : Type} : List (DataW H) → Nat
  | [] => 0
  | d :: r => uptoBulk d + uptoBulkAll r
def uptoBulkEntries {H : Type} : List (Lit × DataW H) → Nat
  | [] => 0
  | x :: r => uptoBulkEntry x + uptoBulkEntries r
def uptoBulkEntry {H : Type} : Lit × DataW H → Nat
  | (.string bytes, d) => bytes.length + uptoBulk d + 1
  | (_, d) => uptoBulk d + 1
 end
def uptoSmall : (H : Type) → List (DataW H) → Bool := fun _ ds => decide (uptoBulkAll ds ≤ 1048576)
def OpenSpec.upto (s : _root_.Go.ChangeSpec) : _root_.Go.OpenSpec := { _root_.Go.OpenSpec.ofChange s with cond := some uptoSmall }

/-- 'warmpathlaw14.LinkPlaces', WHERE WHAT IT READS IS OF BULK AT MOST 1048576: true; the input reads as it did. -/
def linkPlacesUptoRow : OpenClaim := { program := "ytoipcimfapppmaagreatdoor", sum := "2784c113b3da166ad36e5116f6c2de08e418bedb755d639c54161c99817b8af9", func := "warmpath/warmpathlaw14.LinkPlaces", spec := "linkPlaces", unfollowed := true, recurses := true, named := ["warmpath/machine.rows"], apart := false, laid := [("warmpath/machine.rows", laid_warmpath_machine_rows)], narrowed := true }
def LinkPlacesUptoSaid : Prop := linkPlacesUptoRow.holds Tryz.pinned (OpenSpec.upto linkPlacesSpec)

/-- 'warmpathlaw14.LinkOrders', WHERE WHAT IT READS IS OF BULK AT MOST 1048576: true; the input reads as it did. -/
def linkOrdersUptoRow : OpenClaim := { program := "ytoipcimfapppmaagreatdoor", sum := "2784c113b3da166ad36e5116f6c2de08e418bedb755d639c54161c99817b8af9", func := "warmpath/warmpathlaw14.LinkOrders", spec := "linkOrders", unfollowed := true, recurses := true, named := ["warmpath/machine.rows"], apart := false, laid := [("warmpath/machine.rows", laid_warmpath_machine_rows)], narrowed := true }
def LinkOrdersUptoSaid : Prop := linkOrdersUptoRow.holds Tryz.pinned (OpenSpec.upto linkOrdersSpec)

/-- 'warmpathlaw14.LinkFinds', WHERE WHAT IT READS IS OF BULK AT MOST 1048576: true; the input reads as it did. -/
def linkFindsUptoRow : OpenClaim := { program := "ytoipcimfapppmaagreatdoor", sum := "2784c113b3da166ad36e5116f6c2de08e418bedb755d639c54161c99817b8af9", func := "warmpath/warmpathlaw14.LinkFinds", spec := "linkFinds", unfollowed := true, recurses := true, named := ["warmpath/machine.rows"], apart := false, laid := [("warmpath/machine.rows", laid_warmpath_machine_rows)], narrowed := true }
def LinkFindsUptoSaid : Prop := linkFindsUptoRow.holds Tryz.pinned (OpenSpec.upto linkFindsSpec)

end Rows
end Go.Proofs.YtoipcimfapppmaaGreatDoor
