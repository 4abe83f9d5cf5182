/-
  NARROWER THAN 'FOR EVERY INPUT', by the rows' own cells (each row's printed sentence says how): MachineSizes: laid · MachineStreams: laid · MachineBack: laid.
  DERIVED. THE GIVEN ROWS OF THIS SEAT. 3 by the template 'for every input the law returns true; each argument reads behind the call as it read before'; 0 by the template 'total and deterministic' (their statements: YtcehajipaclnlaaDoorTotals.lean).
  GIVEN WITH THE SEED: the statements are not yours to turn. If you find one false, say at which input.
  Laid BY PROGRAM, IN A SANDBOX (cutbox-rows.mjs): the forced cells as the released guide's own fill.sh prints them over the translation d2b7306f511fdfa9… (all of the seat's roots in one cut). By AI agents, Wed Nov 11 2026. No macro, syntax, notation, axiom, sorry.
-/
import Derived.Test.YtcehajipaclnlaaDoorChecked
import GoSem.Claim
import GoSem.ClaimJoined
import GoSem.ClaimMapViews
import Derived.JoinedTies
import Derived.KernelRfl
namespace Go.Proofs.YtcehajipaclnlaaDoor
/- THE CELL 'sum', in the pinned program and in every row, IS THE sha256 OF THE DUMP (.gsa) THAT YtcehajipaclnlaaDoorProg.lean LOADS. Nothing in Lean hashes anything: it is a label: what it is worth is what the hold of that sum in a sandbox is worth. -/
noncomputable def Tryd.pinned : Pinned := { name := "ytcehajipaclnlaadoor", sum := "d2b7306f511fdfa932f95f387f300644eff0f21817c7854f3b178fc571a9c61d", checked := Tryd.checked }
namespace Rows
def none {H : Type} : Left H := { results := [], args := [] }

/- WHAT THE LISTED PACKAGE-LEVEL VARIABLES READ AS WHEN THE CALL BEGINS. Each datum BY PROGRAM (the guide's laid-datum.mjs) off the statement by which the dump's own 'gosem.cut.vars' lays the variable. In a bare row this is a premise. The card (YtcehajipaclnlaaDoorCards.lean) ties it to the program's text. -/
def laid_warmpath_machine_rows {H : Type} : DataW H := .agg [.lit (.string []), .lit (.string [100, 56]), .lit (.string [100, 97]), .lit (.string [111, 100, 97]), .lit (.string [111, 100, 97, 98]), .lit (.string [100, 49]), .lit (.string [97, 49]), .lit (.string [100, 97, 49]), .lit (.string [97, 98, 49]), .lit (.string [100]), .lit (.string [97]), .lit (.string [100, 52, 110]), .lit (.string [100, 97, 110]), .lit (.string [106]), .lit (.string [97, 106]), .lit (.string [97, 106]), .lit (.string [97]), .lit (.string [50]), .lit (.string [100, 49])]

/-- 'warmpathlaw12.MachineSizes': WHATEVER THE INPUT: true; the input reads as it did. -/
def machineSizesSpec : ChangeSpec := { name := "machineSizes", fn := fun _ => fun
  | [d1, d2] => { results := [.lit (.bool true)], args := [d1, d2] }
  | _ => none }
def machineSizesRow : OpenClaim := { program := "ytcehajipaclnlaadoor", sum := "d2b7306f511fdfa932f95f387f300644eff0f21817c7854f3b178fc571a9c61d", func := "warmpath/warmpathlaw12.MachineSizes", spec := "machineSizes", unfollowed := true, recurses := true, named := ["warmpath/machine.rows"], apart := false, laid := [("warmpath/machine.rows", laid_warmpath_machine_rows)] }
def MachineSizesSaid : Prop := machineSizesRow.holds Tryd.pinned (OpenSpec.ofChange machineSizesSpec)

/-- ITS FALSE NEIGHBOUR: 'it returns false'. Refute it at one input. -/
def machineSizesWrong : ChangeSpec := { name := "machineSizes", fn := fun _ => fun
  | [d1, d2] => { results := [.lit (.bool false)], args := [d1, d2] }
  | _ => none }
def MachineSizesWrongFalsely : Prop := machineSizesRow.holds Tryd.pinned (OpenSpec.ofChange machineSizesWrong)

/-- 'warmpathlaw12.MachineStreams': WHATEVER THE INPUT: true; the input reads as it did. -/
def machineStreamsSpec : ChangeSpec := { name := "machineStreams", fn := fun _ => fun
  | [d] => { results := [.lit (.bool true)], args := [d] }
  | _ => none }
def machineStreamsRow : OpenClaim := { program := "ytcehajipaclnlaadoor", sum := "d2b7306f511fdfa932f95f387f300644eff0f21817c7854f3b178fc571a9c61d", func := "warmpath/warmpathlaw12.MachineStreams", spec := "machineStreams", unfollowed := true, recurses := true, named := ["warmpath/machine.rows"], apart := false, laid := [("warmpath/machine.rows", laid_warmpath_machine_rows)] }
def MachineStreamsSaid : Prop := machineStreamsRow.holds Tryd.pinned (OpenSpec.ofChange machineStreamsSpec)

/-- ITS FALSE NEIGHBOUR: 'it returns false'. Refute it at one input. -/
def machineStreamsWrong : ChangeSpec := { name := "machineStreams", fn := fun _ => fun
  | [d] => { results := [.lit (.bool false)], args := [d] }
  | _ => none }
def MachineStreamsWrongFalsely : Prop := machineStreamsRow.holds Tryd.pinned (OpenSpec.ofChange machineStreamsWrong)

/-- 'warmpathlaw12.MachineBack': WHATEVER THE INPUT: true; the input reads as it did. -/
def machineBackSpec : ChangeSpec := { name := "machineBack", fn := fun _ => fun
  | [d1, d2, d3] => { results := [.lit (.bool true)], args := [d1, d2, d3] }
  | _ => none }
def machineBackRow : OpenClaim := { program := "ytcehajipaclnlaadoor", sum := "d2b7306f511fdfa932f95f387f300644eff0f21817c7854f3b178fc571a9c61d", func := "warmpath/warmpathlaw12.MachineBack", spec := "machineBack", unfollowed := true, recurses := true, named := ["warmpath/machine.rows"], apart := false, laid := [("warmpath/machine.rows", laid_warmpath_machine_rows)] }
def MachineBackSaid : Prop := machineBackRow.holds Tryd.pinned (OpenSpec.ofChange machineBackSpec)

/-- ITS FALSE NEIGHBOUR: 'it returns false'. Refute it at one input. -/
def machineBackWrong : ChangeSpec := { name := "machineBack", fn := fun _ => fun
  | [d1, d2, d3] => { results := [.lit (.bool false)], args := [d1, d2, d3] }
  | _ => none }
def MachineBackWrongFalsely : Prop := machineBackRow.holds Tryd.pinned (OpenSpec.ofChange machineBackWrong)

/- THE SECOND FORM. 'bulk': how many values and letters a reading holds, each counted each time it is reached (what is shared counts as often as it is met; a slice's spare places count too). A statement '..UptoSaid' is the law's where the arguments, and the package variables that the reading takes, are together of bulk at most 1048576: NARROWER than '..Said'. Prove '..Said' where nothing that the law and all that it calls make is longer than what came in: it says more and counts as full. Else prove '..UptoSaid'. A law counts once. -/
mutual
def uptoBulk {H : Type} : DataW H → Nat
  | .lit (.string bytes) => bytes.length + 1
  | .lit _ => 1
  | .nil => 1
  | .ptr d => uptoBulk d + 1
  | .slice elems spare => uptoBulkAll elems + uptoBulkAll spare + 1
  | .agg parts => uptoBulkAll parts + 1
  | .iface _ d => uptoBulk d + 1
  | .map entries => uptoBulkEntries entries + 1
  | .held _ => 1
def uptoBulkAll {H : Type} : List (DataW H) → Nat
  | [] => 0
  | d :: r => uptoBulk d + uptoBulkAll r
def uptoBulkEntries {H : Type} : List (Lit × DataW H) → Nat
  | [] => 0
  | x :: r => uptoBulkEntry x + uptoBulkEntries r
def uptoBulkEntry {H : Type} : Lit × DataW H → Nat
  | (.string bytes, d) => bytes.length + uptoBulk d + 1
  | (_, d) => uptoBulk d + 1
 end
def uptoSmall : (H : Type) → List (DataW H) → Bool := fun _ ds => decide (uptoBulkAll ds ≤ 1048576)
def OpenSpec.upto (s : _root_.Go.ChangeSpec) : _root_.Go.OpenSpec := { _root_.Go.OpenSpec.ofChange s with cond := some uptoSmall }

/-- 'warmpathlaw12.MachineSizes', WHERE WHAT IT READS IS OF BULK AT MOST 1048576: true; the input reads as it did. -/
def machineSizesUptoRow : OpenClaim := { program := "ytcehajipaclnlaadoor", sum := "d2b7306f511fdfa932f95f387f300644eff0f21817c7854f3b178fc571a9c61d", func := "warmpath/warmpathlaw12.MachineSizes", spec := "machineSizes", unfollowed := true, recurses := true, named := ["warmpath/machine.rows"], apart := false, laid := [("warmpath/machine.rows", laid_warmpath_machine_rows)], narrowed := true }
def MachineSizesUptoSaid : Prop := machineSizesUptoRow.holds Tryd.pinned (OpenSpec.upto machineSizesSpec)

/-- 'warmpathlaw12.MachineStreams', WHERE WHAT IT READS IS OF BULK AT MOST 1048576: true; the input reads as it did. -/
def machineStreamsUptoRow : OpenClaim := { program := "ytcehajipaclnlaadoor", sum := "d2b7306f511fdfa932f95f387f300644eff0f21817c7854f3b178fc571a9c61d", func := "warmpath/warmpathlaw12.MachineStreams", spec := "machineStreams", unfollowed := true, recurses := true, named := ["warmpath/machine.rows"], apart := false, laid := [("warmpath/machine.rows", laid_warmpath_machine_rows)], narrowed := true }
def MachineStreamsUptoSaid : Prop := machineStreamsUptoRow.holds Tryd.pinned (OpenSpec.upto machineStreamsSpec)

/-- 'warmpathlaw12.MachineBack', WHERE WHAT IT READS IS OF BULK AT MOST 1048576: true; the input reads as it did. -/
def machineBackUptoRow : OpenClaim := { program := "ytcehajipaclnlaadoor", sum := "d2b7306f511fdfa932f95f387f300644eff0f21817c7854f3b178fc571a9c61d", func := "warmpath/warmpathlaw12.MachineBack", spec := "machineBack", unfollowed := true, recurses := true, named := ["warmpath/machine.rows"], apart := false, laid := [("warmpath/machine.rows", laid_warmpath_machine_rows)], narrowed := true }
def MachineBackUptoSaid : Prop := machineBackUptoRow.holds Tryd.pinned (OpenSpec.upto machineBackSpec)

end Rows
end Go.Proofs.YtcehajipaclnlaaDoor
