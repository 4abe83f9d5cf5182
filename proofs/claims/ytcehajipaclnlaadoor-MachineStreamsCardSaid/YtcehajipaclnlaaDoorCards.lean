/-
  DERIVED. GIVEN WITH THE SEED: THE CARDS: each row of YtcehajipaclnlaaDoorRows.lean that lists a variable, with what it lists TIED to the program's text (the seventh form; the later family's looks); each row that meets fmt, with fmt's text TOLD by the authors' own Lean function (tested against real Go, not proved from fmt's source: count such statements apart). THE CARD IS WHAT COUNTS. Prove the row's statement (the work); the ties are given (YtcehajipaclnlaaDoorTie.lean); close each card by the builder's one call (the guide's Derived/Test/ToyasCard.lean, 'card_holds'). Laid BY PROGRAM, IN A SANDBOX (cutbox-door.mjs). By AI agents, Wed Nov 11 2026. No macro, syntax, notation, axiom, sorry.
-/
import Derived.Test.YtcehajipaclnlaaDoorRows
import GoSem.ClaimSeven
namespace Go.Proofs.YtcehajipaclnlaaDoor
namespace Rows

/-- THE TIED CARD OF 'warmpathlaw12.MachineSizes'. -/
def machineSizesCard : Claim7 := { stood := { row := machineSizesRow, standIns := [], harness := (true, "456c308ea6b1b3d0f1ef8307801150e030a3c17c3c2f350bb67a68b3240d6bc7"), looks := false }, kinds := [], alts := [], laidByText := true, laidKinds := [.data], laidTests := true, laidLooks := .later }
def MachineSizesCardSaid : Prop := Claim7.holds Tryd.pinned (.plain (OpenSpec.ofChange machineSizesSpec)) machineSizesCard

/-- THE TIED CARD OF 'warmpathlaw12.MachineStreams'. -/
def machineStreamsCard : Claim7 := { stood := { row := machineStreamsRow, standIns := [], harness := (true, "456c308ea6b1b3d0f1ef8307801150e030a3c17c3c2f350bb67a68b3240d6bc7"), looks := false }, kinds := [], alts := [], laidByText := true, laidKinds := [.data], laidTests := true, laidLooks := .later }
def MachineStreamsCardSaid : Prop := Claim7.holds Tryd.pinned (.plain (OpenSpec.ofChange machineStreamsSpec)) machineStreamsCard

/-- THE TIED CARD OF 'warmpathlaw12.MachineBack'. -/
def machineBackCard : Claim7 := { stood := { row := machineBackRow, standIns := [], harness := (true, "456c308ea6b1b3d0f1ef8307801150e030a3c17c3c2f350bb67a68b3240d6bc7"), looks := false }, kinds := [], alts := [], laidByText := true, laidKinds := [.data], laidTests := true, laidLooks := .later }
def MachineBackCardSaid : Prop := Claim7.holds Tryd.pinned (.plain (OpenSpec.ofChange machineBackSpec)) machineBackCard

/-- THE SECOND FORM's CARD OF 'warmpathlaw12.MachineSizes'. -/
def machineSizesUptoCard : Claim7 := { stood := { row := machineSizesUptoRow, standIns := [], harness := (true, "456c308ea6b1b3d0f1ef8307801150e030a3c17c3c2f350bb67a68b3240d6bc7"), looks := false }, kinds := [], alts := [], laidByText := true, laidKinds := [.data], laidTests := true, laidLooks := .later }
def MachineSizesUptoCardSaid : Prop := Claim7.holds Tryd.pinned (.plain (OpenSpec.upto machineSizesSpec)) machineSizesUptoCard

/-- THE SECOND FORM's CARD OF 'warmpathlaw12.MachineStreams'. -/
def machineStreamsUptoCard : Claim7 := { stood := { row := machineStreamsUptoRow, standIns := [], harness := (true, "456c308ea6b1b3d0f1ef8307801150e030a3c17c3c2f350bb67a68b3240d6bc7"), looks := false }, kinds := [], alts := [], laidByText := true, laidKinds := [.data], laidTests := true, laidLooks := .later }
def MachineStreamsUptoCardSaid : Prop := Claim7.holds Tryd.pinned (.plain (OpenSpec.upto machineStreamsSpec)) machineStreamsUptoCard

/-- THE SECOND FORM's CARD OF 'warmpathlaw12.MachineBack'. -/
def machineBackUptoCard : Claim7 := { stood := { row := machineBackUptoRow, standIns := [], harness := (true, "456c308ea6b1b3d0f1ef8307801150e030a3c17c3c2f350bb67a68b3240d6bc7"), looks := false }, kinds := [], alts := [], laidByText := true, laidKinds := [.data], laidTests := true, laidLooks := .later }
def MachineBackUptoCardSaid : Prop := Claim7.holds Tryd.pinned (.plain (OpenSpec.upto machineBackSpec)) machineBackUptoCard
end Rows
end Go.Proofs.YtcehajipaclnlaaDoor
