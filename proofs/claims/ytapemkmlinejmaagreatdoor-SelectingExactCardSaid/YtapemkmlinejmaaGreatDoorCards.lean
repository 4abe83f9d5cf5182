/-
  DERIVED. GIVEN WITH THE SEED: THE CARDS: each row of YtapemkmlinejmaaGreatDoorRows.lean that lists a variable, with what it lists TIED to the program's text (the seventh form; the later family's looks); each row that meets fmt, with fmt's text TOLD by the authors' own Lean function (tested against real Go, not proved from fmt's source: count such statements apart). THE CARD IS WHAT COUNTS. Prove the row's statement (the work); the ties are given (YtapemkmlinejmaaGreatDoorTie.lean); close each card by the builder's one call (the guide's Derived/Test/ToyasCard.lean, 'card_holds'). Laid BY PROGRAM, IN A SANDBOX (cutbox-door.mjs). By AI agents, Wed Nov 11 2026. No macro, syntax, notation, axiom, sorry.
-/
import Derived.Test.YtapemkmlinejmaaGreatDoorRows
import GoSem.ClaimSeven
namespace Go.Proofs.YtapemkmlinejmaaGreatDoor
namespace Rows

/-- THE TIED CARD OF 'warmpathlaw13.SelectingOrders'. -/
def selectingOrdersCard : Claim7 := { stood := { row := selectingOrdersRow, standIns := [], harness := (true, "5d1bac01f7af0bfef4a3b659bea37a220ee3904ed430b826ae7ebedd5b38a070"), looks := false }, kinds := [], alts := [], laidByText := true, laidKinds := [.data], laidTests := true, laidLooks := .later }
def SelectingOrdersCardSaid : Prop := Claim7.holds Tryz.pinned (.plain (OpenSpec.ofChange selectingOrdersSpec)) selectingOrdersCard

/-- THE TIED CARD OF 'warmpathlaw13.SelectingExact'. -/
def selectingExactCard : Claim7 := { stood := { row := selectingExactRow, standIns := [], harness := (true, "5d1bac01f7af0bfef4a3b659bea37a220ee3904ed430b826ae7ebedd5b38a070"), looks := false }, kinds := [], alts := [], laidByText := true, laidKinds := [.data], laidTests := true, laidLooks := .later }
def SelectingExactCardSaid : Prop := Claim7.holds Tryz.pinned (.plain (OpenSpec.ofChange selectingExactSpec)) selectingExactCard

/-- THE TIED CARD OF 'warmpathlaw13.SelectingJumps'. -/
def selectingJumpsCard : Claim7 := { stood := { row := selectingJumpsRow, standIns := [], harness := (true, "5d1bac01f7af0bfef4a3b659bea37a220ee3904ed430b826ae7ebedd5b38a070"), looks := false }, kinds := [], alts := [], laidByText := true, laidKinds := [.data], laidTests := true, laidLooks := .later }
def SelectingJumpsCardSaid : Prop := Claim7.holds Tryz.pinned (.plain (OpenSpec.ofChange selectingJumpsSpec)) selectingJumpsCard

/-- THE SECOND FORM's CARD OF 'warmpathlaw13.SelectingOrders'. -/
def selectingOrdersUptoCard : Claim7 := { stood := { row := selectingOrdersUptoRow, standIns := [], harness := (true, "5d1bac01f7af0bfef4a3b659bea37a220ee3904ed430b826ae7ebedd5b38a070"), looks := false }, kinds := [], alts := [], laidByText := true, laidKinds := [.data], laidTests := true, laidLooks := .later }
def SelectingOrdersUptoCardSaid : Prop := Claim7.holds Tryz.pinned (.plain (OpenSpec.upto selectingOrdersSpec)) selectingOrdersUptoCard

/-- THE SECOND FORM's CARD OF 'warmpathlaw13.SelectingExact'. -/
def selectingExactUptoCard : Claim7 := { stood := { row := selectingExactUptoRow, standIns := [], harness := (true, "5d1bac01f7af0bfef4a3b659bea37a220ee3904ed430b826ae7ebedd5b38a070"), looks := false }, kinds := [], alts := [], laidByText := true, laidKinds := [.data], laidTests := true, laidLooks := .later }
def SelectingExactUptoCardSaid : Prop := Claim7.holds Tryz.pinned (.plain (OpenSpec.upto selectingExactSpec)) selectingExactUptoCard

/-- THE SECOND FORM's CARD OF 'warmpathlaw13.SelectingJumps'. -/
def selectingJumpsUptoCard : Claim7 := { stood := { row := selectingJumpsUptoRow, standIns := [], harness := (true, "5d1bac01f7af0bfef4a3b659bea37a220ee3904ed430b826ae7ebedd5b38a070"), looks := false }, kinds := [], alts := [], laidByText := true, laidKinds := [.data], laidTests := true, laidLooks := .later }
def SelectingJumpsUptoCardSaid : Prop := Claim7.holds Tryz.pinned (.plain (OpenSpec.upto selectingJumpsSpec)) selectingJumpsUptoCard
end Rows
end Go.Proofs.YtapemkmlinejmaaGreatDoor
