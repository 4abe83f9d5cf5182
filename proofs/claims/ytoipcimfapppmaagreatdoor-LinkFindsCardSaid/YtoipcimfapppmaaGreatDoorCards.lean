/-
  DERIVED. GIVEN WITH THE SEED: THE CARDS: each row of YtoipcimfapppmaaGreatDoorRows.lean that lists a variable, with what it lists TIED to the program's text (the seventh form; the later family's looks); each row that meets fmt, with fmt's text TOLD by the authors' own Lean function (tested against real Go, not proved from fmt's source: count such statements apart). THE CARD IS WHAT COUNTS. Prove the row's statement (the work); the ties are given (YtoipcimfapppmaaGreatDoorTie.lean); close each card by the builder's one call (the guide's Derived/Test/ToyasCard.lean, 'card_holds'). Laid BY PROGRAM, IN A SANDBOX (cutbox-door.mjs). By AI agents, Wed Nov 11 2026. No macro, syntax, notation, axiom, sorry.
-/
import Derived.Test.YtoipcimfapppmaaGreatDoorRows
import GoSem.ClaimSeven
namespace Go.Proofs.YtoipcimfapppmaaGreatDoor
namespace Rows

/-- THE TIED CARD OF 'warmpathlaw14.LinkPlaces'. -/
def linkPlacesCard : Claim7 := { stood := { row := linkPlacesRow, standIns := [], harness := (true, "f3bd2cef84a5642b5b7429277e0b655e4946e79fe77072a69549d28571a62d4f"), looks := false }, kinds := [], alts := [], laidByText := true, laidKinds := [.data], laidTests := true, laidLooks := .later }
def LinkPlacesCardSaid : Prop := Claim7.holds Tryz.pinned (.plain (OpenSpec.ofChange linkPlacesSpec)) linkPlacesCard

/-- THE TIED CARD OF 'warmpathlaw14.LinkOrders'. -/
def linkOrdersCard : Claim7 := { stood := { row := linkOrdersRow, standIns := [], harness := (true, "f3bd2cef84a5642b5b7429277e0b655e4946e79fe77072a69549d28571a62d4f"), looks := false }, kinds := [], alts := [], laidByText := true, laidKinds := [.data], laidTests := true, laidLooks := .later }
def LinkOrdersCardSaid : Prop := Claim7.holds Tryz.pinned (.plain (OpenSpec.ofChange linkOrdersSpec)) linkOrdersCard

/-- THE TIED CARD OF 'warmpathlaw14.LinkFinds'. -/
def linkFindsCard : Claim7 := { stood := { row := linkFindsRow, standIns := [], harness := (true, "f3bd2cef84a5642b5b7429277e0b655e4946e79fe77072a69549d28571a62d4f"), looks := false }, kinds := [], alts := [], laidByText := true, laidKinds := [.data], laidTests := true, laidLooks := .later }
def LinkFindsCardSaid : Prop := Claim7.holds Tryz.pinned (.plain (OpenSpec.ofChange linkFindsSpec)) linkFindsCard

/-- THE SECOND FORM's CARD OF 'warmpathlaw14.LinkPlaces'. -/
def linkPlacesUptoCard : Claim7 := { stood := { row := linkPlacesUptoRow, standIns := [], harness := (true, "f3bd2cef84a5642b5b7429277e0b655e4946e79fe77072a69549d28571a62d4f"), looks := false }, kinds := [], alts := [], laidByText := true, laidKinds := [.data], laidTests := true, laidLooks := .later }
def LinkPlacesUptoCardSaid : Prop := Claim7.holds Tryz.pinned (.plain (OpenSpec.upto linkPlacesSpec)) linkPlacesUptoCard

/-- THE SECOND FORM's CARD OF 'warmpathlaw14.LinkOrders'. -/
def linkOrdersUptoCard : Claim7 := { stood := { row := linkOrdersUptoRow, standIns := [], harness := (true, "f3bd2cef84a5642b5b7429277e0b655e4946e79fe77072a69549d28571a62d4f"), looks := false }, kinds := [], alts := [], laidByText := true, laidKinds := [.data], laidTests := true, laidLooks := .later }
def LinkOrdersUptoCardSaid : Prop := Claim7.holds Tryz.pinned (.plain (OpenSpec.upto linkOrdersSpec)) linkOrdersUptoCard

/-- THE SECOND FORM's CARD OF 'warmpathlaw14.LinkFinds'. -/
def linkFindsUptoCard : Claim7 := { stood := { row := linkFindsUptoRow, standIns := [], harness := (true, "f3bd2cef84a5642b5b7429277e0b655e4946e79fe77072a69549d28571a62d4f"), looks := false }, kinds := [], alts := [], laidByText := true, laidKinds := [.data], laidTests := true, laidLooks := .later }
def LinkFindsUptoCardSaid : Prop := Claim7.holds Tryz.pinned (.plain (OpenSpec.upto linkFindsSpec)) linkFindsUptoCard
end Rows
end Go.Proofs.YtoipcimfapppmaaGreatDoor
