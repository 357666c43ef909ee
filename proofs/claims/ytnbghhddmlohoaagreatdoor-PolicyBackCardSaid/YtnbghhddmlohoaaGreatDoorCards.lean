/-
  DERIVED. GIVEN WITH THE SEED: THE CARDS: each row of YtnbghhddmlohoaaGreatDoorRows.lean that lists a variable, with what it lists TIED to the program's text (the seventh form; the later family's looks); each row that meets fmt, with fmt's text TOLD by the authors' own Lean function (tested against real Go, not proved from fmt's source: count such statements apart). THE CARD IS WHAT COUNTS. Prove the row's statement (the work); the ties are given (YtnbghhddmlohoaaGreatDoorTie.lean); close each card by the builder's one call (the guide's Derived/Test/ToyasCard.lean, 'card_holds'). Laid BY PROGRAM, IN A SANDBOX (cutbox-door.mjs). By AI agents, Wed Nov 11 2026. No macro, syntax, notation, axiom, sorry.
-/
import Derived.Test.YtnbghhddmlohoaaGreatDoorRows
import GoSem.ClaimSeven
namespace Go.Proofs.YtnbghhddmlohoaaGreatDoor
namespace Rows

/-- THE TIED CARD OF 'marginalialaw11.PolicyPrint'. -/
def policyPrintCard : Claim7 := { stood := { row := policyPrintRow, standIns := [], harness := (true, "ed825ae672967071447b4985cddfbfcd16e4a35dddf2ec87abbe9615f4ffa696"), looks := false }, kinds := [], alts := [], laidByText := true, laidKinds := [.data, .data, .data, .data, .pinned], laidTests := true, laidLooks := .later }
def PolicyPrintCardSaid : Prop := Claim7.holds Tryz.pinned (.plain (OpenSpec.ofChange policyPrintSpec)) policyPrintCard

/-- THE TIED CARD OF 'marginalialaw11.PolicyBack'. -/
def policyBackCard : Claim7 := { stood := { row := policyBackRow, standIns := [], harness := (true, "ed825ae672967071447b4985cddfbfcd16e4a35dddf2ec87abbe9615f4ffa696"), looks := false }, kinds := [], alts := [], laidByText := true, laidKinds := [.data, .data, .data, .data, .pinned], laidTests := true, laidLooks := .later }
def PolicyBackCardSaid : Prop := Claim7.holds Tryz.pinned (.plain (OpenSpec.ofChange policyBackSpec)) policyBackCard

/-- THE SECOND FORM's CARD OF 'marginalialaw11.PolicyPrint'. -/
def policyPrintUptoCard : Claim7 := { stood := { row := policyPrintUptoRow, standIns := [], harness := (true, "ed825ae672967071447b4985cddfbfcd16e4a35dddf2ec87abbe9615f4ffa696"), looks := false }, kinds := [], alts := [], laidByText := true, laidKinds := [.data, .data, .data, .data, .pinned], laidTests := true, laidLooks := .later }
def PolicyPrintUptoCardSaid : Prop := Claim7.holds Tryz.pinned (.plain (OpenSpec.upto policyPrintSpec)) policyPrintUptoCard

/-- THE SECOND FORM's CARD OF 'marginalialaw11.PolicyBack'. -/
def policyBackUptoCard : Claim7 := { stood := { row := policyBackUptoRow, standIns := [], harness := (true, "ed825ae672967071447b4985cddfbfcd16e4a35dddf2ec87abbe9615f4ffa696"), looks := false }, kinds := [], alts := [], laidByText := true, laidKinds := [.data, .data, .data, .data, .pinned], laidTests := true, laidLooks := .later }
def PolicyBackUptoCardSaid : Prop := Claim7.holds Tryz.pinned (.plain (OpenSpec.upto policyBackSpec)) policyBackUptoCard
end Rows
end Go.Proofs.YtnbghhddmlohoaaGreatDoor
