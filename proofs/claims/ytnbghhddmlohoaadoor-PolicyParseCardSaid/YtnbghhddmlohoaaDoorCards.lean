/-
  DERIVED. GIVEN WITH THE SEED: THE CARDS: each row of YtnbghhddmlohoaaDoorRows.lean that lists a variable, with what it lists TIED to the program's text (the seventh form; the later family's looks); each row that meets fmt, with fmt's text TOLD by the authors' own Lean function (tested against real Go, not proved from fmt's source: count such statements apart). THE CARD IS WHAT COUNTS. Prove the row's statement (the work); the ties are given (YtnbghhddmlohoaaDoorTie.lean); close each card by the builder's one call (the guide's Derived/Test/ToyasCard.lean, 'card_holds'). Laid BY PROGRAM, IN A SANDBOX (cutbox-door.mjs). By AI agents, Wed Nov 11 2026. No macro, syntax, notation, axiom, sorry.
-/
import Derived.Test.YtnbghhddmlohoaaDoorRows
import GoSem.ClaimSeven
namespace Go.Proofs.YtnbghhddmlohoaaDoor
namespace Rows

/-- THE TIED CARD OF 'marginalialaw11.PolicyCheck'. -/
def policyCheckCard : Claim7 := { stood := { row := policyCheckRow, standIns := [], harness := (true, "0a4cd6b188257c5d28b07083c8b394f2e19dbb55903491e87fbcca306b601ca9"), looks := false }, kinds := [], alts := [], laidByText := true, laidKinds := [.data, .pinned], laidTests := true, laidLooks := .later }
def PolicyCheckCardSaid : Prop := Claim7.holds Tryd.pinned (.plain (OpenSpec.ofChange policyCheckSpec)) policyCheckCard

/-- THE TIED CARD OF 'marginalialaw11.PolicyParse'. -/
def policyParseCard : Claim7 := { stood := { row := policyParseRow, standIns := [], harness := (true, "0a4cd6b188257c5d28b07083c8b394f2e19dbb55903491e87fbcca306b601ca9"), looks := false }, kinds := [], alts := [], laidByText := true, laidKinds := [.data, .pinned], laidTests := true, laidLooks := .later }
def PolicyParseCardSaid : Prop := Claim7.holds Tryd.pinned (.plain (OpenSpec.ofChange policyParseSpec)) policyParseCard

/-- THE TIED CARD OF 'marginalialaw11.PolicyLets'. -/
def policyLetsCard : Claim7 := { stood := { row := policyLetsRow, standIns := [], harness := (true, "0a4cd6b188257c5d28b07083c8b394f2e19dbb55903491e87fbcca306b601ca9"), looks := false }, kinds := [], alts := [], laidByText := true, laidKinds := [.data, .pinned], laidTests := true, laidLooks := .later }
def PolicyLetsCardSaid : Prop := Claim7.holds Tryd.pinned (.plain (OpenSpec.ofChange policyLetsSpec)) policyLetsCard

/-- THE TIED CARD OF 'marginalialaw11.PolicyAllowed'. -/
def policyAllowedCard : Claim7 := { stood := { row := policyAllowedRow, standIns := [], harness := (true, "0a4cd6b188257c5d28b07083c8b394f2e19dbb55903491e87fbcca306b601ca9"), looks := false }, kinds := [], alts := [], laidByText := true, laidKinds := [.data, .pinned], laidTests := true, laidLooks := .later }
def PolicyAllowedCardSaid : Prop := Claim7.holds Tryd.pinned (.plain (OpenSpec.ofChange policyAllowedSpec)) policyAllowedCard

/-- THE TIED CARD OF 'marginalialaw11.PolicyNever'. -/
def policyNeverCard : Claim7 := { stood := { row := policyNeverRow, standIns := [], harness := (true, "0a4cd6b188257c5d28b07083c8b394f2e19dbb55903491e87fbcca306b601ca9"), looks := false }, kinds := [], alts := [], laidByText := true, laidKinds := [.data, .pinned], laidTests := true, laidLooks := .later }
def PolicyNeverCardSaid : Prop := Claim7.holds Tryd.pinned (.plain (OpenSpec.ofChange policyNeverSpec)) policyNeverCard

/-- THE TIED CARD OF 'marginalialaw11.PolicyPart'. -/
def policyPartCard : Claim7 := { stood := { row := policyPartRow, standIns := [], harness := (true, "0a4cd6b188257c5d28b07083c8b394f2e19dbb55903491e87fbcca306b601ca9"), looks := false }, kinds := [], alts := [], laidByText := true, laidKinds := [.data, .pinned], laidTests := true, laidLooks := .later }
def PolicyPartCardSaid : Prop := Claim7.holds Tryd.pinned (.plain (OpenSpec.ofChange policyPartSpec)) policyPartCard

/-- THE SECOND FORM's CARD OF 'marginalialaw11.PolicyCheck'. -/
def policyCheckUptoCard : Claim7 := { stood := { row := policyCheckUptoRow, standIns := [], harness := (true, "0a4cd6b188257c5d28b07083c8b394f2e19dbb55903491e87fbcca306b601ca9"), looks := false }, kinds := [], alts := [], laidByText := true, laidKinds := [.data, .pinned], laidTests := true, laidLooks := .later }
def PolicyCheckUptoCardSaid : Prop := Claim7.holds Tryd.pinned (.plain (OpenSpec.upto policyCheckSpec)) policyCheckUptoCard

/-- THE SECOND FORM's CARD OF 'marginalialaw11.PolicyParse'. -/
def policyParseUptoCard : Claim7 := { stood := { row := policyParseUptoRow, standIns := [], harness := (true, "0a4cd6b188257c5d28b07083c8b394f2e19dbb55903491e87fbcca306b601ca9"), looks := false }, kinds := [], alts := [], laidByText := true, laidKinds := [.data, .pinned], laidTests := true, laidLooks := .later }
def PolicyParseUptoCardSaid : Prop := Claim7.holds Tryd.pinned (.plain (OpenSpec.upto policyParseSpec)) policyParseUptoCard

/-- THE SECOND FORM's CARD OF 'marginalialaw11.PolicyLets'. -/
def policyLetsUptoCard : Claim7 := { stood := { row := policyLetsUptoRow, standIns := [], harness := (true, "0a4cd6b188257c5d28b07083c8b394f2e19dbb55903491e87fbcca306b601ca9"), looks := false }, kinds := [], alts := [], laidByText := true, laidKinds := [.data, .pinned], laidTests := true, laidLooks := .later }
def PolicyLetsUptoCardSaid : Prop := Claim7.holds Tryd.pinned (.plain (OpenSpec.upto policyLetsSpec)) policyLetsUptoCard

/-- THE SECOND FORM's CARD OF 'marginalialaw11.PolicyAllowed'. -/
def policyAllowedUptoCard : Claim7 := { stood := { row := policyAllowedUptoRow, standIns := [], harness := (true, "0a4cd6b188257c5d28b07083c8b394f2e19dbb55903491e87fbcca306b601ca9"), looks := false }, kinds := [], alts := [], laidByText := true, laidKinds := [.data, .pinned], laidTests := true, laidLooks := .later }
def PolicyAllowedUptoCardSaid : Prop := Claim7.holds Tryd.pinned (.plain (OpenSpec.upto policyAllowedSpec)) policyAllowedUptoCard

/-- THE SECOND FORM's CARD OF 'marginalialaw11.PolicyNever'. -/
def policyNeverUptoCard : Claim7 := { stood := { row := policyNeverUptoRow, standIns := [], harness := (true, "0a4cd6b188257c5d28b07083c8b394f2e19dbb55903491e87fbcca306b601ca9"), looks := false }, kinds := [], alts := [], laidByText := true, laidKinds := [.data, .pinned], laidTests := true, laidLooks := .later }
def PolicyNeverUptoCardSaid : Prop := Claim7.holds Tryd.pinned (.plain (OpenSpec.upto policyNeverSpec)) policyNeverUptoCard

/-- THE SECOND FORM's CARD OF 'marginalialaw11.PolicyPart'. -/
def policyPartUptoCard : Claim7 := { stood := { row := policyPartUptoRow, standIns := [], harness := (true, "0a4cd6b188257c5d28b07083c8b394f2e19dbb55903491e87fbcca306b601ca9"), looks := false }, kinds := [], alts := [], laidByText := true, laidKinds := [.data, .pinned], laidTests := true, laidLooks := .later }
def PolicyPartUptoCardSaid : Prop := Claim7.holds Tryd.pinned (.plain (OpenSpec.upto policyPartSpec)) policyPartUptoCard
end Rows
end Go.Proofs.YtnbghhddmlohoaaDoor
