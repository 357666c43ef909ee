/-
  DERIVED. GIVEN WITH THE SEED: THE CARDS: each row of YtckajljkdlejoaaDoorRows.lean that lists a variable, with what it lists TIED to the program's text (the seventh form; the later family's looks); each row that meets fmt, with fmt's text TOLD by the authors' own Lean function (tested against real Go, not proved from fmt's source: count such statements apart). THE CARD IS WHAT COUNTS. Prove the row's statement (the work); the ties are given (YtckajljkdlejoaaDoorTie.lean); close each card by the builder's one call (the guide's Derived/Test/ToyasCard.lean, 'card_holds'). Laid BY PROGRAM, IN A SANDBOX (cutbox-door.mjs). By AI agents, Wed Nov 11 2026. No macro, syntax, notation, axiom, sorry.
-/
import Derived.Test.YtckajljkdlejoaaDoorRows
import GoSem.ClaimSeven
namespace Go.Proofs.YtckajljkdlejoaaDoor
namespace Rows

/-- THE TIED CARD OF 'marginalialaw01.InputDecodes'. -/
def inputDecodesCard : Claim7 := { stood := { row := inputDecodesRow, standIns := [], harness := (true, "9581867c02ccced99ee0b952f7d5614fcab0f1c60d9ef84f3d5e9c0a56537de8"), looks := false }, kinds := [], alts := [], laidByText := true, laidKinds := [.data, .pinned], laidTests := true, laidLooks := .later }
def InputDecodesCardSaid : Prop := Claim7.holds Tryd.pinned (.plain (OpenSpec.ofChange inputDecodesSpec)) inputDecodesCard

/-- THE TIED CARD OF 'marginalialaw01.InputLines'. -/
def inputLinesCard : Claim7 := { stood := { row := inputLinesRow, standIns := [], harness := (true, "9581867c02ccced99ee0b952f7d5614fcab0f1c60d9ef84f3d5e9c0a56537de8"), looks := false }, kinds := [], alts := [], laidByText := true, laidKinds := [.data, .pinned], laidTests := true, laidLooks := .later }
def InputLinesCardSaid : Prop := Claim7.holds Tryd.pinned (.plain (OpenSpec.ofChange inputLinesSpec)) inputLinesCard

/-- THE TIED CARD OF 'marginalialaw01.InputMark'. -/
def inputMarkCard : Claim7 := { stood := { row := inputMarkRow, standIns := [], harness := (true, "9581867c02ccced99ee0b952f7d5614fcab0f1c60d9ef84f3d5e9c0a56537de8"), looks := false }, kinds := [], alts := [], laidByText := true, laidKinds := [.data, .pinned], laidTests := true, laidLooks := .later }
def InputMarkCardSaid : Prop := Claim7.holds Tryd.pinned (.plain (OpenSpec.ofChange inputMarkSpec)) inputMarkCard

/-- THE TIED CARD OF 'marginalialaw01.InputTidy'. -/
def inputTidyCard : Claim7 := { stood := { row := inputTidyRow, standIns := [], harness := (true, "9581867c02ccced99ee0b952f7d5614fcab0f1c60d9ef84f3d5e9c0a56537de8"), looks := false }, kinds := [], alts := [], laidByText := true, laidKinds := [.data, .pinned], laidTests := true, laidLooks := .later }
def InputTidyCardSaid : Prop := Claim7.holds Tryd.pinned (.plain (OpenSpec.ofChange inputTidySpec)) inputTidyCard

/-- THE TIED CARD OF 'marginalialaw01.InputCounts'. -/
def inputCountsCard : Claim7 := { stood := { row := inputCountsRow, standIns := [], harness := (true, "9581867c02ccced99ee0b952f7d5614fcab0f1c60d9ef84f3d5e9c0a56537de8"), looks := false }, kinds := [], alts := [], laidByText := true, laidKinds := [.data, .pinned], laidTests := true, laidLooks := .later }
def InputCountsCardSaid : Prop := Claim7.holds Tryd.pinned (.plain (OpenSpec.ofChange inputCountsSpec)) inputCountsCard

/-- THE TIED CARD OF 'marginalialaw01.InputBehind'. -/
def inputBehindCard : Claim7 := { stood := { row := inputBehindRow, standIns := [], harness := (true, "9581867c02ccced99ee0b952f7d5614fcab0f1c60d9ef84f3d5e9c0a56537de8"), looks := false }, kinds := [], alts := [], laidByText := true, laidKinds := [.data, .pinned], laidTests := true, laidLooks := .later }
def InputBehindCardSaid : Prop := Claim7.holds Tryd.pinned (.plain (OpenSpec.ofChange inputBehindSpec)) inputBehindCard

/-- THE TIED CARD OF 'marginalialaw01.InputRight'. -/
def inputRightCard : Claim7 := { stood := { row := inputRightRow, standIns := [], harness := (true, "9581867c02ccced99ee0b952f7d5614fcab0f1c60d9ef84f3d5e9c0a56537de8"), looks := false }, kinds := [], alts := [], laidByText := true, laidKinds := [.data, .pinned], laidTests := true, laidLooks := .later }
def InputRightCardSaid : Prop := Claim7.holds Tryd.pinned (.plain (OpenSpec.ofChange inputRightSpec)) inputRightCard

/-- THE SECOND FORM's CARD OF 'marginalialaw01.InputDecodes'. -/
def inputDecodesUptoCard : Claim7 := { stood := { row := inputDecodesUptoRow, standIns := [], harness := (true, "9581867c02ccced99ee0b952f7d5614fcab0f1c60d9ef84f3d5e9c0a56537de8"), looks := false }, kinds := [], alts := [], laidByText := true, laidKinds := [.data, .pinned], laidTests := true, laidLooks := .later }
def InputDecodesUptoCardSaid : Prop := Claim7.holds Tryd.pinned (.plain (OpenSpec.upto inputDecodesSpec)) inputDecodesUptoCard

/-- THE SECOND FORM's CARD OF 'marginalialaw01.InputLines'. -/
def inputLinesUptoCard : Claim7 := { stood := { row := inputLinesUptoRow, standIns := [], harness := (true, "9581867c02ccced99ee0b952f7d5614fcab0f1c60d9ef84f3d5e9c0a56537de8"), looks := false }, kinds := [], alts := [], laidByText := true, laidKinds := [.data, .pinned], laidTests := true, laidLooks := .later }
def InputLinesUptoCardSaid : Prop := Claim7.holds Tryd.pinned (.plain (OpenSpec.upto inputLinesSpec)) inputLinesUptoCard

/-- THE SECOND FORM's CARD OF 'marginalialaw01.InputMark'. -/
def inputMarkUptoCard : Claim7 := { stood := { row := inputMarkUptoRow, standIns := [], harness := (true, "9581867c02ccced99ee0b952f7d5614fcab0f1c60d9ef84f3d5e9c0a56537de8"), looks := false }, kinds := [], alts := [], laidByText := true, laidKinds := [.data, .pinned], laidTests := true, laidLooks := .later }
def InputMarkUptoCardSaid : Prop := Claim7.holds Tryd.pinned (.plain (OpenSpec.upto inputMarkSpec)) inputMarkUptoCard

/-- THE SECOND FORM's CARD OF 'marginalialaw01.InputTidy'. -/
def inputTidyUptoCard : Claim7 := { stood := { row := inputTidyUptoRow, standIns := [], harness := (true, "9581867c02ccced99ee0b952f7d5614fcab0f1c60d9ef84f3d5e9c0a56537de8"), looks := false }, kinds := [], alts := [], laidByText := true, laidKinds := [.data, .pinned], laidTests := true, laidLooks := .later }
def InputTidyUptoCardSaid : Prop := Claim7.holds Tryd.pinned (.plain (OpenSpec.upto inputTidySpec)) inputTidyUptoCard

/-- THE SECOND FORM's CARD OF 'marginalialaw01.InputCounts'. -/
def inputCountsUptoCard : Claim7 := { stood := { row := inputCountsUptoRow, standIns := [], harness := (true, "9581867c02ccced99ee0b952f7d5614fcab0f1c60d9ef84f3d5e9c0a56537de8"), looks := false }, kinds := [], alts := [], laidByText := true, laidKinds := [.data, .pinned], laidTests := true, laidLooks := .later }
def InputCountsUptoCardSaid : Prop := Claim7.holds Tryd.pinned (.plain (OpenSpec.upto inputCountsSpec)) inputCountsUptoCard

/-- THE SECOND FORM's CARD OF 'marginalialaw01.InputBehind'. -/
def inputBehindUptoCard : Claim7 := { stood := { row := inputBehindUptoRow, standIns := [], harness := (true, "9581867c02ccced99ee0b952f7d5614fcab0f1c60d9ef84f3d5e9c0a56537de8"), looks := false }, kinds := [], alts := [], laidByText := true, laidKinds := [.data, .pinned], laidTests := true, laidLooks := .later }
def InputBehindUptoCardSaid : Prop := Claim7.holds Tryd.pinned (.plain (OpenSpec.upto inputBehindSpec)) inputBehindUptoCard

/-- THE SECOND FORM's CARD OF 'marginalialaw01.InputRight'. -/
def inputRightUptoCard : Claim7 := { stood := { row := inputRightUptoRow, standIns := [], harness := (true, "9581867c02ccced99ee0b952f7d5614fcab0f1c60d9ef84f3d5e9c0a56537de8"), looks := false }, kinds := [], alts := [], laidByText := true, laidKinds := [.data, .pinned], laidTests := true, laidLooks := .later }
def InputRightUptoCardSaid : Prop := Claim7.holds Tryd.pinned (.plain (OpenSpec.upto inputRightSpec)) inputRightUptoCard
end Rows
end Go.Proofs.YtckajljkdlejoaaDoor
