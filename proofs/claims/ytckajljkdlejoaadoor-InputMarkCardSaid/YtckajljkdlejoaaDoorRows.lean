/-
  NARROWER THAN 'FOR EVERY INPUT', by the rows' own cells (each row's printed sentence says how): InputDecodes: laid · InputLines: laid · InputMark: laid · InputTidy: laid · InputCounts: laid · InputBehind: laid · InputRight: laid.
  DERIVED. THE GIVEN ROWS OF THIS SEAT. 7 by the template 'for every input the law returns true; each argument reads behind the call as it read before'; 0 by the template 'total and deterministic' (their statements: YtckajljkdlejoaaDoorTotals.lean).
  GIVEN WITH THE SEED: the statements are not yours to turn. If you find one false, say at which input.
  Laid BY PROGRAM, IN A SANDBOX (cutbox-rows.mjs): the forced cells as the released guide's own fill.sh prints them over the translation 2bab6052ce7cb3a6… (all of the seat's roots in one cut). By AI agents, Wed Nov 11 2026. No macro, syntax, notation, axiom, sorry.
-/
import Derived.Test.YtckajljkdlejoaaDoorChecked
import GoSem.PinnedTables
import GoSem.Claim
import GoSem.ClaimJoined
import GoSem.ClaimMapViews
import Derived.JoinedTies
import Derived.KernelRfl
namespace Go.Proofs.YtckajljkdlejoaaDoor
/- THE CELL 'sum', in the pinned program and in every row, IS THE sha256 OF THE DUMP (.gsa) THAT YtckajljkdlejoaaDoorProg.lean LOADS. Nothing in Lean hashes anything: it is a label: what it is worth is what the hold of that sum in a sandbox is worth. -/
noncomputable def Tryd.pinned : Pinned := { name := "ytckajljkdlejoaadoor", sum := "2bab6052ce7cb3a64f50b33ae76ce8f5bb07b7fb688a7216d646e524a099b7bd", checked := Tryd.checked }
namespace Rows
def none {H : Type} : Left H := { results := [], args := [] }

/- WHAT THE LISTED PACKAGE-LEVEL VARIABLES READ AS WHEN THE CALL BEGINS. Each datum BY PROGRAM (the guide's laid-datum.mjs) off the statement by which the dump's own 'gosem.cut.vars' lays the variable. In a bare row this is a premise. The card (YtckajljkdlejoaaDoorCards.lean) ties it to the program's text. -/
def laid_unicode_utf8_acceptRanges {H : Type} : DataW H := .agg [.agg [.lit (.int .u8 128), .lit (.int .u8 191)], .agg [.lit (.int .u8 160), .lit (.int .u8 191)], .agg [.lit (.int .u8 128), .lit (.int .u8 159)], .agg [.lit (.int .u8 144), .lit (.int .u8 191)], .agg [.lit (.int .u8 128), .lit (.int .u8 143)], .agg [.lit (.int .u8 0), .lit (.int .u8 0)], .agg [.lit (.int .u8 0), .lit (.int .u8 0)], .agg [.lit (.int .u8 0), .lit (.int .u8 0)], .agg [.lit (.int .u8 0), .lit (.int .u8 0)], .agg [.lit (.int .u8 0), .lit (.int .u8 0)], .agg [.lit (.int .u8 0), .lit (.int .u8 0)], .agg [.lit (.int .u8 0), .lit (.int .u8 0)], .agg [.lit (.int .u8 0), .lit (.int .u8 0)], .agg [.lit (.int .u8 0), .lit (.int .u8 0)], .agg [.lit (.int .u8 0), .lit (.int .u8 0)], .agg [.lit (.int .u8 0), .lit (.int .u8 0)]]
/-- One of Go's own tables, pinned by name: the form's constant. -/
def laid_unicode_utf8_first : DataW Unit := Go.Pinned.utf8First

/-- 'marginalialaw01.InputDecodes': WHATEVER THE INPUT: true; the input reads as it did. -/
def inputDecodesSpec : ChangeSpec := { name := "inputDecodes", fn := fun _ => fun
  | [d] => { results := [.lit (.bool true)], args := [d] }
  | _ => none }
def inputDecodesRow : OpenClaim := { program := "ytckajljkdlejoaadoor", sum := "2bab6052ce7cb3a64f50b33ae76ce8f5bb07b7fb688a7216d646e524a099b7bd", func := "marginalia/marginalialaw01.InputDecodes", spec := "inputDecodes", inPlace := ["internal/abi.NoEscape", "internal/bytealg.CountString", "internal/bytealg.IndexByteString", "internal/bytealg.IndexString", "internal/bytealg.MakeNoZero"], named := ["internal/bytealg.MaxLen", "unicode/utf8.first", "unicode/utf8.acceptRanges"], apart := false, laid := [("unicode/utf8.acceptRanges", laid_unicode_utf8_acceptRanges), ("unicode/utf8.first", laid_unicode_utf8_first)] }
def InputDecodesSaid : Prop := inputDecodesRow.holds Tryd.pinned (OpenSpec.ofChange inputDecodesSpec)

/-- ITS FALSE NEIGHBOUR: 'it returns false'. Refute it at one input. -/
def inputDecodesWrong : ChangeSpec := { name := "inputDecodes", fn := fun _ => fun
  | [d] => { results := [.lit (.bool false)], args := [d] }
  | _ => none }
def InputDecodesWrongFalsely : Prop := inputDecodesRow.holds Tryd.pinned (OpenSpec.ofChange inputDecodesWrong)

/-- 'marginalialaw01.InputLines': WHATEVER THE INPUT: true; the input reads as it did. -/
def inputLinesSpec : ChangeSpec := { name := "inputLines", fn := fun _ => fun
  | [d] => { results := [.lit (.bool true)], args := [d] }
  | _ => none }
def inputLinesRow : OpenClaim := { program := "ytckajljkdlejoaadoor", sum := "2bab6052ce7cb3a64f50b33ae76ce8f5bb07b7fb688a7216d646e524a099b7bd", func := "marginalia/marginalialaw01.InputLines", spec := "inputLines", inPlace := ["internal/abi.NoEscape", "internal/bytealg.CountString", "internal/bytealg.IndexByteString", "internal/bytealg.IndexString", "internal/bytealg.MakeNoZero"], named := ["internal/bytealg.MaxLen", "unicode/utf8.first", "unicode/utf8.acceptRanges"], apart := false, laid := [("unicode/utf8.acceptRanges", laid_unicode_utf8_acceptRanges), ("unicode/utf8.first", laid_unicode_utf8_first)] }
def InputLinesSaid : Prop := inputLinesRow.holds Tryd.pinned (OpenSpec.ofChange inputLinesSpec)

/-- ITS FALSE NEIGHBOUR: 'it returns false'. Refute it at one input. -/
def inputLinesWrong : ChangeSpec := { name := "inputLines", fn := fun _ => fun
  | [d] => { results := [.lit (.bool false)], args := [d] }
  | _ => none }
def InputLinesWrongFalsely : Prop := inputLinesRow.holds Tryd.pinned (OpenSpec.ofChange inputLinesWrong)

/-- 'marginalialaw01.InputMark': WHATEVER THE INPUT: true; the input reads as it did. -/
def inputMarkSpec : ChangeSpec := { name := "inputMark", fn := fun _ => fun
  | [d] => { results := [.lit (.bool true)], args := [d] }
  | _ => none }
def inputMarkRow : OpenClaim := { program := "ytckajljkdlejoaadoor", sum := "2bab6052ce7cb3a64f50b33ae76ce8f5bb07b7fb688a7216d646e524a099b7bd", func := "marginalia/marginalialaw01.InputMark", spec := "inputMark", inPlace := ["internal/abi.NoEscape", "internal/bytealg.CountString", "internal/bytealg.IndexByteString", "internal/bytealg.IndexString", "internal/bytealg.MakeNoZero"], named := ["internal/bytealg.MaxLen", "unicode/utf8.first", "unicode/utf8.acceptRanges"], apart := false, laid := [("unicode/utf8.acceptRanges", laid_unicode_utf8_acceptRanges), ("unicode/utf8.first", laid_unicode_utf8_first)] }
def InputMarkSaid : Prop := inputMarkRow.holds Tryd.pinned (OpenSpec.ofChange inputMarkSpec)

/-- ITS FALSE NEIGHBOUR: 'it returns false'. Refute it at one input. -/
def inputMarkWrong : ChangeSpec := { name := "inputMark", fn := fun _ => fun
  | [d] => { results := [.lit (.bool false)], args := [d] }
  | _ => none }
def InputMarkWrongFalsely : Prop := inputMarkRow.holds Tryd.pinned (OpenSpec.ofChange inputMarkWrong)

/-- 'marginalialaw01.InputTidy': WHATEVER THE INPUT: true; the input reads as it did. -/
def inputTidySpec : ChangeSpec := { name := "inputTidy", fn := fun _ => fun
  | [d] => { results := [.lit (.bool true)], args := [d] }
  | _ => none }
def inputTidyRow : OpenClaim := { program := "ytckajljkdlejoaadoor", sum := "2bab6052ce7cb3a64f50b33ae76ce8f5bb07b7fb688a7216d646e524a099b7bd", func := "marginalia/marginalialaw01.InputTidy", spec := "inputTidy", inPlace := ["internal/abi.NoEscape", "internal/bytealg.CountString", "internal/bytealg.IndexByteString", "internal/bytealg.IndexString", "internal/bytealg.MakeNoZero"], named := ["internal/bytealg.MaxLen", "unicode/utf8.first", "unicode/utf8.acceptRanges"], apart := false, laid := [("unicode/utf8.acceptRanges", laid_unicode_utf8_acceptRanges), ("unicode/utf8.first", laid_unicode_utf8_first)] }
def InputTidySaid : Prop := inputTidyRow.holds Tryd.pinned (OpenSpec.ofChange inputTidySpec)

/-- ITS FALSE NEIGHBOUR: 'it returns false'. Refute it at one input. -/
def inputTidyWrong : ChangeSpec := { name := "inputTidy", fn := fun _ => fun
  | [d] => { results := [.lit (.bool false)], args := [d] }
  | _ => none }
def InputTidyWrongFalsely : Prop := inputTidyRow.holds Tryd.pinned (OpenSpec.ofChange inputTidyWrong)

/-- 'marginalialaw01.InputCounts': WHATEVER THE INPUT: true; the input reads as it did. -/
def inputCountsSpec : ChangeSpec := { name := "inputCounts", fn := fun _ => fun
  | [d] => { results := [.lit (.bool true)], args := [d] }
  | _ => none }
def inputCountsRow : OpenClaim := { program := "ytckajljkdlejoaadoor", sum := "2bab6052ce7cb3a64f50b33ae76ce8f5bb07b7fb688a7216d646e524a099b7bd", func := "marginalia/marginalialaw01.InputCounts", spec := "inputCounts", inPlace := ["internal/abi.NoEscape", "internal/bytealg.CountString", "internal/bytealg.IndexByteString", "internal/bytealg.IndexString", "internal/bytealg.MakeNoZero"], named := ["internal/bytealg.MaxLen", "unicode/utf8.first", "unicode/utf8.acceptRanges"], apart := false, laid := [("unicode/utf8.acceptRanges", laid_unicode_utf8_acceptRanges), ("unicode/utf8.first", laid_unicode_utf8_first)] }
def InputCountsSaid : Prop := inputCountsRow.holds Tryd.pinned (OpenSpec.ofChange inputCountsSpec)

/-- ITS FALSE NEIGHBOUR: 'it returns false'. Refute it at one input. -/
def inputCountsWrong : ChangeSpec := { name := "inputCounts", fn := fun _ => fun
  | [d] => { results := [.lit (.bool false)], args := [d] }
  | _ => none }
def InputCountsWrongFalsely : Prop := inputCountsRow.holds Tryd.pinned (OpenSpec.ofChange inputCountsWrong)

/-- 'marginalialaw01.InputBehind': WHATEVER THE INPUT: true; the input reads as it did. -/
def inputBehindSpec : ChangeSpec := { name := "inputBehind", fn := fun _ => fun
  | [d1, d2] => { results := [.lit (.bool true)], args := [d1, d2] }
  | _ => none }
def inputBehindRow : OpenClaim := { program := "ytckajljkdlejoaadoor", sum := "2bab6052ce7cb3a64f50b33ae76ce8f5bb07b7fb688a7216d646e524a099b7bd", func := "marginalia/marginalialaw01.InputBehind", spec := "inputBehind", inPlace := ["internal/abi.NoEscape", "internal/bytealg.CountString", "internal/bytealg.IndexByteString", "internal/bytealg.IndexString", "internal/bytealg.MakeNoZero"], named := ["internal/bytealg.MaxLen", "unicode/utf8.first", "unicode/utf8.acceptRanges"], apart := false, laid := [("unicode/utf8.acceptRanges", laid_unicode_utf8_acceptRanges), ("unicode/utf8.first", laid_unicode_utf8_first)] }
def InputBehindSaid : Prop := inputBehindRow.holds Tryd.pinned (OpenSpec.ofChange inputBehindSpec)

/-- ITS FALSE NEIGHBOUR: 'it returns false'. Refute it at one input. -/
def inputBehindWrong : ChangeSpec := { name := "inputBehind", fn := fun _ => fun
  | [d1, d2] => { results := [.lit (.bool false)], args := [d1, d2] }
  | _ => none }
def InputBehindWrongFalsely : Prop := inputBehindRow.holds Tryd.pinned (OpenSpec.ofChange inputBehindWrong)

/-- 'marginalialaw01.InputRight': WHATEVER THE INPUT: true; the input reads as it did. -/
def inputRightSpec : ChangeSpec := { name := "inputRight", fn := fun _ => fun
  | [d] => { results := [.lit (.bool true)], args := [d] }
  | _ => none }
def inputRightRow : OpenClaim := { program := "ytckajljkdlejoaadoor", sum := "2bab6052ce7cb3a64f50b33ae76ce8f5bb07b7fb688a7216d646e524a099b7bd", func := "marginalia/marginalialaw01.InputRight", spec := "inputRight", inPlace := ["internal/abi.NoEscape", "internal/bytealg.CountString", "internal/bytealg.IndexByteString", "internal/bytealg.IndexString", "internal/bytealg.MakeNoZero"], named := ["internal/bytealg.MaxLen", "unicode/utf8.first", "unicode/utf8.acceptRanges"], apart := false, laid := [("unicode/utf8.acceptRanges", laid_unicode_utf8_acceptRanges), ("unicode/utf8.first", laid_unicode_utf8_first)] }
def InputRightSaid : Prop := inputRightRow.holds Tryd.pinned (OpenSpec.ofChange inputRightSpec)

/-- ITS FALSE NEIGHBOUR: 'it returns false'. Refute it at one input. -/
def inputRightWrong : ChangeSpec := { name := "inputRight", fn := fun _ => fun
  | [d] => { results := [.lit (.bool false)], args := [d] }
  | _ => none }
def InputRightWrongFalsely : Prop := inputRightRow.holds Tryd.pinned (OpenSpec.ofChange inputRightWrong)

/- THE SECOND FORM. 'bulk': how many values and letters a reading holds, each counted each time it is reached (what is shared counts as often as it is met; a slice's spare places count too). A statement '..UptoSaid' is the law's where the arguments, and the package variables that the reading takes, are together of bulk at most 1048576: NARROWER than '..Said'. Prove '..Said' where nothing that the law and all that it calls make is longer than what came in: it says more and counts as full. Else prove '..UptoSaid'. A law counts once. -/
mutual
def uptoBulk {H : Type} : DataW H → Nat
  | .lit (.string bytes) => bytes.length + 1
  | .lit _ => 1
  | .nil => 1
  | .ptr d => uptoBulk d + 1
  | .slice elems spare => uptoBulkAll elems + uptoBulkAll spare + 1
  | .agg parts => uptoBulkAll parts + 1
  | .iface _ d => uptoBulk d + 1
  | .map entries => uptoBulkEntries entries + 1
  | .held _ => 1
def uptoBulkAll {H : Type} : List (DataW H) → Nat
  | [] => 0
  | d :: r => uptoBulk d + uptoBulkAll r
def uptoBulkEntries {H : Type} : List (Lit × DataW H) → Nat
  | [] => 0
  | x :: r => uptoBulkEntry x + uptoBulkEntries r
def uptoBulkEntry {H : Type} : Lit × DataW H → Nat
  | (.string bytes, d) => bytes.length + uptoBulk d + 1
  | (_, d) => uptoBulk d + 1
 end
def uptoSmall : (H : Type) → List (DataW H) → Bool := fun _ ds => decide (uptoBulkAll ds ≤ 1048576)
def OpenSpec.upto (s : _root_.Go.ChangeSpec) : _root_.Go.OpenSpec := { _root_.Go.OpenSpec.ofChange s with cond := some uptoSmall }

/-- 'marginalialaw01.InputDecodes', WHERE WHAT IT READS IS OF BULK AT MOST 1048576: true; the input reads as it did. -/
def inputDecodesUptoRow : OpenClaim := { program := "ytckajljkdlejoaadoor", sum := "2bab6052ce7cb3a64f50b33ae76ce8f5bb07b7fb688a7216d646e524a099b7bd", func := "marginalia/marginalialaw01.InputDecodes", spec := "inputDecodes", inPlace := ["internal/abi.NoEscape", "internal/bytealg.CountString", "internal/bytealg.IndexByteString", "internal/bytealg.IndexString", "internal/bytealg.MakeNoZero"], named := ["internal/bytealg.MaxLen", "unicode/utf8.first", "unicode/utf8.acceptRanges"], apart := false, laid := [("unicode/utf8.acceptRanges", laid_unicode_utf8_acceptRanges), ("unicode/utf8.first", laid_unicode_utf8_first)], narrowed := true }
def InputDecodesUptoSaid : Prop := inputDecodesUptoRow.holds Tryd.pinned (OpenSpec.upto inputDecodesSpec)

/-- 'marginalialaw01.InputLines', WHERE WHAT IT READS IS OF BULK AT MOST 1048576: true; the input reads as it did. -/
def inputLinesUptoRow : OpenClaim := { program := "ytckajljkdlejoaadoor", sum := "2bab6052ce7cb3a64f50b33ae76ce8f5bb07b7fb688a7216d646e524a099b7bd", func := "marginalia/marginalialaw01.InputLines", spec := "inputLines", inPlace := ["internal/abi.NoEscape", "internal/bytealg.CountString", "internal/bytealg.IndexByteString", "internal/bytealg.IndexString", "internal/bytealg.MakeNoZero"], named := ["internal/bytealg.MaxLen", "unicode/utf8.first", "unicode/utf8.acceptRanges"], apart := false, laid := [("unicode/utf8.acceptRanges", laid_unicode_utf8_acceptRanges), ("unicode/utf8.first", laid_unicode_utf8_first)], narrowed := true }
def InputLinesUptoSaid : Prop := inputLinesUptoRow.holds Tryd.pinned (OpenSpec.upto inputLinesSpec)

/-- 'marginalialaw01.InputMark', WHERE WHAT IT READS IS OF BULK AT MOST 1048576: true; the input reads as it did. -/
def inputMarkUptoRow : OpenClaim := { program := "ytckajljkdlejoaadoor", sum := "2bab6052ce7cb3a64f50b33ae76ce8f5bb07b7fb688a7216d646e524a099b7bd", func := "marginalia/marginalialaw01.InputMark", spec := "inputMark", inPlace := ["internal/abi.NoEscape", "internal/bytealg.CountString", "internal/bytealg.IndexByteString", "internal/bytealg.IndexString", "internal/bytealg.MakeNoZero"], named := ["internal/bytealg.MaxLen", "unicode/utf8.first", "unicode/utf8.acceptRanges"], apart := false, laid := [("unicode/utf8.acceptRanges", laid_unicode_utf8_acceptRanges), ("unicode/utf8.first", laid_unicode_utf8_first)], narrowed := true }
def InputMarkUptoSaid : Prop := inputMarkUptoRow.holds Tryd.pinned (OpenSpec.upto inputMarkSpec)

/-- 'marginalialaw01.InputTidy', WHERE WHAT IT READS IS OF BULK AT MOST 1048576: true; the input reads as it did. -/
def inputTidyUptoRow : OpenClaim := { program := "ytckajljkdlejoaadoor", sum := "2bab6052ce7cb3a64f50b33ae76ce8f5bb07b7fb688a7216d646e524a099b7bd", func := "marginalia/marginalialaw01.InputTidy", spec := "inputTidy", inPlace := ["internal/abi.NoEscape", "internal/bytealg.CountString", "internal/bytealg.IndexByteString", "internal/bytealg.IndexString", "internal/bytealg.MakeNoZero"], named := ["internal/bytealg.MaxLen", "unicode/utf8.first", "unicode/utf8.acceptRanges"], apart := false, laid := [("unicode/utf8.acceptRanges", laid_unicode_utf8_acceptRanges), ("unicode/utf8.first", laid_unicode_utf8_first)], narrowed := true }
def InputTidyUptoSaid : Prop := inputTidyUptoRow.holds Tryd.pinned (OpenSpec.upto inputTidySpec)

/-- 'marginalialaw01.InputCounts', WHERE WHAT IT READS IS OF BULK AT MOST 1048576: true; the input reads as it did. -/
def inputCountsUptoRow : OpenClaim := { program := "ytckajljkdlejoaadoor", sum := "2bab6052ce7cb3a64f50b33ae76ce8f5bb07b7fb688a7216d646e524a099b7bd", func := "marginalia/marginalialaw01.InputCounts", spec := "inputCounts", inPlace := ["internal/abi.NoEscape", "internal/bytealg.CountString", "internal/bytealg.IndexByteString", "internal/bytealg.IndexString", "internal/bytealg.MakeNoZero"], named := ["internal/bytealg.MaxLen", "unicode/utf8.first", "unicode/utf8.acceptRanges"], apart := false, laid := [("unicode/utf8.acceptRanges", laid_unicode_utf8_acceptRanges), ("unicode/utf8.first", laid_unicode_utf8_first)], narrowed := true }
def InputCountsUptoSaid : Prop := inputCountsUptoRow.holds Tryd.pinned (OpenSpec.upto inputCountsSpec)

/-- 'marginalialaw01.InputBehind', WHERE WHAT IT READS IS OF BULK AT MOST 1048576: true; the input reads as it did. -/
def inputBehindUptoRow : OpenClaim := { program := "ytckajljkdlejoaadoor", sum := "2bab6052ce7cb3a64f50b33ae76ce8f5bb07b7fb688a7216d646e524a099b7bd", func := "marginalia/marginalialaw01.InputBehind", spec := "inputBehind", inPlace := ["internal/abi.NoEscape", "internal/bytealg.CountString", "internal/bytealg.IndexByteString", "internal/bytealg.IndexString", "internal/bytealg.MakeNoZero"], named := ["internal/bytealg.MaxLen", "unicode/utf8.first", "unicode/utf8.acceptRanges"], apart := false, laid := [("unicode/utf8.acceptRanges", laid_unicode_utf8_acceptRanges), ("unicode/utf8.first", laid_unicode_utf8_first)], narrowed := true }
def InputBehindUptoSaid : Prop := inputBehindUptoRow.holds Tryd.pinned (OpenSpec.upto inputBehindSpec)

/-- 'marginalialaw01.InputRight', WHERE WHAT IT READS IS OF BULK AT MOST 1048576: true; the input reads as it did. -/
def inputRightUptoRow : OpenClaim := { program := "ytckajljkdlejoaadoor", sum := "2bab6052ce7cb3a64f50b33ae76ce8f5bb07b7fb688a7216d646e524a099b7bd", func := "marginalia/marginalialaw01.InputRight", spec := "inputRight", inPlace := ["internal/abi.NoEscape", "internal/bytealg.CountString", "internal/bytealg.IndexByteString", "internal/bytealg.IndexString", "internal/bytealg.MakeNoZero"], named := ["internal/bytealg.MaxLen", "unicode/utf8.first", "unicode/utf8.acceptRanges"], apart := false, laid := [("unicode/utf8.acceptRanges", laid_unicode_utf8_acceptRanges), ("unicode/utf8.first", laid_unicode_utf8_first)], narrowed := true }
def InputRightUptoSaid : Prop := inputRightUptoRow.holds Tryd.pinned (OpenSpec.upto inputRightSpec)

end Rows
end Go.Proofs.YtckajljkdlejoaaDoor
