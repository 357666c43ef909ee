/-
  NARROWER THAN 'FOR EVERY INPUT', by the rows' own cells (each row's printed sentence says how): PolicyCheck: laid · PolicyParse: laid · PolicyLets: laid · PolicyAllowed: loops, laid · PolicyNever: laid · PolicyPart: loops, laid.
  DERIVED. THE GIVEN ROWS OF THIS SEAT. 6 by the template 'for every input the law returns true; each argument reads behind the call as it read before'; 0 by the template 'total and deterministic' (their statements: YtnbghhddmlohoaaDoorTotals.lean).
  GIVEN WITH THE SEED: the statements are not yours to turn. If you find one false, say at which input.
  Laid BY PROGRAM, IN A SANDBOX (cutbox-rows.mjs): the forced cells as the released guide's own fill.sh prints them over the translation 47c983bc05490992… (all of the seat's roots in one cut). By AI agents, Wed Nov 11 2026. No macro, syntax, notation, axiom, sorry.
-/
import Derived.Test.YtnbghhddmlohoaaDoorChecked
import GoSem.PinnedTables
import GoSem.Claim
import GoSem.ClaimJoined
import GoSem.ClaimMapViews
import Derived.JoinedTies
import Derived.KernelRfl
namespace Go.Proofs.YtnbghhddmlohoaaDoor
/- THE CELL 'sum', in the pinned program and in every row, IS THE sha256 OF THE DUMP (.gsa) THAT YtnbghhddmlohoaaDoorProg.lean LOADS. Nothing in Lean hashes anything: it is a label: what it is worth is what the hold of that sum in a sandbox is worth. -/
noncomputable def Tryd.pinned : Pinned := { name := "ytnbghhddmlohoaadoor", sum := "47c983bc054909927df678181e523d710f82d252489244e00bc736557ac36cfe", checked := Tryd.checked }
namespace Rows
def none {H : Type} : Left H := { results := [], args := [] }

/- WHAT THE LISTED PACKAGE-LEVEL VARIABLES READ AS WHEN THE CALL BEGINS. Each datum BY PROGRAM (the guide's laid-datum.mjs) off the statement by which the dump's own 'gosem.cut.vars' lays the variable. In a bare row this is a premise. The card (YtnbghhddmlohoaaDoorCards.lean) ties it to the program's text. -/
def laid_unicode_utf8_acceptRanges {H : Type} : DataW H := .agg [.agg [.lit (.int .u8 128), .lit (.int .u8 191)], .agg [.lit (.int .u8 160), .lit (.int .u8 191)], .agg [.lit (.int .u8 128), .lit (.int .u8 159)], .agg [.lit (.int .u8 144), .lit (.int .u8 191)], .agg [.lit (.int .u8 128), .lit (.int .u8 143)], .agg [.lit (.int .u8 0), .lit (.int .u8 0)], .agg [.lit (.int .u8 0), .lit (.int .u8 0)], .agg [.lit (.int .u8 0), .lit (.int .u8 0)], .agg [.lit (.int .u8 0), .lit (.int .u8 0)], .agg [.lit (.int .u8 0), .lit (.int .u8 0)], .agg [.lit (.int .u8 0), .lit (.int .u8 0)], .agg [.lit (.int .u8 0), .lit (.int .u8 0)], .agg [.lit (.int .u8 0), .lit (.int .u8 0)], .agg [.lit (.int .u8 0), .lit (.int .u8 0)], .agg [.lit (.int .u8 0), .lit (.int .u8 0)], .agg [.lit (.int .u8 0), .lit (.int .u8 0)]]
/-- One of Go's own tables, pinned by name: the form's constant. -/
def laid_unicode_utf8_first : DataW Unit := Go.Pinned.utf8First

/-- 'marginalialaw11.PolicyCheck': WHATEVER THE INPUT: true; the input reads as it did. -/
def policyCheckSpec : ChangeSpec := { name := "policyCheck", fn := fun _ => fun
  | [d] => { results := [.lit (.bool true)], args := [d] }
  | _ => none }
def policyCheckRow : OpenClaim := { program := "ytnbghhddmlohoaadoor", sum := "47c983bc054909927df678181e523d710f82d252489244e00bc736557ac36cfe", func := "marginalia/marginalialaw11.PolicyCheck", spec := "policyCheck", inPlace := ["internal/bytealg.CountString", "internal/bytealg.IndexByteString", "internal/bytealg.IndexString", "internal/abi.NoEscape"], unfollowed := true, recurses := true, named := ["unicode/utf8.first", "unicode/utf8.acceptRanges", "internal/bytealg.MaxLen"], apart := false, laid := [("unicode/utf8.acceptRanges", laid_unicode_utf8_acceptRanges), ("unicode/utf8.first", laid_unicode_utf8_first)] }
def PolicyCheckSaid : Prop := policyCheckRow.holds Tryd.pinned (OpenSpec.ofChange policyCheckSpec)

/-- ITS FALSE NEIGHBOUR: 'it returns false'. Refute it at one input. -/
def policyCheckWrong : ChangeSpec := { name := "policyCheck", fn := fun _ => fun
  | [d] => { results := [.lit (.bool false)], args := [d] }
  | _ => none }
def PolicyCheckWrongFalsely : Prop := policyCheckRow.holds Tryd.pinned (OpenSpec.ofChange policyCheckWrong)

/-- 'marginalialaw11.PolicyParse': WHATEVER THE INPUT: true; the input reads as it did. -/
def policyParseSpec : ChangeSpec := { name := "policyParse", fn := fun _ => fun
  | [d] => { results := [.lit (.bool true)], args := [d] }
  | _ => none }
def policyParseRow : OpenClaim := { program := "ytnbghhddmlohoaadoor", sum := "47c983bc054909927df678181e523d710f82d252489244e00bc736557ac36cfe", func := "marginalia/marginalialaw11.PolicyParse", spec := "policyParse", inPlace := ["internal/bytealg.CountString", "internal/bytealg.IndexByteString", "internal/bytealg.IndexString", "internal/abi.NoEscape"], unfollowed := true, recurses := true, named := ["unicode/utf8.first", "unicode/utf8.acceptRanges", "internal/bytealg.MaxLen"], apart := false, laid := [("unicode/utf8.acceptRanges", laid_unicode_utf8_acceptRanges), ("unicode/utf8.first", laid_unicode_utf8_first)] }
def PolicyParseSaid : Prop := policyParseRow.holds Tryd.pinned (OpenSpec.ofChange policyParseSpec)

/-- ITS FALSE NEIGHBOUR: 'it returns false'. Refute it at one input. -/
def policyParseWrong : ChangeSpec := { name := "policyParse", fn := fun _ => fun
  | [d] => { results := [.lit (.bool false)], args := [d] }
  | _ => none }
def PolicyParseWrongFalsely : Prop := policyParseRow.holds Tryd.pinned (OpenSpec.ofChange policyParseWrong)

/-- 'marginalialaw11.PolicyLets': WHATEVER THE INPUT: true; the input reads as it did. -/
def policyLetsSpec : ChangeSpec := { name := "policyLets", fn := fun _ => fun
  | [d1, d2, d3] => { results := [.lit (.bool true)], args := [d1, d2, d3] }
  | _ => none }
def policyLetsRow : OpenClaim := { program := "ytnbghhddmlohoaadoor", sum := "47c983bc054909927df678181e523d710f82d252489244e00bc736557ac36cfe", func := "marginalia/marginalialaw11.PolicyLets", spec := "policyLets", inPlace := ["internal/bytealg.CountString", "internal/bytealg.IndexByteString", "internal/bytealg.IndexString", "internal/abi.NoEscape"], unfollowed := true, recurses := true, named := ["unicode/utf8.first", "unicode/utf8.acceptRanges", "internal/bytealg.MaxLen"], apart := false, laid := [("unicode/utf8.acceptRanges", laid_unicode_utf8_acceptRanges), ("unicode/utf8.first", laid_unicode_utf8_first)] }
def PolicyLetsSaid : Prop := policyLetsRow.holds Tryd.pinned (OpenSpec.ofChange policyLetsSpec)

/-- ITS FALSE NEIGHBOUR: 'it returns false'. Refute it at one input. -/
def policyLetsWrong : ChangeSpec := { name := "policyLets", fn := fun _ => fun
  | [d1, d2, d3] => { results := [.lit (.bool false)], args := [d1, d2, d3] }
  | _ => none }
def PolicyLetsWrongFalsely : Prop := policyLetsRow.holds Tryd.pinned (OpenSpec.ofChange policyLetsWrong)

/-- 'marginalialaw11.PolicyAllowed': WHATEVER THE INPUT: true; the input reads as it did. -/
def policyAllowedSpec : ChangeSpec := { name := "policyAllowed", fn := fun _ => fun
  | [d1, d2] => { results := [.lit (.bool true)], args := [d1, d2] }
  | _ => none }
def policyAllowedRow : OpenClaim := { program := "ytnbghhddmlohoaadoor", sum := "47c983bc054909927df678181e523d710f82d252489244e00bc736557ac36cfe", func := "marginalia/marginalialaw11.PolicyAllowed", spec := "policyAllowed", inPlace := ["internal/bytealg.CountString", "internal/bytealg.IndexByteString", "internal/bytealg.IndexString", "internal/abi.NoEscape"], unfollowed := true, recurses := true, named := ["unicode/utf8.first", "unicode/utf8.acceptRanges", "internal/bytealg.MaxLen"], loops := true, apart := false, laid := [("unicode/utf8.acceptRanges", laid_unicode_utf8_acceptRanges), ("unicode/utf8.first", laid_unicode_utf8_first)] }
def PolicyAllowedSaid : Prop := policyAllowedRow.holds Tryd.pinned (OpenSpec.ofChange policyAllowedSpec)

/-- ITS FALSE NEIGHBOUR: 'it returns false'. Refute it at one input. -/
def policyAllowedWrong : ChangeSpec := { name := "policyAllowed", fn := fun _ => fun
  | [d1, d2] => { results := [.lit (.bool false)], args := [d1, d2] }
  | _ => none }
def PolicyAllowedWrongFalsely : Prop := policyAllowedRow.holds Tryd.pinned (OpenSpec.ofChange policyAllowedWrong)

/-- 'marginalialaw11.PolicyNever': WHATEVER THE INPUT: true; the input reads as it did. -/
def policyNeverSpec : ChangeSpec := { name := "policyNever", fn := fun _ => fun
  | [d1, d2, d3] => { results := [.lit (.bool true)], args := [d1, d2, d3] }
  | _ => none }
def policyNeverRow : OpenClaim := { program := "ytnbghhddmlohoaadoor", sum := "47c983bc054909927df678181e523d710f82d252489244e00bc736557ac36cfe", func := "marginalia/marginalialaw11.PolicyNever", spec := "policyNever", inPlace := ["internal/bytealg.CountString", "internal/bytealg.IndexByteString", "internal/bytealg.IndexString", "internal/abi.NoEscape"], unfollowed := true, recurses := true, named := ["unicode/utf8.first", "unicode/utf8.acceptRanges", "internal/bytealg.MaxLen"], apart := false, laid := [("unicode/utf8.acceptRanges", laid_unicode_utf8_acceptRanges), ("unicode/utf8.first", laid_unicode_utf8_first)] }
def PolicyNeverSaid : Prop := policyNeverRow.holds Tryd.pinned (OpenSpec.ofChange policyNeverSpec)

/-- ITS FALSE NEIGHBOUR: 'it returns false'. Refute it at one input. -/
def policyNeverWrong : ChangeSpec := { name := "policyNever", fn := fun _ => fun
  | [d1, d2, d3] => { results := [.lit (.bool false)], args := [d1, d2, d3] }
  | _ => none }
def PolicyNeverWrongFalsely : Prop := policyNeverRow.holds Tryd.pinned (OpenSpec.ofChange policyNeverWrong)

/-- 'marginalialaw11.PolicyPart': WHATEVER THE INPUT: true; the input reads as it did. -/
def policyPartSpec : ChangeSpec := { name := "policyPart", fn := fun _ => fun
  | [d1, d2, d3] => { results := [.lit (.bool true)], args := [d1, d2, d3] }
  | _ => none }
def policyPartRow : OpenClaim := { program := "ytnbghhddmlohoaadoor", sum := "47c983bc054909927df678181e523d710f82d252489244e00bc736557ac36cfe", func := "marginalia/marginalialaw11.PolicyPart", spec := "policyPart", inPlace := ["internal/bytealg.CountString", "internal/bytealg.IndexByteString", "internal/bytealg.IndexString", "internal/abi.NoEscape"], unfollowed := true, recurses := true, named := ["unicode/utf8.first", "unicode/utf8.acceptRanges", "internal/bytealg.MaxLen"], loops := true, apart := false, laid := [("unicode/utf8.acceptRanges", laid_unicode_utf8_acceptRanges), ("unicode/utf8.first", laid_unicode_utf8_first)] }
def PolicyPartSaid : Prop := policyPartRow.holds Tryd.pinned (OpenSpec.ofChange policyPartSpec)

/-- ITS FALSE NEIGHBOUR: 'it returns false'. Refute it at one input. -/
def policyPartWrong : ChangeSpec := { name := "policyPart", fn := fun _ => fun
  | [d1, d2, d3] => { results := [.lit (.bool false)], args := [d1, d2, d3] }
  | _ => none }
def PolicyPartWrongFalsely : Prop := policyPartRow.holds Tryd.pinned (OpenSpec.ofChange policyPartWrong)

/- THE SECOND FORM. 'bulk': how many values and letters a reading holds, each counted each time it is reached (what is shared counts as often as it is met; a slice's spare places count too). A statement '..UptoSaid' is the law's where the arguments, and the package variables that the reading takes, are together of bulk at most 1048576: NARROWER than '..Said'. Prove '..Said' where nothing that the law and all that it calls make is longer than what came in: it says more and counts as full. Else prove '..UptoSaid'. A law counts once. -/
mutual
def uptoBulk {H : Type} : DataW H → Nat
  | .lit (.string bytes) => bytes.length + 1
  | .lit _ => 1
  | .nil => 1
  | .ptr d => uptoBulk d + 1
  | .slice elems spare => uptoBulkAll elems + uptoBulkAll spare + 1
  | .agg parts => uptoBulkAll parts + 1
  | .iface _ d => uptoBulk d + 1
  | .map entries => uptoBulkEntries entries + 1
  | .held _ => 1
def uptoBulkAll {H : Type} : List (DataW H) → Nat
  | [] => 0
  | d :: r => uptoBulk d + uptoBulkAll r
def uptoBulkEntries {H : Type} : List (Lit × DataW H) → Nat
  | [] => 0
  | x :: r => uptoBulkEntry x + uptoBulkEntries r
def uptoBulkEntry {H : Type} : Lit × DataW H → Nat
  | (.string bytes, d) => bytes.length + uptoBulk d + 1
  | (_, d) => uptoBulk d + 1
 end
def uptoSmall : (H : Type) → List (DataW H) → Bool := fun _ ds => decide (uptoBulkAll ds ≤ 1048576)
def OpenSpec.upto (s : _root_.Go.ChangeSpec) : _root_.Go.OpenSpec := { _root_.Go.OpenSpec.ofChange s with cond := some uptoSmall }

/-- 'marginalialaw11.PolicyCheck', WHERE WHAT IT READS IS OF BULK AT MOST 1048576: true; the input reads as it did. -/
def policyCheckUptoRow : OpenClaim := { program := "ytnbghhddmlohoaadoor", sum := "47c983bc054909927df678181e523d710f82d252489244e00bc736557ac36cfe", func := "marginalia/marginalialaw11.PolicyCheck", spec := "policyCheck", inPlace := ["internal/bytealg.CountString", "internal/bytealg.IndexByteString", "internal/bytealg.IndexString", "internal/abi.NoEscape"], unfollowed := true, recurses := true, named := ["unicode/utf8.first", "unicode/utf8.acceptRanges", "internal/bytealg.MaxLen"], apart := false, laid := [("unicode/utf8.acceptRanges", laid_unicode_utf8_acceptRanges), ("unicode/utf8.first", laid_unicode_utf8_first)], narrowed := true }
def PolicyCheckUptoSaid : Prop := policyCheckUptoRow.holds Tryd.pinned (OpenSpec.upto policyCheckSpec)

/-- 'marginalialaw11.PolicyParse', WHERE WHAT IT READS IS OF BULK AT MOST 1048576: true; the input reads as it did. -/
def policyParseUptoRow : OpenClaim := { program := "ytnbghhddmlohoaadoor", sum := "47c983bc054909927df678181e523d710f82d252489244e00bc736557ac36cfe", func := "marginalia/marginalialaw11.PolicyParse", spec := "policyParse", inPlace := ["internal/bytealg.CountString", "internal/bytealg.IndexByteString", "internal/bytealg.IndexString", "internal/abi.NoEscape"], unfollowed := true, recurses := true, named := ["unicode/utf8.first", "unicode/utf8.acceptRanges", "internal/bytealg.MaxLen"], apart := false, laid := [("unicode/utf8.acceptRanges", laid_unicode_utf8_acceptRanges), ("unicode/utf8.first", laid_unicode_utf8_first)], narrowed := true }
def PolicyParseUptoSaid : Prop := policyParseUptoRow.holds Tryd.pinned (OpenSpec.upto policyParseSpec)

/-- 'marginalialaw11.PolicyLets', WHERE WHAT IT READS IS OF BULK AT MOST 1048576: true; the input reads as it did. -/
def policyLetsUptoRow : OpenClaim := { program := "ytnbghhddmlohoaadoor", sum := "47c983bc054909927df678181e523d710f82d252489244e00bc736557ac36cfe", func := "marginalia/marginalialaw11.PolicyLets", spec := "policyLets", inPlace := ["internal/bytealg.CountString", "internal/bytealg.IndexByteString", "internal/bytealg.IndexString", "internal/abi.NoEscape"], unfollowed := true, recurses := true, named := ["unicode/utf8.first", "unicode/utf8.acceptRanges", "internal/bytealg.MaxLen"], apart := false, laid := [("unicode/utf8.acceptRanges", laid_unicode_utf8_acceptRanges), ("unicode/utf8.first", laid_unicode_utf8_first)], narrowed := true }
def PolicyLetsUptoSaid : Prop := policyLetsUptoRow.holds Tryd.pinned (OpenSpec.upto policyLetsSpec)

/-- 'marginalialaw11.PolicyAllowed', WHERE WHAT IT READS IS OF BULK AT MOST 1048576: true; the input reads as it did. -/
def policyAllowedUptoRow : OpenClaim := { program := "ytnbghhddmlohoaadoor", sum := "47c983bc054909927df678181e523d710f82d252489244e00bc736557ac36cfe", func := "marginalia/marginalialaw11.PolicyAllowed", spec := "policyAllowed", inPlace := ["internal/bytealg.CountString", "internal/bytealg.IndexByteString", "internal/bytealg.IndexString", "internal/abi.NoEscape"], unfollowed := true, recurses := true, named := ["unicode/utf8.first", "unicode/utf8.acceptRanges", "internal/bytealg.MaxLen"], loops := true, apart := false, laid := [("unicode/utf8.acceptRanges", laid_unicode_utf8_acceptRanges), ("unicode/utf8.first", laid_unicode_utf8_first)], narrowed := true }
def PolicyAllowedUptoSaid : Prop := policyAllowedUptoRow.holds Tryd.pinned (OpenSpec.upto policyAllowedSpec)

/-- 'marginalialaw11.PolicyNever', WHERE WHAT IT READS IS OF BULK AT MOST 1048576: true; the input reads as it did. -/
def policyNeverUptoRow : OpenClaim := { program := "ytnbghhddmlohoaadoor", sum := "47c983bc054909927df678181e523d710f82d252489244e00bc736557ac36cfe", func := "marginalia/marginalialaw11.PolicyNever", spec := "policyNever", inPlace := ["internal/bytealg.CountString", "internal/bytealg.IndexByteString", "internal/bytealg.IndexString", "internal/abi.NoEscape"], unfollowed := true, recurses := true, named := ["unicode/utf8.first", "unicode/utf8.acceptRanges", "internal/bytealg.MaxLen"], apart := false, laid := [("unicode/utf8.acceptRanges", laid_unicode_utf8_acceptRanges), ("unicode/utf8.first", laid_unicode_utf8_first)], narrowed := true }
def PolicyNeverUptoSaid : Prop := policyNeverUptoRow.holds Tryd.pinned (OpenSpec.upto policyNeverSpec)

/-- 'marginalialaw11.PolicyPart', WHERE WHAT IT READS IS OF BULK AT MOST 1048576: true; the input reads as it did. -/
def policyPartUptoRow : OpenClaim := { program := "ytnbghhddmlohoaadoor", sum := "47c983bc054909927df678181e523d710f82d252489244e00bc736557ac36cfe", func := "marginalia/marginalialaw11.PolicyPart", spec := "policyPart", inPlace := ["internal/bytealg.CountString", "internal/bytealg.IndexByteString", "internal/bytealg.IndexString", "internal/abi.NoEscape"], unfollowed := true, recurses := true, named := ["unicode/utf8.first", "unicode/utf8.acceptRanges", "internal/bytealg.MaxLen"], loops := true, apart := false, laid := [("unicode/utf8.acceptRanges", laid_unicode_utf8_acceptRanges), ("unicode/utf8.first", laid_unicode_utf8_first)], narrowed := true }
def PolicyPartUptoSaid : Prop := policyPartUptoRow.holds Tryd.pinned (OpenSpec.upto policyPartSpec)

end Rows
end Go.Proofs.YtnbghhddmlohoaaDoor
