/-
  No cell of these rows narrows 'for every input' (looked for: loops, veiled, ifaces, maps, wideKeys, modest, calm, conditions, laid).
  DERIVED. THE GIVEN ROWS OF THIS SEAT. 4 by the template 'for every input the law returns true; each argument reads behind the call as it read before'; 0 by the template 'total and deterministic' (their statements: YtdbiobaccihpfaaTotals.lean).
  GIVEN WITH THE SEED: the statements are not yours to turn. If you find one false, say at which input.
  Laid BY PROGRAM, IN A SANDBOX (cutbox-rows.mjs): the forced cells as the released guide's own fill.sh prints them over the translation 50499765adc25f16… (all of the seat's roots in one cut). By AI agents, Wed Nov 11 2026. No macro, syntax, notation, axiom, sorry.
-/
import Derived.Test.YtdbiobaccihpfaaChecked
import GoSem.Claim
import GoSem.ClaimJoined
import GoSem.ClaimMapViews
import Derived.JoinedTies
import Derived.KernelRfl
namespace Go.Proofs.Ytdbiobaccihpfaa
/- THE CELL 'sum', in the pinned program and in every row, IS THE sha256 OF THE DUMP (.gsa) THAT YtdbiobaccihpfaaProg.lean LOADS. Nothing in Lean hashes anything: it is a label: what it is worth is what the hold of that sum in a sandbox is worth. -/
noncomputable def Try.pinned : Pinned := { name := "ytdbiobaccihpfaa", sum := "50499765adc25f16562624d4c7d74244d2555048ebad32f29972dc3a00f97555", checked := Try.checked }
namespace Rows
def none {H : Type} : Left H := { results := [], args := [] }

/-- 'marginalialaw22.RecordEncode': WHATEVER THE INPUT: true; the input reads as it did. -/
def recordEncodeSpec : ChangeSpec := { name := "recordEncode", fn := fun _ => fun
  | [d] => { results := [.lit (.bool true)], args := [d] }
  | _ => none }
def recordEncodeRow : OpenClaim := { program := "ytdbiobaccihpfaa", sum := "50499765adc25f16562624d4c7d74244d2555048ebad32f29972dc3a00f97555", func := "marginalia/marginalialaw22.RecordEncode", spec := "recordEncode", apart := false }
def RecordEncodeSaid : Prop := recordEncodeRow.holds Try.pinned (OpenSpec.ofChange recordEncodeSpec)

/-- ITS FALSE NEIGHBOUR: 'it returns false'. Refute it at one input. -/
def recordEncodeWrong : ChangeSpec := { name := "recordEncode", fn := fun _ => fun
  | [d] => { results := [.lit (.bool false)], args := [d] }
  | _ => none }
def RecordEncodeWrongFalsely : Prop := recordEncodeRow.holds Try.pinned (OpenSpec.ofChange recordEncodeWrong)

/-- 'marginalialaw22.RecordDecode': WHATEVER THE INPUT: true; the input reads as it did. -/
def recordDecodeSpec : ChangeSpec := { name := "recordDecode", fn := fun _ => fun
  | [d] => { results := [.lit (.bool true)], args := [d] }
  | _ => none }
def recordDecodeRow : OpenClaim := { program := "ytdbiobaccihpfaa", sum := "50499765adc25f16562624d4c7d74244d2555048ebad32f29972dc3a00f97555", func := "marginalia/marginalialaw22.RecordDecode", spec := "recordDecode", apart := false }
def RecordDecodeSaid : Prop := recordDecodeRow.holds Try.pinned (OpenSpec.ofChange recordDecodeSpec)

/-- ITS FALSE NEIGHBOUR: 'it returns false'. Refute it at one input. -/
def recordDecodeWrong : ChangeSpec := { name := "recordDecode", fn := fun _ => fun
  | [d] => { results := [.lit (.bool false)], args := [d] }
  | _ => none }
def RecordDecodeWrongFalsely : Prop := recordDecodeRow.holds Try.pinned (OpenSpec.ofChange recordDecodeWrong)

/-- 'marginalialaw22.RecordBack': WHATEVER THE INPUT: true; the input reads as it did. -/
def recordBackSpec : ChangeSpec := { name := "recordBack", fn := fun _ => fun
  | [d1, d2] => { results := [.lit (.bool true)], args := [d1, d2] }
  | _ => none }
def recordBackRow : OpenClaim := { program := "ytdbiobaccihpfaa", sum := "50499765adc25f16562624d4c7d74244d2555048ebad32f29972dc3a00f97555", func := "marginalia/marginalialaw22.RecordBack", spec := "recordBack", apart := false }
def RecordBackSaid : Prop := recordBackRow.holds Try.pinned (OpenSpec.ofChange recordBackSpec)

/-- ITS FALSE NEIGHBOUR: 'it returns false'. Refute it at one input. -/
def recordBackWrong : ChangeSpec := { name := "recordBack", fn := fun _ => fun
  | [d1, d2] => { results := [.lit (.bool false)], args := [d1, d2] }
  | _ => none }
def RecordBackWrongFalsely : Prop := recordBackRow.holds Try.pinned (OpenSpec.ofChange recordBackWrong)

/-- 'marginalialaw22.RecordOnly': WHATEVER THE INPUT: true; the input reads as it did. -/
def recordOnlySpec : ChangeSpec := { name := "recordOnly", fn := fun _ => fun
  | [d] => { results := [.lit (.bool true)], args := [d] }
  | _ => none }
def recordOnlyRow : OpenClaim := { program := "ytdbiobaccihpfaa", sum := "50499765adc25f16562624d4c7d74244d2555048ebad32f29972dc3a00f97555", func := "marginalia/marginalialaw22.RecordOnly", spec := "recordOnly", apart := false }
def RecordOnlySaid : Prop := recordOnlyRow.holds Try.pinned (OpenSpec.ofChange recordOnlySpec)

/-- ITS FALSE NEIGHBOUR: 'it returns false'. Refute it at one input. -/
def recordOnlyWrong : ChangeSpec := { name := "recordOnly", fn := fun _ => fun
  | [d] => { results := [.lit (.bool false)], args := [d] }
  | _ => none }
def RecordOnlyWrongFalsely : Prop := recordOnlyRow.holds Try.pinned (OpenSpec.ofChange recordOnlyWrong)

/- THE SECOND FORM. 'bulk': how many values and letters a reading holds, each counted each time it is reached (what is shared counts as often as it is met; a slice's spare places count too). A statement '..UptoSaid' is the law's where the arguments, and the package variables that the reading takes, are together of bulk at most 1048576: NARROWER than '..Said'. Prove '..Said' where nothing that the law and all that it calls make is longer than what came in: it says more and counts as full. Else prove '..UptoSaid'. A law counts once. -/
mutual
def uptoBulk {H : Type} : DataW H → Nat
  | .lit (.string bytes) => bytes.length + 1
  | .lit _ => 1
  | .nil => 1
  | .ptr d => uptoBulk d + 1
  | .slice elems spare => uptoBulkAll elems + uptoBulkAll spare + 1
  | .agg parts => uptoBulkAll parts + 1
  | .iface _ d => uptoBulk d + 1
  | .map entries => uptoBulkEntries entries + 1
  | .held _ => 1
def uptoBulkAll {H : Type} : List (DataW H) → Nat
  | [] => 0
  | d :: r => uptoBulk d + uptoBulkAll r
def uptoBulkEntries {H : Type} : List (Lit × DataW H) → Nat
  | [] => 0
  | x :: r => uptoBulkEntry x + uptoBulkEntries r
def uptoBulkEntry {H : Type} : Lit × DataW H → Nat
  | (.string bytes, d) => bytes.length + uptoBulk d + 1
  | (_, d) => uptoBulk d + 1
 end
def uptoSmall : (H : Type) → List (DataW H) → Bool := fun _ ds => decide (uptoBulkAll ds ≤ 1048576)
def OpenSpec.upto (s : _root_.Go.ChangeSpec) : _root_.Go.OpenSpec := { _root_.Go.OpenSpec.ofChange s with cond := some uptoSmall }

/-- 'marginalialaw22.RecordEncode', WHERE WHAT IT READS IS OF BULK AT MOST 1048576: true; the input reads as it did. -/
def recordEncodeUptoRow : OpenClaim := { program := "ytdbiobaccihpfaa", sum := "50499765adc25f16562624d4c7d74244d2555048ebad32f29972dc3a00f97555", func := "marginalia/marginalialaw22.RecordEncode", spec := "recordEncode", apart := false, narrowed := true }
def RecordEncodeUptoSaid : Prop := recordEncodeUptoRow.holds Try.pinned (OpenSpec.upto recordEncodeSpec)

/-- 'marginalialaw22.RecordDecode', WHERE WHAT IT READS IS OF BULK AT MOST 1048576: true; the input reads as it did. -/
def recordDecodeUptoRow : OpenClaim := { program := "ytdbiobaccihpfaa", sum := "50499765adc25f16562624d4c7d74244d2555048ebad32f29972dc3a00f97555", func := "marginalia/marginalialaw22.RecordDecode", spec := "recordDecode", apart := false, narrowed := true }
def RecordDecodeUptoSaid : Prop := recordDecodeUptoRow.holds Try.pinned (OpenSpec.upto recordDecodeSpec)

/-- 'marginalialaw22.RecordBack', WHERE WHAT IT READS IS OF BULK AT MOST 1048576: true; the input reads as it did. -/
def recordBackUptoRow : OpenClaim := { program := "ytdbiobaccihpfaa", sum := "50499765adc25f16562624d4c7d74244d2555048ebad32f29972dc3a00f97555", func := "marginalia/marginalialaw22.RecordBack", spec := "recordBack", apart := false, narrowed := true }
def RecordBackUptoSaid : Prop := recordBackUptoRow.holds Try.pinned (OpenSpec.upto recordBackSpec)

/-- 'marginalialaw22.RecordOnly', WHERE WHAT IT READS IS OF BULK AT MOST 1048576: true; the input reads as it did. -/
def recordOnlyUptoRow : OpenClaim := { program := "ytdbiobaccihpfaa", sum := "50499765adc25f16562624d4c7d74244d2555048ebad32f29972dc3a00f97555", func := "marginalia/marginalialaw22.RecordOnly", spec := "recordOnly", apart := false, narrowed := true }
def RecordOnlyUptoSaid : Prop := recordOnlyUptoRow.holds Try.pinned (OpenSpec.upto recordOnlySpec)

end Rows
end Go.Proofs.Ytdbiobaccihpfaa
