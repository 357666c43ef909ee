/-
  No cell of these rows narrows 'for every input' (looked for: loops, veiled, ifaces, maps, wideKeys, modest, calm, conditions, laid).
  DERIVED. THE GIVEN ROWS OF THIS SEAT. 5 by the template 'for every input the law returns true; each argument reads behind the call as it read before'; 0 by the template 'total and deterministic' (their statements: YtjfkenjmjoncbaaTotals.lean).
  GIVEN WITH THE SEED: the statements are not yours to turn. If you find one false, say at which input.
  Laid BY PROGRAM, IN A SANDBOX (cutbox-rows.mjs): the forced cells as the released guide's own fill.sh prints them over the translation 0f000e1c355c34eb… (all of the seat's roots in one cut). By AI agents, Wed Nov 11 2026. No macro, syntax, notation, axiom, sorry.
-/
import Derived.Test.YtjfkenjmjoncbaaChecked
import GoSem.Claim
import GoSem.ClaimJoined
import GoSem.ClaimMapViews
import Derived.JoinedTies
import Derived.KernelRfl
namespace Go.Proofs.Ytjfkenjmjoncbaa
/- THE CELL 'sum', in the pinned program and in every row, IS THE sha256 OF THE DUMP (.gsa) THAT YtjfkenjmjoncbaaProg.lean LOADS. Nothing in Lean hashes anything: it is a label: what it is worth is what the hold of that sum in a sandbox is worth. -/
noncomputable def Try.pinned : Pinned := { name := "ytjfkenjmjoncbaa", sum := "0f000e1c355c34eb0b8899eef41cef5b944e2a2b2528efcfc32f2093d8eaad80", checked := Try.checked }
namespace Rows
def none {H : Type} : Left H := { results := [], args := [] }

/-- 'marginalialaw23.LedgerStays': WHATEVER THE INPUT: true; the input reads as it did. -/
def ledgerStaysSpec : ChangeSpec := { name := "ledgerStays", fn := fun _ => fun
  | [d1, d2] => { results := [.lit (.bool true)], args := [d1, d2] }
  | _ => none }
def ledgerStaysRow : OpenClaim := { program := "ytjfkenjmjoncbaa", sum := "0f000e1c355c34eb0b8899eef41cef5b944e2a2b2528efcfc32f2093d8eaad80", func := "marginalia/marginalialaw23.LedgerStays", spec := "ledgerStays", recurses := true, apart := false }
def LedgerStaysSaid : Prop := ledgerStaysRow.holds Try.pinned (OpenSpec.ofChange ledgerStaysSpec)

/-- ITS FALSE NEIGHBOUR: 'it returns false'. Refute it at one input. -/
def ledgerStaysWrong : ChangeSpec := { name := "ledgerStays", fn := fun _ => fun
  | [d1, d2] => { results := [.lit (.bool false)], args := [d1, d2] }
  | _ => none }
def LedgerStaysWrongFalsely : Prop := ledgerStaysRow.holds Try.pinned (OpenSpec.ofChange ledgerStaysWrong)

/-- 'marginalialaw23.LedgerSwept': WHATEVER THE INPUT: true; the input reads as it did. -/
def ledgerSweptSpec : ChangeSpec := { name := "ledgerSwept", fn := fun _ => fun
  | [d1, d2] => { results := [.lit (.bool true)], args := [d1, d2] }
  | _ => none }
def ledgerSweptRow : OpenClaim := { program := "ytjfkenjmjoncbaa", sum := "0f000e1c355c34eb0b8899eef41cef5b944e2a2b2528efcfc32f2093d8eaad80", func := "marginalia/marginalialaw23.LedgerSwept", spec := "ledgerSwept", recurses := true, apart := false }
def LedgerSweptSaid : Prop := ledgerSweptRow.holds Try.pinned (OpenSpec.ofChange ledgerSweptSpec)

/-- ITS FALSE NEIGHBOUR: 'it returns false'. Refute it at one input. -/
def ledgerSweptWrong : ChangeSpec := { name := "ledgerSwept", fn := fun _ => fun
  | [d1, d2] => { results := [.lit (.bool false)], args := [d1, d2] }
  | _ => none }
def LedgerSweptWrongFalsely : Prop := ledgerSweptRow.holds Try.pinned (OpenSpec.ofChange ledgerSweptWrong)

/-- 'marginalialaw23.LedgerBack': WHATEVER THE INPUT: true; the input reads as it did. -/
def ledgerBackSpec : ChangeSpec := { name := "ledgerBack", fn := fun _ => fun
  | [d1, d2] => { results := [.lit (.bool true)], args := [d1, d2] }
  | _ => none }
def ledgerBackRow : OpenClaim := { program := "ytjfkenjmjoncbaa", sum := "0f000e1c355c34eb0b8899eef41cef5b944e2a2b2528efcfc32f2093d8eaad80", func := "marginalia/marginalialaw23.LedgerBack", spec := "ledgerBack", recurses := true, apart := false }
def LedgerBackSaid : Prop := ledgerBackRow.holds Try.pinned (OpenSpec.ofChange ledgerBackSpec)

/-- ITS FALSE NEIGHBOUR: 'it returns false'. Refute it at one input. -/
def ledgerBackWrong : ChangeSpec := { name := "ledgerBack", fn := fun _ => fun
  | [d1, d2] => { results := [.lit (.bool false)], args := [d1, d2] }
  | _ => none }
def LedgerBackWrongFalsely : Prop := ledgerBackRow.holds Try.pinned (OpenSpec.ofChange ledgerBackWrong)

/-- 'marginalialaw23.LedgerLoad': WHATEVER THE INPUT: true; the input reads as it did. -/
def ledgerLoadSpec : ChangeSpec := { name := "ledgerLoad", fn := fun _ => fun
  | [d1, d2, d3] => { results := [.lit (.bool true)], args := [d1, d2, d3] }
  | _ => none }
def ledgerLoadRow : OpenClaim := { program := "ytjfkenjmjoncbaa", sum := "0f000e1c355c34eb0b8899eef41cef5b944e2a2b2528efcfc32f2093d8eaad80", func := "marginalia/marginalialaw23.LedgerLoad", spec := "ledgerLoad", recurses := true, apart := false }
def LedgerLoadSaid : Prop := ledgerLoadRow.holds Try.pinned (OpenSpec.ofChange ledgerLoadSpec)

/-- ITS FALSE NEIGHBOUR: 'it returns false'. Refute it at one input. -/
def ledgerLoadWrong : ChangeSpec := { name := "ledgerLoad", fn := fun _ => fun
  | [d1, d2, d3] => { results := [.lit (.bool false)], args := [d1, d2, d3] }
  | _ => none }
def LedgerLoadWrongFalsely : Prop := ledgerLoadRow.holds Try.pinned (OpenSpec.ofChange ledgerLoadWrong)

/-- 'marginalialaw23.LedgerNil': WHATEVER THE INPUT: true; the input reads as it did. -/
def ledgerNilSpec : ChangeSpec := { name := "ledgerNil", fn := fun _ => fun
  | [d1, d2] => { results := [.lit (.bool true)], args := [d1, d2] }
  | _ => none }
def ledgerNilRow : OpenClaim := { program := "ytjfkenjmjoncbaa", sum := "0f000e1c355c34eb0b8899eef41cef5b944e2a2b2528efcfc32f2093d8eaad80", func := "marginalia/marginalialaw23.LedgerNil", spec := "ledgerNil", recurses := true, apart := false }
def LedgerNilSaid : Prop := ledgerNilRow.holds Try.pinned (OpenSpec.ofChange ledgerNilSpec)

/-- ITS FALSE NEIGHBOUR: 'it returns false'. Refute it at one input. -/
def ledgerNilWrong : ChangeSpec := { name := "ledgerNil", fn := fun _ => fun
  | [d1, d2] => { results := [.lit (.bool false)], args := [d1, d2] }
  | _ => none }
def LedgerNilWrongFalsely : Prop := ledgerNilRow.holds Try.pinned (OpenSpec.ofChange ledgerNilWrong)

/- THE SECOND FORM. 'bulk': how many values and letters a reading holds, each counted each time it is reached (what is shared counts as often as it is met; a slice's spare places count too). A statement '..UptoSaid' is the law's where the arguments, and the package variables that the reading takes, are together of bulk at most 1048576: NARROWER than '..Said'. Prove '..Said' where nothing that the law and all that it calls make is longer than what came in: it says more and counts as full. Else prove '..UptoSaid'. A law counts once. -/
mutual
def uptoBulk {H : Type} : DataW H → Nat
  | .lit (.string bytes) => bytes.length + 1
  | .lit _ => 1
  | .nil => 1
  | .ptr d => uptoBulk d + 1
  | .slice elems spare => uptoBulkAll elems + uptoBulkAll spare + 1
  | .agg parts => uptoBulkAll parts + 1
  | .iface _ d => uptoBulk d + 1
  | .map entries => uptoBulkEntries entries + 1
  | .held _ => 1
def uptoBulkAll {H : Type} : List (DataW H) → Nat
  | [] => 0
  | d :: r => uptoBulk d + uptoBulkAll r
def uptoBulkEntries {H : Type} : List (Lit × DataW H) → Nat
  | [] => 0
  | x :: r => uptoBulkEntry x + uptoBulkEntries r
def uptoBulkEntry {H : Type} : Lit × DataW H → Nat
  | (.string bytes, d) => bytes.length + uptoBulk d + 1
  | (_, d) => uptoBulk d + 1
 end
def uptoSmall : (H : Type) → List (DataW H) → Bool := fun _ ds => decide (uptoBulkAll ds ≤ 1048576)
def OpenSpec.upto (s : _root_.Go.ChangeSpec) : _root_.Go.OpenSpec := { _root_.Go.OpenSpec.ofChange s with cond := some uptoSmall }

/-- 'marginalialaw23.LedgerStays', WHERE WHAT IT READS IS OF BULK AT MOST 1048576: true; the input reads as it did. -/
def ledgerStaysUptoRow : OpenClaim := { program := "ytjfkenjmjoncbaa", sum := "0f000e1c355c34eb0b8899eef41cef5b944e2a2b2528efcfc32f2093d8eaad80", func := "marginalia/marginalialaw23.LedgerStays", spec := "ledgerStays", recurses := true, apart := false, narrowed := true }
def LedgerStaysUptoSaid : Prop := ledgerStaysUptoRow.holds Try.pinned (OpenSpec.upto ledgerStaysSpec)

/-- 'marginalialaw23.LedgerSwept', WHERE WHAT IT READS IS OF BULK AT MOST 1048576: true; the input reads as it did. -/
def ledgerSweptUptoRow : OpenClaim := { program := "ytjfkenjmjoncbaa", sum := "0f000e1c355c34eb0b8899eef41cef5b944e2a2b2528efcfc32f2093d8eaad80", func := "marginalia/marginalialaw23.LedgerSwept", spec := "ledgerSwept", recurses := true, apart := false, narrowed := true }
def LedgerSweptUptoSaid : Prop := ledgerSweptUptoRow.holds Try.pinned (OpenSpec.upto ledgerSweptSpec)

/-- 'marginalialaw23.LedgerBack', WHERE WHAT IT READS IS OF BULK AT MOST 1048576: true; the input reads as it did. -/
def ledgerBackUptoRow : OpenClaim := { program := "ytjfkenjmjoncbaa", sum := "0f000e1c355c34eb0b8899eef41cef5b944e2a2b2528efcfc32f2093d8eaad80", func := "marginalia/marginalialaw23.LedgerBack", spec := "ledgerBack", recurses := true, apart := false, narrowed := true }
def LedgerBackUptoSaid : Prop := ledgerBackUptoRow.holds Try.pinned (OpenSpec.upto ledgerBackSpec)

/-- 'marginalialaw23.LedgerLoad', WHERE WHAT IT READS IS OF BULK AT MOST 1048576: true; the input reads as it did. -/
def ledgerLoadUptoRow : OpenClaim := { program := "ytjfkenjmjoncbaa", sum := "0f000e1c355c34eb0b8899eef41cef5b944e2a2b2528efcfc32f2093d8eaad80", func := "marginalia/marginalialaw23.LedgerLoad", spec := "ledgerLoad", recurses := true, apart := false, narrowed := true }
def LedgerLoadUptoSaid : Prop := ledgerLoadUptoRow.holds Try.pinned (OpenSpec.upto ledgerLoadSpec)

/-- 'marginalialaw23.LedgerNil', WHERE WHAT IT READS IS OF BULK AT MOST 1048576: true; the input reads as it did. -/
def ledgerNilUptoRow : OpenClaim := { program := "ytjfkenjmjoncbaa", sum := "0f000e1c355c34eb0b8899eef41cef5b944e2a2b2528efcfc32f2093d8eaad80", func := "marginalia/marginalialaw23.LedgerNil", spec := "ledgerNil", recurses := true, apart := false, narrowed := true }
def LedgerNilUptoSaid : Prop := ledgerNilUptoRow.holds Try.pinned (OpenSpec.upto ledgerNilSpec)

end Rows
end Go.Proofs.Ytjfkenjmjoncbaa
