/-
  No cell of these rows narrows 'for every input' (looked for: loops, veiled, ifaces, maps, wideKeys, modest, calm, conditions, laid).
  DERIVED. THE GIVEN ROWS OF THIS SEAT. 5 by the template 'for every input the law returns true; each argument reads behind the call as it read before'; 0 by the template 'total and deterministic' (their statements: YthomonglhieifaaTotals.lean).
  GIVEN WITH THE SEED: the statements are not yours to turn. If you find one false, say at which input.
  Laid BY PROGRAM, IN A SANDBOX (cutbox-rows.mjs): the forced cells as the released guide's own fill.sh prints them over the translation 3bef76b4140fe4ee… (all of the seat's roots in one cut). By AI agents, Wed Nov 11 2026. No macro, syntax, notation, axiom, sorry.
-/
import Derived.Test.YthomonglhieifaaChecked
import GoSem.Claim
import GoSem.ClaimJoined
import GoSem.ClaimMapViews
import Derived.JoinedTies
import Derived.KernelRfl
namespace Go.Proofs.Ythomonglhieifaa
/- THE CELL 'sum', in the pinned program and in every row, IS THE sha256 OF THE DUMP (.gsa) THAT YthomonglhieifaaProg.lean LOADS. Nothing in Lean hashes anything: it is a label: what it is worth is what the hold of that sum in a sandbox is worth. -/
noncomputable def Try.pinned : Pinned := { name := "ythomonglhieifaa", sum := "3bef76b4140fe4ee06cb78b0a48891de571e5a1af08674043c972334798d413c", checked := Try.checked }
namespace Rows
def none {H : Type} : Left H := { results := [], args := [] }

/-- 'marginalialaw10.SchemeOf': WHATEVER THE INPUT: true; the input reads as it did. -/
def schemeOfSpec : ChangeSpec := { name := "schemeOf", fn := fun _ => fun
  | [d] => { results := [.lit (.bool true)], args := [d] }
  | _ => none }
def schemeOfRow : OpenClaim := { program := "ythomonglhieifaa", sum := "3bef76b4140fe4ee06cb78b0a48891de571e5a1af08674043c972334798d413c", func := "marginalia/marginalialaw10.SchemeOf", spec := "schemeOf", inPlace := ["internal/abi.NoEscape", "internal/bytealg.IndexByteString", "internal/bytealg.IndexString"], named := ["internal/bytealg.MaxLen"], apart := false }
def SchemeOfSaid : Prop := schemeOfRow.holds Try.pinned (OpenSpec.ofChange schemeOfSpec)

/-- ITS FALSE NEIGHBOUR: 'it returns false'. Refute it at one input. -/
def schemeOfWrong : ChangeSpec := { name := "schemeOf", fn := fun _ => fun
  | [d] => { results := [.lit (.bool false)], args := [d] }
  | _ => none }
def SchemeOfWrongFalsely : Prop := schemeOfRow.holds Try.pinned (OpenSpec.ofChange schemeOfWrong)

/-- 'marginalialaw10.SchemeSafe': WHATEVER THE INPUT: true; the input reads as it did. -/
def schemeSafeSpec : ChangeSpec := { name := "schemeSafe", fn := fun _ => fun
  | [d1, d2] => { results := [.lit (.bool true)], args := [d1, d2] }
  | _ => none }
def schemeSafeRow : OpenClaim := { program := "ythomonglhieifaa", sum := "3bef76b4140fe4ee06cb78b0a48891de571e5a1af08674043c972334798d413c", func := "marginalia/marginalialaw10.SchemeSafe", spec := "schemeSafe", inPlace := ["internal/abi.NoEscape", "internal/bytealg.IndexByteString", "internal/bytealg.IndexString"], named := ["internal/bytealg.MaxLen"], apart := false }
def SchemeSafeSaid : Prop := schemeSafeRow.holds Try.pinned (OpenSpec.ofChange schemeSafeSpec)

/-- ITS FALSE NEIGHBOUR: 'it returns false'. Refute it at one input. -/
def schemeSafeWrong : ChangeSpec := { name := "schemeSafe", fn := fun _ => fun
  | [d1, d2] => { results := [.lit (.bool false)], args := [d1, d2] }
  | _ => none }
def SchemeSafeWrongFalsely : Prop := schemeSafeRow.holds Try.pinned (OpenSpec.ofChange schemeSafeWrong)

/-- 'marginalialaw10.SchemeHidden': WHATEVER THE INPUT: true; the input reads as it did. -/
def schemeHiddenSpec : ChangeSpec := { name := "schemeHidden", fn := fun _ => fun
  | [d1, d2, d3] => { results := [.lit (.bool true)], args := [d1, d2, d3] }
  | _ => none }
def schemeHiddenRow : OpenClaim := { program := "ythomonglhieifaa", sum := "3bef76b4140fe4ee06cb78b0a48891de571e5a1af08674043c972334798d413c", func := "marginalia/marginalialaw10.SchemeHidden", spec := "schemeHidden", inPlace := ["internal/abi.NoEscape", "internal/bytealg.IndexByteString", "internal/bytealg.IndexString"], named := ["internal/bytealg.MaxLen"], apart := false }
def SchemeHiddenSaid : Prop := schemeHiddenRow.holds Try.pinned (OpenSpec.ofChange schemeHiddenSpec)

/-- ITS FALSE NEIGHBOUR: 'it returns false'. Refute it at one input. -/
def schemeHiddenWrong : ChangeSpec := { name := "schemeHidden", fn := fun _ => fun
  | [d1, d2, d3] => { results := [.lit (.bool false)], args := [d1, d2, d3] }
  | _ => none }
def SchemeHiddenWrongFalsely : Prop := schemeHiddenRow.holds Try.pinned (OpenSpec.ofChange schemeHiddenWrong)

/-- 'marginalialaw10.SchemeLetters': WHATEVER THE INPUT: true; the input reads as it did. -/
def schemeLettersSpec : ChangeSpec := { name := "schemeLetters", fn := fun _ => fun
  | [d1, d2] => { results := [.lit (.bool true)], args := [d1, d2] }
  | _ => none }
def schemeLettersRow : OpenClaim := { program := "ythomonglhieifaa", sum := "3bef76b4140fe4ee06cb78b0a48891de571e5a1af08674043c972334798d413c", func := "marginalia/marginalialaw10.SchemeLetters", spec := "schemeLetters", inPlace := ["internal/abi.NoEscape", "internal/bytealg.IndexByteString", "internal/bytealg.IndexString"], named := ["internal/bytealg.MaxLen"], apart := false }
def SchemeLettersSaid : Prop := schemeLettersRow.holds Try.pinned (OpenSpec.ofChange schemeLettersSpec)

/-- ITS FALSE NEIGHBOUR: 'it returns false'. Refute it at one input. -/
def schemeLettersWrong : ChangeSpec := { name := "schemeLetters", fn := fun _ => fun
  | [d1, d2] => { results := [.lit (.bool false)], args := [d1, d2] }
  | _ => none }
def SchemeLettersWrongFalsely : Prop := schemeLettersRow.holds Try.pinned (OpenSpec.ofChange schemeLettersWrong)

/-- 'marginalialaw10.SchemeGreat': WHATEVER THE INPUT: true; the input reads as it did. -/
def schemeGreatSpec : ChangeSpec := { name := "schemeGreat", fn := fun _ => fun
  | [d] => { results := [.lit (.bool true)], args := [d] }
  | _ => none }
def schemeGreatRow : OpenClaim := { program := "ythomonglhieifaa", sum := "3bef76b4140fe4ee06cb78b0a48891de571e5a1af08674043c972334798d413c", func := "marginalia/marginalialaw10.SchemeGreat", spec := "schemeGreat", inPlace := ["internal/abi.NoEscape", "internal/bytealg.IndexByteString", "internal/bytealg.IndexString"], named := ["internal/bytealg.MaxLen"], apart := false }
def SchemeGreatSaid : Prop := schemeGreatRow.holds Try.pinned (OpenSpec.ofChange schemeGreatSpec)

/-- ITS FALSE NEIGHBOUR: 'it returns false'. Refute it at one input. -/
def schemeGreatWrong : ChangeSpec := { name := "schemeGreat", fn := fun _ => fun
  | [d] => { results := [.lit (.bool false)], args := [d] }
  | _ => none }
def SchemeGreatWrongFalsely : Prop := schemeGreatRow.holds Try.pinned (OpenSpec.ofChange schemeGreatWrong)

/- THE SECOND FORM. 'bulk': how many values and letters a reading holds, each counted each time it is reached (what is shared counts as often as it is met; a slice's spare places count too). A statement '..UptoSaid' is the law's where the arguments, and the package variables that the reading takes, are together of bulk at most 1048576: NARROWER than '..Said'. Prove '..Said' where nothing that the law and all that it calls make is longer than what came in: it says more and counts as full. Else prove '..UptoSaid'. A law counts once. -/
mutual
def uptoBulk {H : Type} : DataW H → Nat
  | .lit (.string bytes) => bytes.length + 1
  | .lit _ => 1
  | .nil => 1
  | .ptr d => uptoBulk d + 1
  | .slice elems spare => uptoBulkAll elems + uptoBulkAll spare + 1
  | .agg parts => uptoBulkAll parts + 1
  | .iface _ d => uptoBulk d + 1
  | .map entries => uptoBulkEntries entries + 1
  | .held _ => 1
def uptoBulkAll {H : Type} : List (DataW H) → Nat
  | [] => 0
  | d :: r => uptoBulk d + uptoBulkAll r
def uptoBulkEntries {H : Type} : List (Lit × DataW H) → Nat
  | [] => 0
  | x :: r => uptoBulkEntry x + uptoBulkEntries r
def uptoBulkEntry {H : Type} : Lit × DataW H → Nat
  | (.string bytes, d) => bytes.length + uptoBulk d + 1
  | (_, d) => uptoBulk d + 1
 end
def uptoSmall : (H : Type) → List (DataW H) → Bool := fun _ ds => decide (uptoBulkAll ds ≤ 1048576)
def OpenSpec.upto (s : _root_.Go.ChangeSpec) : _root_.Go.OpenSpec := { _root_.Go.OpenSpec.ofChange s with cond := some uptoSmall }

/-- 'marginalialaw10.SchemeOf', WHERE WHAT IT READS IS OF BULK AT MOST 1048576: true; the input reads as it did. -/
def schemeOfUptoRow : OpenClaim := { program := "ythomonglhieifaa", sum := "3bef76b4140fe4ee06cb78b0a48891de571e5a1af08674043c972334798d413c", func := "marginalia/marginalialaw10.SchemeOf", spec := "schemeOf", inPlace := ["internal/abi.NoEscape", "internal/bytealg.IndexByteString", "internal/bytealg.IndexString"], named := ["internal/bytealg.MaxLen"], apart := false, narrowed := true }
def SchemeOfUptoSaid : Prop := schemeOfUptoRow.holds Try.pinned (OpenSpec.upto schemeOfSpec)

/-- 'marginalialaw10.SchemeSafe', WHERE WHAT IT READS IS OF BULK AT MOST 1048576: true; the input reads as it did. -/
def schemeSafeUptoRow : OpenClaim := { program := "ythomonglhieifaa", sum := "3bef76b4140fe4ee06cb78b0a48891de571e5a1af08674043c972334798d413c", func := "marginalia/marginalialaw10.SchemeSafe", spec := "schemeSafe", inPlace := ["internal/abi.NoEscape", "internal/bytealg.IndexByteString", "internal/bytealg.IndexString"], named := ["internal/bytealg.MaxLen"], apart := false, narrowed := true }
def SchemeSafeUptoSaid : Prop := schemeSafeUptoRow.holds Try.pinned (OpenSpec.upto schemeSafeSpec)

/-- 'marginalialaw10.SchemeHidden', WHERE WHAT IT READS IS OF BULK AT MOST 1048576: true; the input reads as it did. -/
def schemeHiddenUptoRow : OpenClaim := { program := "ythomonglhieifaa", sum := "3bef76b4140fe4ee06cb78b0a48891de571e5a1af08674043c972334798d413c", func := "marginalia/marginalialaw10.SchemeHidden", spec := "schemeHidden", inPlace := ["internal/abi.NoEscape", "internal/bytealg.IndexByteString", "internal/bytealg.IndexString"], named := ["internal/bytealg.MaxLen"], apart := false, narrowed := true }
def SchemeHiddenUptoSaid : Prop := schemeHiddenUptoRow.holds Try.pinned (OpenSpec.upto schemeHiddenSpec)

/-- 'marginalialaw10.SchemeLetters', WHERE WHAT IT READS IS OF BULK AT MOST 1048576: true; the input reads as it did. -/
def schemeLettersUptoRow : OpenClaim := { program := "ythomonglhieifaa", sum := "3bef76b4140fe4ee06cb78b0a48891de571e5a1af08674043c972334798d413c", func := "marginalia/marginalialaw10.SchemeLetters", spec := "schemeLetters", inPlace := ["internal/abi.NoEscape", "internal/bytealg.IndexByteString", "internal/bytealg.IndexString"], named := ["internal/bytealg.MaxLen"], apart := false, narrowed := true }
def SchemeLettersUptoSaid : Prop := schemeLettersUptoRow.holds Try.pinned (OpenSpec.upto schemeLettersSpec)

/-- 'marginalialaw10.SchemeGreat', WHERE WHAT IT READS IS OF BULK AT MOST 1048576: true; the input reads as it did. -/
def schemeGreatUptoRow : OpenClaim := { program := "ythomonglhieifaa", sum := "3bef76b4140fe4ee06cb78b0a48891de571e5a1af08674043c972334798d413c", func := "marginalia/marginalialaw10.SchemeGreat", spec := "schemeGreat", inPlace := ["internal/abi.NoEscape", "internal/bytealg.IndexByteString", "internal/bytealg.IndexString"], named := ["internal/bytealg.MaxLen"], apart := false, narrowed := true }
def SchemeGreatUptoSaid : Prop := schemeGreatUptoRow.holds Try.pinned (OpenSpec.upto schemeGreatSpec)

end Rows
end Go.Proofs.Ythomonglhieifaa
