/-
  No cell of these rows narrows 'for every input' (looked for: loops, veiled, ifaces, maps, wideKeys, modest, calm, conditions, laid).
  DERIVED. THE GIVEN ROWS OF THIS SEAT. 5 by the template 'for every input the law returns true; each argument reads behind the call as it read before'; 0 by the template 'total and deterministic' (their statements: YtpgbkmmfniihbaaTotals.lean).
  GIVEN WITH THE SEED: the statements are not yours to turn. If you find one false, say at which input.
  Laid BY PROGRAM, IN A SANDBOX (cutbox-rows.mjs): the forced cells as the released guide's own fill.sh prints them over the translation 1c4393278d55d270… (all of the seat's roots in one cut). By AI agents, Wed Nov 11 2026. No macro, syntax, notation, axiom, sorry.
-/
import Derived.Test.YtpgbkmmfniihbaaChecked
import GoSem.Claim
import GoSem.ClaimJoined
import GoSem.ClaimMapViews
import Derived.JoinedTies
import Derived.KernelRfl
namespace Go.Proofs.Ytpgbkmmfniihbaa
/- THE CELL 'sum', in the pinned program and in every row, IS THE sha256 OF THE DUMP (.gsa) THAT YtpgbkmmfniihbaaProg.lean LOADS. Nothing in Lean hashes anything: it is a label: what it is worth is what the hold of that sum in a sandbox is worth. -/
noncomputable def Try.pinned : Pinned := { name := "ytpgbkmmfniihbaa", sum := "1c4393278d55d27089c235d8987e1522d06e3d9fc8d490c79574f4b4b089fb25", checked := Try.checked }
namespace Rows
def none {H : Type} : Left H := { results := [], args := [] }

/-- 'marginalialaw02.KindBytes': WHATEVER THE INPUT: true; the input reads as it did. -/
def kindBytesSpec : ChangeSpec := { name := "kindBytes", fn := fun _ => fun
  | [d] => { results := [.lit (.bool true)], args := [d] }
  | _ => none }
def kindBytesRow : OpenClaim := { program := "ytpgbkmmfniihbaa", sum := "1c4393278d55d27089c235d8987e1522d06e3d9fc8d490c79574f4b4b089fb25", func := "marginalia/marginalialaw02.KindBytes", spec := "kindBytes", apart := false }
def KindBytesSaid : Prop := kindBytesRow.holds Try.pinned (OpenSpec.ofChange kindBytesSpec)

/-- ITS FALSE NEIGHBOUR: 'it returns false'. Refute it at one input. -/
def kindBytesWrong : ChangeSpec := { name := "kindBytes", fn := fun _ => fun
  | [d] => { results := [.lit (.bool false)], args := [d] }
  | _ => none }
def KindBytesWrongFalsely : Prop := kindBytesRow.holds Try.pinned (OpenSpec.ofChange kindBytesWrong)

/-- 'marginalialaw02.KindTexts': WHATEVER THE INPUT: true; the input reads as it did. -/
def kindTextsSpec : ChangeSpec := { name := "kindTexts", fn := fun _ => fun
  | [d] => { results := [.lit (.bool true)], args := [d] }
  | _ => none }
def kindTextsRow : OpenClaim := { program := "ytpgbkmmfniihbaa", sum := "1c4393278d55d27089c235d8987e1522d06e3d9fc8d490c79574f4b4b089fb25", func := "marginalia/marginalialaw02.KindTexts", spec := "kindTexts", apart := false }
def KindTextsSaid : Prop := kindTextsRow.holds Try.pinned (OpenSpec.ofChange kindTextsSpec)

/-- ITS FALSE NEIGHBOUR: 'it returns false'. Refute it at one input. -/
def kindTextsWrong : ChangeSpec := { name := "kindTexts", fn := fun _ => fun
  | [d] => { results := [.lit (.bool false)], args := [d] }
  | _ => none }
def KindTextsWrongFalsely : Prop := kindTextsRow.holds Try.pinned (OpenSpec.ofChange kindTextsWrong)

/-- 'marginalialaw02.KindNames': WHATEVER THE INPUT: true; the input reads as it did. -/
def kindNamesSpec : ChangeSpec := { name := "kindNames", fn := fun _ => fun
  | [d1, d2] => { results := [.lit (.bool true)], args := [d1, d2] }
  | _ => none }
def kindNamesRow : OpenClaim := { program := "ytpgbkmmfniihbaa", sum := "1c4393278d55d27089c235d8987e1522d06e3d9fc8d490c79574f4b4b089fb25", func := "marginalia/marginalialaw02.KindNames", spec := "kindNames", apart := false }
def KindNamesSaid : Prop := kindNamesRow.holds Try.pinned (OpenSpec.ofChange kindNamesSpec)

/-- ITS FALSE NEIGHBOUR: 'it returns false'. Refute it at one input. -/
def kindNamesWrong : ChangeSpec := { name := "kindNames", fn := fun _ => fun
  | [d1, d2] => { results := [.lit (.bool false)], args := [d1, d2] }
  | _ => none }
def KindNamesWrongFalsely : Prop := kindNamesRow.holds Try.pinned (OpenSpec.ofChange kindNamesWrong)

/-- 'marginalialaw02.KindWithin': WHATEVER THE INPUT: true; the input reads as it did. -/
def kindWithinSpec : ChangeSpec := { name := "kindWithin", fn := fun _ => fun
  | [d] => { results := [.lit (.bool true)], args := [d] }
  | _ => none }
def kindWithinRow : OpenClaim := { program := "ytpgbkmmfniihbaa", sum := "1c4393278d55d27089c235d8987e1522d06e3d9fc8d490c79574f4b4b089fb25", func := "marginalia/marginalialaw02.KindWithin", spec := "kindWithin", apart := false }
def KindWithinSaid : Prop := kindWithinRow.holds Try.pinned (OpenSpec.ofChange kindWithinSpec)

/-- ITS FALSE NEIGHBOUR: 'it returns false'. Refute it at one input. -/
def kindWithinWrong : ChangeSpec := { name := "kindWithin", fn := fun _ => fun
  | [d] => { results := [.lit (.bool false)], args := [d] }
  | _ => none }
def KindWithinWrongFalsely : Prop := kindWithinRow.holds Try.pinned (OpenSpec.ofChange kindWithinWrong)

/-- 'marginalialaw02.KindSmall': WHATEVER THE INPUT: true; the input reads as it did. -/
def kindSmallSpec : ChangeSpec := { name := "kindSmall", fn := fun _ => fun
  | [d1, d2, d3] => { results := [.lit (.bool true)], args := [d1, d2, d3] }
  | _ => none }
def kindSmallRow : OpenClaim := { program := "ytpgbkmmfniihbaa", sum := "1c4393278d55d27089c235d8987e1522d06e3d9fc8d490c79574f4b4b089fb25", func := "marginalia/marginalialaw02.KindSmall", spec := "kindSmall", apart := false }
def KindSmallSaid : Prop := kindSmallRow.holds Try.pinned (OpenSpec.ofChange kindSmallSpec)

/-- ITS FALSE NEIGHBOUR: 'it returns false'. Refute it at one input. -/
def kindSmallWrong : ChangeSpec := { name := "kindSmall", fn := fun _ => fun
  | [d1, d2, d3] => { results := [.lit (.bool false)], args := [d1, d2, d3] }
  | _ => none }
def KindSmallWrongFalsely : Prop := kindSmallRow.holds Try.pinned (OpenSpec.ofChange kindSmallWrong)

/- THE SECOND FORM. 'bulk': how many values and letters a reading holds, each counted each time it is reached (what is shared counts as often as it is met; a slice's spare places count too). A statement '..UptoSaid' is the law's where the arguments, and the package variables that the reading takes, are together of bulk at most 1048576: NARROWER than '..Said'. Prove '..Said' where nothing that the law and all that it calls make is longer than what came in: it says more and counts as full. Else prove '..UptoSaid'. A law counts once. -/
mutual
def uptoBulk {H : Type} : DataW H → Nat
  | .lit (.string bytes) => bytes.length + 1
  | .lit _ => 1
  | .nil => 1
  | .ptr d => uptoBulk d + 1
  | .slice elems spare => uptoBulkAll elems + uptoBulkAll spare + 1
  | .agg parts => uptoBulkAll parts + 1
  | .iface _ d => uptoBulk d + 1
  | .map entries => uptoBulkEntries entries + 1
  | .held _ => 1
def uptoBulkAll {H : Type} : List (DataW H) → Nat
  | [] => 0
  | d :: r => uptoBulk d + uptoBulkAll r
def uptoBulkEntries {H : Type} : List (Lit × DataW H) → Nat
  | [] => 0
  | x :: r => uptoBulkEntry x + uptoBulkEntries r
def uptoBulkEntry {H : Type} : Lit × DataW H → Nat
  | (.string bytes, d) => bytes.length + uptoBulk d + 1
  | (_, d) => uptoBulk d + 1
 end
def uptoSmall : (H : Type) → List (DataW H) → Bool := fun _ ds => decide (uptoBulkAll ds ≤ 1048576)
def OpenSpec.upto (s : _root_.Go.ChangeSpec) : _root_.Go.OpenSpec := { _root_.Go.OpenSpec.ofChange s with cond := some uptoSmall }

/-- 'marginalialaw02.KindBytes', WHERE WHAT IT READS IS OF BULK AT MOST 1048576: true; the input reads as it did. -/
def kindBytesUptoRow : OpenClaim := { program := "ytpgbkmmfniihbaa", sum := "1c4393278d55d27089c235d8987e1522d06e3d9fc8d490c79574f4b4b089fb25", func := "marginalia/marginalialaw02.KindBytes", spec := "kindBytes", apart := false, narrowed := true }
def KindBytesUptoSaid : Prop := kindBytesUptoRow.holds Try.pinned (OpenSpec.upto kindBytesSpec)

/-- 'marginalialaw02.KindTexts', WHERE WHAT IT READS IS OF BULK AT MOST 1048576: true; the input reads as it did. -/
def kindTextsUptoRow : OpenClaim := { program := "ytpgbkmmfniihbaa", sum := "1c4393278d55d27089c235d8987e1522d06e3d9fc8d490c79574f4b4b089fb25", func := "marginalia/marginalialaw02.KindTexts", spec := "kindTexts", apart := false, narrowed := true }
def KindTextsUptoSaid : Prop := kindTextsUptoRow.holds Try.pinned (OpenSpec.upto kindTextsSpec)

/-- 'marginalialaw02.KindNames', WHERE WHAT IT READS IS OF BULK AT MOST 1048576: true; the input reads as it did. -/
def kindNamesUptoRow : OpenClaim := { program := "ytpgbkmmfniihbaa", sum := "1c4393278d55d27089c235d8987e1522d06e3d9fc8d490c79574f4b4b089fb25", func := "marginalia/marginalialaw02.KindNames", spec := "kindNames", apart := false, narrowed := true }
def KindNamesUptoSaid : Prop := kindNamesUptoRow.holds Try.pinned (OpenSpec.upto kindNamesSpec)

/-- 'marginalialaw02.KindWithin', WHERE WHAT IT READS IS OF BULK AT MOST 1048576: true; the input reads as it did. -/
def kindWithinUptoRow : OpenClaim := { program := "ytpgbkmmfniihbaa", sum := "1c4393278d55d27089c235d8987e1522d06e3d9fc8d490c79574f4b4b089fb25", func := "marginalia/marginalialaw02.KindWithin", spec := "kindWithin", apart := false, narrowed := true }
def KindWithinUptoSaid : Prop := kindWithinUptoRow.holds Try.pinned (OpenSpec.upto kindWithinSpec)

/-- 'marginalialaw02.KindSmall', WHERE WHAT IT READS IS OF BULK AT MOST 1048576: true; the input reads as it did. -/
def kindSmallUptoRow : OpenClaim := { program := "ytpgbkmmfniihbaa", sum := "1c4393278d55d27089c235d8987e1522d06e3d9fc8d490c79574f4b4b089fb25", func := "marginalia/marginalialaw02.KindSmall", spec := "kindSmall", apart := false, narrowed := true }
def KindSmallUptoSaid : Prop := kindSmallUptoRow.holds Try.pinned (OpenSpec.upto kindSmallSpec)

end Rows
end Go.Proofs.Ytpgbkmmfniihbaa
