/-
  No cell of these rows narrows 'for every input' (looked for: loops, veiled, ifaces, maps, wideKeys, modest, calm, conditions, laid).
  DERIVED. THE GIVEN ROWS OF THIS SEAT. 6 by the template 'for every input the law returns true; each argument reads behind the call as it read before'; 0 by the template 'total and deterministic' (their statements: YtobdmbebgdkelaaTotals.lean).
  GIVEN WITH THE SEED: the statements are not yours to turn. If you find one false, say at which input.
  Laid BY PROGRAM, IN A SANDBOX (cutbox-rows.mjs): the forced cells as the released guide's own fill.sh prints them over the translation 18ce4b738abb8a0b… (all of the seat's roots in one cut). By AI agents, Wed Nov 11 2026. No macro, syntax, notation, axiom, sorry.
-/
import Derived.Test.YtobdmbebgdkelaaChecked
import GoSem.Claim
import GoSem.ClaimJoined
import GoSem.ClaimMapViews
import Derived.JoinedTies
import Derived.KernelRfl
namespace Go.Proofs.Ytobdmbebgdkelaa
/- THE CELL 'sum', in the pinned program and in every row, IS THE sha256 OF THE DUMP (.gsa) THAT YtobdmbebgdkelaaProg.lean LOADS. Nothing in Lean hashes anything: it is a label: what it is worth is what the hold of that sum in a sandbox is worth. -/
noncomputable def Try.pinned : Pinned := { name := "ytobdmbebgdkelaa", sum := "18ce4b738abb8a0bbe3f9709b4e276b06e56488d70852330e856a3af14f08b7b", checked := Try.checked }
namespace Rows
def none {H : Type} : Left H := { results := [], args := [] }

/-- 'marginalialaw06.OpensHas': WHATEVER THE INPUT: true; the input reads as it did. -/
def opensHasSpec : ChangeSpec := { name := "opensHas", fn := fun _ => fun
  | [d1, d2, d3] => { results := [.lit (.bool true)], args := [d1, d2, d3] }
  | _ => none }
def opensHasRow : OpenClaim := { program := "ytobdmbebgdkelaa", sum := "18ce4b738abb8a0bbe3f9709b4e276b06e56488d70852330e856a3af14f08b7b", func := "marginalia/marginalialaw06.OpensHas", spec := "opensHas", unfollowed := true, recurses := true, apart := false }
def OpensHasSaid : Prop := opensHasRow.holds Try.pinned (OpenSpec.ofChange opensHasSpec)

/-- ITS FALSE NEIGHBOUR: 'it returns false'. Refute it at one input. -/
def opensHasWrong : ChangeSpec := { name := "opensHas", fn := fun _ => fun
  | [d1, d2, d3] => { results := [.lit (.bool false)], args := [d1, d2, d3] }
  | _ => none }
def OpensHasWrongFalsely : Prop := opensHasRow.holds Try.pinned (OpenSpec.ofChange opensHasWrong)

/-- 'marginalialaw06.OpensCut': WHATEVER THE INPUT: true; the input reads as it did. -/
def opensCutSpec : ChangeSpec := { name := "opensCut", fn := fun _ => fun
  | [d1, d2, d3] => { results := [.lit (.bool true)], args := [d1, d2, d3] }
  | _ => none }
def opensCutRow : OpenClaim := { program := "ytobdmbebgdkelaa", sum := "18ce4b738abb8a0bbe3f9709b4e276b06e56488d70852330e856a3af14f08b7b", func := "marginalia/marginalialaw06.OpensCut", spec := "opensCut", unfollowed := true, recurses := true, apart := false }
def OpensCutSaid : Prop := opensCutRow.holds Try.pinned (OpenSpec.ofChange opensCutSpec)

/-- ITS FALSE NEIGHBOUR: 'it returns false'. Refute it at one input. -/
def opensCutWrong : ChangeSpec := { name := "opensCut", fn := fun _ => fun
  | [d1, d2, d3] => { results := [.lit (.bool false)], args := [d1, d2, d3] }
  | _ => none }
def OpensCutWrongFalsely : Prop := opensCutRow.holds Try.pinned (OpenSpec.ofChange opensCutWrong)

/-- 'marginalialaw06.OpensWider': WHATEVER THE INPUT: true; the input reads as it did. -/
def opensWiderSpec : ChangeSpec := { name := "opensWider", fn := fun _ => fun
  | [d1, d2] => { results := [.lit (.bool true)], args := [d1, d2] }
  | _ => none }
def opensWiderRow : OpenClaim := { program := "ytobdmbebgdkelaa", sum := "18ce4b738abb8a0bbe3f9709b4e276b06e56488d70852330e856a3af14f08b7b", func := "marginalia/marginalialaw06.OpensWider", spec := "opensWider", unfollowed := true, recurses := true, apart := false }
def OpensWiderSaid : Prop := opensWiderRow.holds Try.pinned (OpenSpec.ofChange opensWiderSpec)

/-- ITS FALSE NEIGHBOUR: 'it returns false'. Refute it at one input. -/
def opensWiderWrong : ChangeSpec := { name := "opensWider", fn := fun _ => fun
  | [d1, d2] => { results := [.lit (.bool false)], args := [d1, d2] }
  | _ => none }
def OpensWiderWrongFalsely : Prop := opensWiderRow.holds Try.pinned (OpenSpec.ofChange opensWiderWrong)

/-- 'marginalialaw06.OpensLeft': WHATEVER THE INPUT: true; the input reads as it did. -/
def opensLeftSpec : ChangeSpec := { name := "opensLeft", fn := fun _ => fun
  | [d1, d2, d3] => { results := [.lit (.bool true)], args := [d1, d2, d3] }
  | _ => none }
def opensLeftRow : OpenClaim := { program := "ytobdmbebgdkelaa", sum := "18ce4b738abb8a0bbe3f9709b4e276b06e56488d70852330e856a3af14f08b7b", func := "marginalia/marginalialaw06.OpensLeft", spec := "opensLeft", unfollowed := true, recurses := true, apart := false }
def OpensLeftSaid : Prop := opensLeftRow.holds Try.pinned (OpenSpec.ofChange opensLeftSpec)

/-- ITS FALSE NEIGHBOUR: 'it returns false'. Refute it at one input. -/
def opensLeftWrong : ChangeSpec := { name := "opensLeft", fn := fun _ => fun
  | [d1, d2, d3] => { results := [.lit (.bool false)], args := [d1, d2, d3] }
  | _ => none }
def OpensLeftWrongFalsely : Prop := opensLeftRow.holds Try.pinned (OpenSpec.ofChange opensLeftWrong)

/-- 'marginalialaw06.OpensFound': WHATEVER THE INPUT: true; the input reads as it did. -/
def opensFoundSpec : ChangeSpec := { name := "opensFound", fn := fun _ => fun
  | [d1, d2] => { results := [.lit (.bool true)], args := [d1, d2] }
  | _ => none }
def opensFoundRow : OpenClaim := { program := "ytobdmbebgdkelaa", sum := "18ce4b738abb8a0bbe3f9709b4e276b06e56488d70852330e856a3af14f08b7b", func := "marginalia/marginalialaw06.OpensFound", spec := "opensFound", unfollowed := true, recurses := true, apart := false }
def OpensFoundSaid : Prop := opensFoundRow.holds Try.pinned (OpenSpec.ofChange opensFoundSpec)

/-- ITS FALSE NEIGHBOUR: 'it returns false'. Refute it at one input. -/
def opensFoundWrong : ChangeSpec := { name := "opensFound", fn := fun _ => fun
  | [d1, d2] => { results := [.lit (.bool false)], args := [d1, d2] }
  | _ => none }
def OpensFoundWrongFalsely : Prop := opensFoundRow.holds Try.pinned (OpenSpec.ofChange opensFoundWrong)

/-- 'marginalialaw06.OpensKinds': WHATEVER THE INPUT: true; the input reads as it did. -/
def opensKindsSpec : ChangeSpec := { name := "opensKinds", fn := fun _ => fun
  | [d1, d2] => { results := [.lit (.bool true)], args := [d1, d2] }
  | _ => none }
def opensKindsRow : OpenClaim := { program := "ytobdmbebgdkelaa", sum := "18ce4b738abb8a0bbe3f9709b4e276b06e56488d70852330e856a3af14f08b7b", func := "marginalia/marginalialaw06.OpensKinds", spec := "opensKinds", unfollowed := true, recurses := true, apart := false }
def OpensKindsSaid : Prop := opensKindsRow.holds Try.pinned (OpenSpec.ofChange opensKindsSpec)

/-- ITS FALSE NEIGHBOUR: 'it returns false'. Refute it at one input. -/
def opensKindsWrong : ChangeSpec := { name := "opensKinds", fn := fun _ => fun
  | [d1, d2] => { results := [.lit (.bool false)], args := [d1, d2] }
  | _ => none }
def OpensKindsWrongFalsely : Prop := opensKindsRow.holds Try.pinned (OpenSpec.ofChange opensKindsWrong)

/- THE SECOND FORM. 'bulk': how many values and letters a reading holds, each counted each time it is reached (what is shared counts as often as it is met; a slice's spare places count too). A statement '..UptoSaid' is the law's where the arguments, and the package variables that the reading takes, are together of bulk at most 1048576: NARROWER than '..Said'. Prove '..Said' where nothing that the law and all that it calls make is longer than what came in: it says more and counts as full. Else prove '..UptoSaid'. A law counts once. -/
mutual
def uptoBulk {H : Type} : DataW H → Nat
  | .lit (.string bytes) => bytes.length + 1
  | .lit _ => 1
  | .nil => 1
  | .ptr d => uptoBulk d + 1
  | .slice elems spare => uptoBulkAll elems + uptoBulkAll spare + 1
  | .agg parts => uptoBulkAll parts + 1
  | .iface _ d => uptoBulk d + 1
  | .map entries => uptoBulkEntries entries + 1
  | .held _ => 1
def uptoBulkAll {H : Type} : List (DataW H) → Nat
  | [] => 0
  | d :: r => uptoBulk d + uptoBulkAll r
def uptoBulkEntries {H : Type} : List (Lit × DataW H) → Nat
  | [] => 0
  | x :: r => uptoBulkEntry x + uptoBulkEntries r
def uptoBulkEntry {H : Type} : Lit × DataW H → Nat
  | (.string bytes, d) => bytes.length + uptoBulk d + 1
  | (_, d) => uptoBulk d + 1
 end
def uptoSmall : (H : Type) → List (DataW H) → Bool := fun _ ds => decide (uptoBulkAll ds ≤ 1048576)
def OpenSpec.upto (s : _root_.Go.ChangeSpec) : _root_.Go.OpenSpec := { _root_.Go.OpenSpec.ofChange s with cond := some uptoSmall }

/-- 'marginalialaw06.OpensHas', WHERE WHAT IT READS IS OF BULK AT MOST 1048576: true; the input reads as it did. -/
def opensHasUptoRow : OpenClaim := { program := "ytobdmbebgdkelaa", sum := "18ce4b738abb8a0bbe3f9709b4e276b06e56488d70852330e856a3af14f08b7b", func := "marginalia/marginalialaw06.OpensHas", spec := "opensHas", unfollowed := true, recurses := true, apart := false, narrowed := true }
def OpensHasUptoSaid : Prop := opensHasUptoRow.holds Try.pinned (OpenSpec.upto opensHasSpec)

/-- 'marginalialaw06.OpensCut', WHERE WHAT IT READS IS OF BULK AT MOST 1048576: true; the input reads as it did. -/
def opensCutUptoRow : OpenClaim := { program := "ytobdmbebgdkelaa", sum := "18ce4b738abb8a0bbe3f9709b4e276b06e56488d70852330e856a3af14f08b7b", func := "marginalia/marginalialaw06.OpensCut", spec := "opensCut", unfollowed := true, recurses := true, apart := false, narrowed := true }
def OpensCutUptoSaid : Prop := opensCutUptoRow.holds Try.pinned (OpenSpec.upto opensCutSpec)

/-- 'marginalialaw06.OpensWider', WHERE WHAT IT READS IS OF BULK AT MOST 1048576: true; the input reads as it did. -/
def opensWiderUptoRow : OpenClaim := { program := "ytobdmbebgdkelaa", sum := "18ce4b738abb8a0bbe3f9709b4e276b06e56488d70852330e856a3af14f08b7b", func := "marginalia/marginalialaw06.OpensWider", spec := "opensWider", unfollowed := true, recurses := true, apart := false, narrowed := true }
def OpensWiderUptoSaid : Prop := opensWiderUptoRow.holds Try.pinned (OpenSpec.upto opensWiderSpec)

/-- 'marginalialaw06.OpensLeft', WHERE WHAT IT READS IS OF BULK AT MOST 1048576: true; the input reads as it did. -/
def opensLeftUptoRow : OpenClaim := { program := "ytobdmbebgdkelaa", sum := "18ce4b738abb8a0bbe3f9709b4e276b06e56488d70852330e856a3af14f08b7b", func := "marginalia/marginalialaw06.OpensLeft", spec := "opensLeft", unfollowed := true, recurses := true, apart := false, narrowed := true }
def OpensLeftUptoSaid : Prop := opensLeftUptoRow.holds Try.pinned (OpenSpec.upto opensLeftSpec)

/-- 'marginalialaw06.OpensFound', WHERE WHAT IT READS IS OF BULK AT MOST 1048576: true; the input reads as it did. -/
def opensFoundUptoRow : OpenClaim := { program := "ytobdmbebgdkelaa", sum := "18ce4b738abb8a0bbe3f9709b4e276b06e56488d70852330e856a3af14f08b7b", func := "marginalia/marginalialaw06.OpensFound", spec := "opensFound", unfollowed := true, recurses := true, apart := false, narrowed := true }
def OpensFoundUptoSaid : Prop := opensFoundUptoRow.holds Try.pinned (OpenSpec.upto opensFoundSpec)

/-- 'marginalialaw06.OpensKinds', WHERE WHAT IT READS IS OF BULK AT MOST 1048576: true; the input reads as it did. -/
def opensKindsUptoRow : OpenClaim := { program := "ytobdmbebgdkelaa", sum := "18ce4b738abb8a0bbe3f9709b4e276b06e56488d70852330e856a3af14f08b7b", func := "marginalia/marginalialaw06.OpensKinds", spec := "opensKinds", unfollowed := true, recurses := true, apart := false, narrowed := true }
def OpensKindsUptoSaid : Prop := opensKindsUptoRow.holds Try.pinned (OpenSpec.upto opensKindsSpec)

end Rows
end Go.Proofs.Ytobdmbebgdkelaa
