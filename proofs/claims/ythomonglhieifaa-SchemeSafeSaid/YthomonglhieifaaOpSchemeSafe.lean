import Derived.Test.YthomonglhieifaaPAllx9
import Derived.Test.YthomonglhieifaaRowOpen
namespace Go.Proofs.Ythomonglhieifaa.schemeSafeOp
open Go.RowKit Go.Proofs.Ythomonglhieifaa.PAll Go.Proofs.YthomonglhieifaaW.PrintWords Go.Proofs.Ythomonglhieifaa.RowOpen
/-- The plain statement of the law marginalia/marginalialaw10.SchemeSafe. -/
def Plain : Prop := ∀ (a0 : ByteArray) (l1 : List ByteArray), a0.size ≤ maxLen → (l1.length ≤ maxLen ∧ ∀ y2 ∈ l1, y2.size ≤ maxLen) → ∃ k, marginalialaw10_SchemeSafe.f k a0 l1 = some true
end Go.Proofs.Ythomonglhieifaa.schemeSafeOp
