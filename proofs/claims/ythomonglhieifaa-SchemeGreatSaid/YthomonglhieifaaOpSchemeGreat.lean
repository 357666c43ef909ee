import Derived.Test.YthomonglhieifaaPAllx12
import Derived.Test.YthomonglhieifaaRowOpen
namespace Go.Proofs.Ythomonglhieifaa.schemeGreatOp
open Go.RowKit Go.Proofs.Ythomonglhieifaa.PAll Go.Proofs.YthomonglhieifaaW.PrintWords Go.Proofs.Ythomonglhieifaa.RowOpen
/-- The plain statement of the law marginalia/marginalialaw10.SchemeGreat. -/
def Plain : Prop := ∀ (a0 : ByteArray), a0.size ≤ maxLen → ∃ k, marginalialaw10_SchemeGreat.f k a0 = some true
end Go.Proofs.Ythomonglhieifaa.schemeGreatOp
