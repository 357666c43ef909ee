import Derived.Test.YtckajljkdlejoaaDoorInLaws
import Derived.Test.YtckajljkdlejoaaDoorRowOpen
namespace Go.Proofs.YtckajljkdlejoaaDoor.inputRightOp
open Go.RowKit Go.Proofs.YtckajljkdlejoaaDoor.PAll Go.Proofs.YtckajljkdlejoaaDoorW.PrintWords Go.Proofs.YtckajljkdlejoaaDoor.RowOpen
/-- The plain statement of the law marginalia/marginalialaw01.InputRight. -/
def Plain : Prop := ∀ (a0 : ByteArray), a0.size ≤ maxLen → ∃ k, marginalialaw01_InputRight.f k a0 = some true
end Go.Proofs.YtckajljkdlejoaaDoor.inputRightOp
