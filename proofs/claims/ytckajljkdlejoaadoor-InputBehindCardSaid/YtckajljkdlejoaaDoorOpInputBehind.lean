import Derived.Test.YtckajljkdlejoaaDoorInLaws
import Derived.Test.YtckajljkdlejoaaDoorRowOpen
namespace Go.Proofs.YtckajljkdlejoaaDoor.inputBehindOp
open Go.RowKit Go.Proofs.YtckajljkdlejoaaDoor.PAll Go.Proofs.YtckajljkdlejoaaDoorW.PrintWords Go.Proofs.YtckajljkdlejoaaDoor.RowOpen
/-- The plain statement of the law marginalia/marginalialaw01.InputBehind. -/
def Plain : Prop := ∀ (a0 : ByteArray) (l1 : List Int), a0.size ≤ maxLen → (l1.length ≤ maxLen ∧ ∀ y2 ∈ l1, (Lit.int .u8 y2).wf = true) → marginalialaw01_InputBehind.f a0 l1 = some true
end Go.Proofs.YtckajljkdlejoaaDoor.inputBehindOp
