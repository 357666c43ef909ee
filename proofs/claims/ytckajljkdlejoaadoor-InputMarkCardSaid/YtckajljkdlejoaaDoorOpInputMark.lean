import Derived.Test.YtckajljkdlejoaaDoorPAllx9
import Derived.Test.YtckajljkdlejoaaDoorRowOpen
namespace Go.Proofs.YtckajljkdlejoaaDoor.inputMarkOp
open Go.RowKit Go.Proofs.YtckajljkdlejoaaDoor.PAll Go.Proofs.YtckajljkdlejoaaDoorW.PrintWords Go.Proofs.YtckajljkdlejoaaDoor.RowOpen
/-- The plain statement of the law marginalia/marginalialaw01.InputMark. -/
def Plain : Prop := ∀ (l0 : List Int), (l0.length ≤ maxLen ∧ ∀ y2 ∈ l0, (Lit.int .u8 y2).wf = true) → ∃ k, marginalialaw01_InputMark.f k l0 = some true
end Go.Proofs.YtckajljkdlejoaaDoor.inputMarkOp
