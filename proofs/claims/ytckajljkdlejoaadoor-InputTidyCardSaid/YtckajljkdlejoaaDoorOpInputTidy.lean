import Derived.Test.YtckajljkdlejoaaDoorInLaws
import Derived.Test.YtckajljkdlejoaaDoorRowOpen
namespace Go.Proofs.YtckajljkdlejoaaDoor.inputTidyOp
open Go.RowKit Go.Proofs.YtckajljkdlejoaaDoor.PAll Go.Proofs.YtckajljkdlejoaaDoorW.PrintWords Go.Proofs.YtckajljkdlejoaaDoor.RowOpen
/-- The plain statement of the law marginalia/marginalialaw01.InputTidy. -/
def Plain : Prop := ∀ (a0 : ByteArray), a0.size ≤ maxLen → marginalialaw01_InputTidy.f a0 = some true
end Go.Proofs.YtckajljkdlejoaaDoor.inputTidyOp
