import Derived.Test.YthomonglhieifaaPAllx10
import Derived.Test.YthomonglhieifaaRowOpen
namespace Go.Proofs.Ythomonglhieifaa.schemeHiddenOp
open Go.RowKit Go.Proofs.Ythomonglhieifaa.PAll Go.Proofs.YthomonglhieifaaW.PrintWords Go.Proofs.Ythomonglhieifaa.RowOpen
/-- The plain statement of the law marginalia/marginalialaw10.SchemeHidden. -/
def Plain : Prop := ∀ (a0 : ByteArray) (a1 : Int) (a2 : Int), a0.size ≤ maxLen → (Lit.int .i64 a1).wf = true → (Lit.int .u8 a2).wf = true → ∃ k, marginalialaw10_SchemeHidden.f k a0 a1 a2 = some true
end Go.Proofs.Ythomonglhieifaa.schemeHiddenOp
