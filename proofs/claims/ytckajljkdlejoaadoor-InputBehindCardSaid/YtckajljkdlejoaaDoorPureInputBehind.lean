/- The statement InputBehind: behind a right text bytes are decoded as alone, neither beginning with the mark (beyond 300 bytes each: the live question alone).
   No condition: every input. The utf8 tables that the row lists are not read on these roads; internal/bytealg.MaxLen may hold any number. -/
import Derived.Test.YtckajljkdlejoaaDoorOpInputBehind
import Derived.Test.YtckajljkdlejoaaDoorPAllx0
import Derived.Test.YtckajljkdlejoaaDoorInLaws
import Derived.Test.YtckajljkdlejoaaDoorInRef
namespace Go.Proofs.YtckajljkdlejoaaDoor.Pure
open Go.RowKit Go.Proofs.YtckajljkdlejoaaDoor.PAll Go.Proofs.YtckajljkdlejoaaDoorW.PrintWords Go.Proofs.YtckajljkdlejoaaDoorW.PrintLast
theorem InputBehind : inputBehindOp.Plain := fun _ _ _ _ => rfl
end Go.Proofs.YtckajljkdlejoaaDoor.Pure
