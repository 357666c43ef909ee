/- The statement InputLines: any text's lines, and any bytes as a text of lines, are as the reference says (beyond 300 bytes: the live question alone).
   No condition: every input. The utf8 tables that the row lists are not read on these roads; internal/bytealg.MaxLen may hold any number. -/
import Derived.Test.YtckajljkdlejoaaDoorOpInputLines
import Derived.Test.YtckajljkdlejoaaDoorPAllx0
import Derived.Test.YtckajljkdlejoaaDoorInLaws
import Derived.Test.YtckajljkdlejoaaDoorInRef
namespace Go.Proofs.YtckajljkdlejoaaDoor.Pure
open Go.RowKit Go.Proofs.YtckajljkdlejoaaDoor.PAll Go.Proofs.YtckajljkdlejoaaDoorW.PrintWords Go.Proofs.YtckajljkdlejoaaDoorW.PrintLast
theorem InputLines : inputLinesOp.Plain := by
  intro a0 _
  have H : Ev (fun k => marginalialaw01_InputLines.f k a0) true := by
    unfold marginalialaw01_InputLines.f
    by_cases hs : a0.size > 300
    · exact Ev.congr (fun _ => if_pos hs) (Ev.now _)
    · refine Ev.congr (fun _ => if_neg hs) ?_
      refine Ev.bind (rlines_ev a0 (by omega)) ?_
      refine Ev.bind (rtext_ev a0 (by omega)) ?_
      exact Ev.congr (fun _ => if_pos ⟨rfl, rfl⟩) (Ev.now _)
  exact H.rounds
end Go.Proofs.YtckajljkdlejoaaDoor.Pure
