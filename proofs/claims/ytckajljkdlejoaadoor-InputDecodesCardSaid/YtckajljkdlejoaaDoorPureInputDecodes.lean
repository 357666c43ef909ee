/- The statement InputDecodes: any bytes are decoded as the reference says, and stay (beyond 300 bytes: the live question alone).
   No condition: every input. The utf8 tables that the row lists are not read on these roads; internal/bytealg.MaxLen may hold any number. -/
import Derived.Test.YtckajljkdlejoaaDoorOpInputDecodes
import Derived.Test.YtckajljkdlejoaaDoorPAllx0
import Derived.Test.YtckajljkdlejoaaDoorPAllx2
import Derived.Test.YtckajljkdlejoaaDoorPAllx5
import Derived.Test.YtckajljkdlejoaaDoorPAllx7
import Derived.Test.YtckajljkdlejoaaDoorInLaws
import Derived.Test.YtckajljkdlejoaaDoorInRef
namespace Go.Proofs.YtckajljkdlejoaaDoor.Pure
open Go.RowKit Go.Proofs.YtckajljkdlejoaaDoor.PAll Go.Proofs.YtckajljkdlejoaaDoorW.PrintWords Go.Proofs.YtckajljkdlejoaaDoorW.PrintLast
theorem InputDecodes : inputDecodesOp.Plain := by
  intro l0 _
  have H : Ev (fun k => marginalialaw01_InputDecodes.f k l0) true := by
    unfold marginalialaw01_InputDecodes.f marginalialaw01_alive.f
    by_cases hs : (l0.length : Int) > 300
    · exact Ev.congr (fun _ => if_pos hs) (Ev.now _)
    · refine Ev.congr (fun _ => if_neg hs) ?_
      have hz := strOf_size l0
      simp only [Option.bind_some, List.nil_append, List.length_nil, Nat.zero_add]
      refine Ev.congr (fun _ => if_pos (by omega)) ?_
      have v : input_Decode.f l0 = some ⟨(inDecode (strOfNums l0).data.toList).toArray⟩ := by unfold input_Decode.f; rw [if_pos (by omega)]
      rw [v]
      simp only [Option.bind_some]
      refine Ev.congr (fun _ => if_pos trivial) ?_
      refine Ev.bind (rdec_ev (strOfNums l0) (by omega)) ?_
      exact Ev.congr (fun _ => if_pos rfl) ⟨0, fun _ _ => by simp⟩
  exact H.rounds
end Go.Proofs.YtckajljkdlejoaaDoor.Pure
