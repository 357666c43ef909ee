/- The statement InputCounts: whether any text is right, and how many pieces it has, is as the reference says (beyond 300 bytes: the live question alone).
   No condition: every input. The utf8 tables that the row lists are not read on these roads; internal/bytealg.MaxLen may hold any number. -/
import Derived.Test.YtckajljkdlejoaaDoorOpInputCounts
import Derived.Test.YtckajljkdlejoaaDoorPAllx0
import Derived.Test.YtckajljkdlejoaaDoorPAllx10
import Derived.Test.YtckajljkdlejoaaDoorPAllx11
import Derived.Test.YtckajljkdlejoaaDoorPAllx5
import Derived.Test.YtckajljkdlejoaaDoorInLaws
import Derived.Test.YtckajljkdlejoaaDoorInRef
namespace Go.Proofs.YtckajljkdlejoaaDoor.Pure
open Go.RowKit Go.Proofs.YtckajljkdlejoaaDoor.PAll Go.Proofs.YtckajljkdlejoaaDoorW.PrintWords Go.Proofs.YtckajljkdlejoaaDoorW.PrintLast
theorem InputCounts : inputCountsOp.Plain := by
  intro a0 _
  have H : Ev (fun k => marginalialaw01_InputCounts.f k a0) true := by
    unfold marginalialaw01_InputCounts.f marginalialaw01_alive.f
    by_cases hs : (a0.size : Int) > 300
    · exact Ev.congr (fun _ => if_pos hs) (Ev.now _)
    · refine Ev.congr (fun _ => if_neg hs) ?_
      simp only [Option.bind_some]
      refine Ev.congr (fun _ => if_pos trivial) ?_
      have v : input_Valid.f a0 = some (inVal a0.data.toList) := by unfold input_Valid.f; rw [if_pos (by omega)]
      rw [v]
      simp only [Option.bind_some]
      refine Ev.bind (rval_l0 a0 (by omega) a0.size 0 (by omega) (by omega)) ?_
      refine Ev.congr (fun _ => if_pos (by simp)) ?_
      refine Ev.bind (cnt_ev a0 (by omega)) ?_
      have h := rcnt_l0 a0 (by omega) a0.size 0 0 (by omega) (by omega) (by omega)
      rw [Nat.zero_add, List.drop_zero] at h
      refine Ev.bind h ?_
      exact ⟨0, fun _ _ => by simp⟩
  exact H.rounds
end Go.Proofs.YtckajljkdlejoaaDoor.Pure
