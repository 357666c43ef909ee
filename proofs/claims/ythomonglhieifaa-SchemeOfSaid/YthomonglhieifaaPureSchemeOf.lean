/- The statement SchemeOf: what scheme any link has is as the reference says (beyond 200 bytes: the live question alone).
   No condition: every link. -/
import Derived.Test.YthomonglhieifaaPAllx0
import Derived.Test.YthomonglhieifaaPAllx9
import Derived.Test.YthomonglhieifaaSchRef
namespace Go.Proofs.Ythomonglhieifaa.Pure
open Go.RowKit Go.Proofs.Ythomonglhieifaa.PAll Go.Proofs.YthomonglhieifaaW.PrintWords Go.Proofs.YthomonglhieifaaW.PrintLast
theorem SchemeOf : marginalialaw10_SchemeOf.Pure := by
  intro a0 _
  have H : Ev (fun k => marginalialaw10_SchemeOf.f k a0) true := by
    unfold marginalialaw10_SchemeOf.f
    by_cases hs : (a0.size : Int) > 200
    · exact Ev.congr (fun _ => if_pos hs) (Ev.bind (f := fun _ t => some t) alive_ev (Ev.now _))
    · refine Ev.congr (fun _ => if_neg hs) ?_
      refine Ev.bind (of_ev a0 (by omega)) ?_
      refine Ev.bind (rof_ev a0 (by omega)) ?_
      refine Ev.bind alive_ev ?_
      exact ⟨0, fun _ _ => by simp⟩
  exact H.rounds
end Go.Proofs.Ythomonglhieifaa.Pure
