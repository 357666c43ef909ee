/- The statement OpensHas: whether one of any names is in any scope of any list is as the reference says (more than 60 elements or names: the live question alone).
   No condition: every list, every names, every scope. -/
import Derived.Test.YtobdmbebgdkelaaOpOpensHas
import Derived.Test.YtobdmbebgdkelaaPAllx0
import Derived.Test.YtobdmbebgdkelaaPAllx10
import Derived.Test.YtobdmbebgdkelaaOpSpec
namespace Go.Proofs.Ytobdmbebgdkelaa.Pure
open Go.RowKit Go.Proofs.Ytobdmbebgdkelaa.PAll Go.Proofs.YtobdmbebgdkelaaW.PrintWords Go.Proofs.YtobdmbebgdkelaaW.PrintLast
theorem OpensHas : opensHasOp.Plain := by
  intro l0 l1 a2 _ _ _
  have H : Ev (fun k => marginalialaw06_OpensHas.f k l0 l1 a2) true := by
    unfold marginalialaw06_OpensHas.f
    refine small_or fun h1 h2 => ?_
    refine Ev.bind oalive_ev ?_
    refine Ev.congr (fun _ => if_pos rfl) ?_
    refine Ev.bind (has_ev l0 (by omega) l1 (by omega) a2) ?_
    refine Ev.bind (refHas_ev l0 (by omega) l1 (by omega) a2) ?_
    exact ⟨0, fun _ _ => by simp⟩
  exact H.rounds
end Go.Proofs.Ytobdmbebgdkelaa.Pure
