/- The statement OpensKinds: whether any element is an integration point, or special, or any scope ends at it, is as the reference says. No condition: every element, every scope. -/
import Derived.Test.YtobdmbebgdkelaaOpOpensKinds
import Derived.Test.YtobdmbebgdkelaaPAllx0
import Derived.Test.YtobdmbebgdkelaaPAllx14
import Derived.Test.YtobdmbebgdkelaaPAllx15
import Derived.Test.YtobdmbebgdkelaaOpSpec
namespace Go.Proofs.Ytobdmbebgdkelaa.Pure
open Go.RowKit Go.Proofs.Ytobdmbebgdkelaa.PAll Go.Proofs.YtobdmbebgdkelaaW.PrintWords Go.Proofs.YtobdmbebgdkelaaW.PrintLast
theorem special6_ev (i sp : Int) (s : ByteArray) : Ev (fun k => opens_Special.f k i sp s) (if sp = 0 then inK 4 s || pointB sp s.data.toList else pointB sp s.data.toList) := by
  unfold opens_Special.f
  by_cases h : sp = 0
  · rw [if_pos h]
    refine Ev.congr (fun _ => if_pos h) ?_
    exact Ev.or (is_ev 4 s) (Ev.pass ⟨0, fun _ _ => point_is i sp s⟩)
  · rw [if_neg h]
    refine Ev.congr (fun _ => if_neg h) ?_
    exact Ev.pass ⟨0, fun _ _ => point_is i sp s⟩
theorem refSpecial6_ev (i sp : Int) (s : ByteArray) : Ev (fun k => marginaliaref06_Special.f k i sp s) (if sp = 0 then inK 4 s || pointB sp s.data.toList else pointB sp s.data.toList) := by
  unfold marginaliaref06_Special.f
  by_cases h : sp = 0
  · rw [if_pos h]
    refine Ev.congr (fun _ => if_pos h) ?_
    exact Ev.or (refIs_ev 4 s) (Ev.pass (refPoint_ev i sp s))
  · rw [if_neg h]
    refine Ev.congr (fun _ => if_neg h) ?_
    exact Ev.pass (refPoint_ev i sp s)
theorem OpensKinds : opensKindsOp.Plain := by
  intro x0 a1 _ _
  have H : Ev (fun k => marginalialaw06_OpensKinds.f k x0.f0 x0.f1 x0.f2 a1) true := by
    unfold marginalialaw06_OpensKinds.f
    refine Ev.bind oalive_ev ?_
    refine Ev.congr (fun _ => if_pos rfl) ?_
    refine Ev.bind (ends_ev x0.f0 x0.f1 x0.f2 a1) ?_
    refine Ev.bind (refEnds_ev x0.f0 x0.f1 x0.f2 a1) ?_
    refine Ev.congr (fun _ => if_pos (by simp)) ?_
    refine Ev.bind ⟨0, fun _ _ => point_is x0.f0 x0.f1 x0.f2⟩ ?_
    refine Ev.bind (refPoint_ev x0.f0 x0.f1 x0.f2) ?_
    refine Ev.congr (fun _ => if_pos (by simp)) ?_
    refine Ev.bind (special6_ev x0.f0 x0.f1 x0.f2) ?_
    refine Ev.bind (refSpecial6_ev x0.f0 x0.f1 x0.f2) ?_
    exact ⟨0, fun _ _ => by simp⟩
  exact H.rounds
end Go.Proofs.Ytobdmbebgdkelaa.Pure
