/- The statement SchemeSafe: whether any link has no other scheme than those of a list is as the reference says (beyond 200 bytes or 40 schemes: the live question alone).
   No condition: every link, every list. -/
import Derived.Test.YthomonglhieifaaOpSchemeSafe
import Derived.Test.YthomonglhieifaaPAllx0
import Derived.Test.YthomonglhieifaaPAllx6
import Derived.Test.YthomonglhieifaaPAllx7
import Derived.Test.YthomonglhieifaaPAllx9
import Derived.Test.YthomonglhieifaaSchRef
namespace Go.Proofs.Ythomonglhieifaa.Pure
open Go.RowKit Go.Proofs.Ythomonglhieifaa.PAll Go.Proofs.YthomonglhieifaaW.PrintWords Go.Proofs.YthomonglhieifaaW.PrintLast
theorem SchemeSafe : schemeSafeOp.Plain := by
  intro a0 l1 _ _
  have H : Ev (fun k => marginalialaw10_SchemeSafe.f k a0 l1) true := by
    unfold marginalialaw10_SchemeSafe.f
    have hp : Ev (fun k => marginalialaw10_SchemeSafe.j0 k a0 l1 true) true := by
      refine Ev.step (f := fun k => (marginalialaw10_alive.f k).bind fun t => some t) (fun k => ?_) (Ev.bind (f := fun _ t => some t) alive_ev (Ev.now _))
      simp only [marginalialaw10_SchemeSafe.j0]
      rw [if_pos trivial]
    by_cases hs : (a0.size : Int) > 200
    · exact Ev.congr (fun _ => if_pos hs) hp
    · refine Ev.congr (fun _ => if_neg hs) ?_
      by_cases hl : (l1.length : Int) > 40
      · rw [decide_eq_true hl]; exact hp
      · rw [decide_eq_false hl]
        refine Ev.step (f := fun k => (marginalialaw10_alive.f k).bind fun t146 => (if t146 = true then ((scheme_Safe.f k a0 l1).bind fun t147 => ((marginaliaref10_Safe.f k a0 l1).bind fun t148 => (some (t147 == t148)))) else (some false))) (fun k => ?_) ?_
        · simp only [marginalialaw10_SchemeSafe.j0]
          rw [if_neg (by simp)]
        · refine Ev.bind alive_ev ?_
          refine Ev.congr (fun _ => if_pos rfl) ?_
          refine Ev.bind (safe_ev a0 l1 (by omega) (by omega)) ?_
          refine Ev.bind (rsafe_ev a0 l1 (by omega) (by omega)) ?_
          exact ⟨0, fun _ _ => by simp⟩
  exact H.rounds
end Go.Proofs.Ythomonglhieifaa.Pure
