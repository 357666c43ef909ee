/- The statement OpensWider: what is in a list's or a button's scope is in the whole one; what is found in any scope Cut finds (more than 60 elements or names: the live question alone).
   No condition: every list, every names. -/
import Derived.Test.YtobdmbebgdkelaaOpOpensWider
import Derived.Test.YtobdmbebgdkelaaPAllx0
import Derived.Test.YtobdmbebgdkelaaPAllx12
import Derived.Test.YtobdmbebgdkelaaPAllx9
import Derived.Test.YtobdmbebgdkelaaOpWide
namespace Go.Proofs.Ytobdmbebgdkelaa.Pure
open Go.RowKit Go.Proofs.Ytobdmbebgdkelaa.PAll Go.Proofs.YtobdmbebgdkelaaW.PrintWords Go.Proofs.YtobdmbebgdkelaaW.PrintLast
theorem alive_then {r : Bool} (h : r = true) {F : Bool → Option Bool} (hF : F true = some r) : Ev (fun k => (marginalialaw06_alive.f k).bind F) true := by
  refine Ev.bind oalive_ev ⟨0, fun _ _ => ?_⟩
  rw [hF, h]
theorem OpensWider : opensWiderOp.Plain := by
  intro l0 l1 _ _
  have H : Ev (fun k => marginalialaw06_OpensWider.f k l0 l1) true := by
    unfold marginalialaw06_OpensWider.f
    refine small_or fun h1 h2 => ?_
    refine Ev.bind (has_ev l0 (by omega) l1 (by omega) 1) ?_
    refine Ev.bind (has_ev l0 (by omega) l1 (by omega) 2) ?_
    refine Ev.bind (has_ev l0 (by omega) l1 (by omega) 3) ?_
    refine Ev.bind (has_ev l0 (by omega) l1 (by omega) 4) ?_
    refine Ev.bind (cut_ev l0 (by omega) l1 (by omega)) ?_
    have e21 := hasN_wider (namedB l1) (endB 1) (endB 2) (fun x h => endB_one x 2 (by decide) h) l0 l0.length
    have e31 := hasN_wider (namedB l1) (endB 1) (endB 3) (fun x h => endB_one x 3 (by decide) h) l0 l0.length
    have c1 := hasN_cut (namedB l1) (endB 1) l0 l0.length
    have c4 := hasN_cut (namedB l1) (endB 4) l0 l0.length
    have lt := lastN_lt (namedB l1) l0 l0.length
    generalize hasN (namedB l1) (endB 1) l0 l0.length = a at *
    generalize hasN (namedB l1) (endB 2) l0 l0.length = b at *
    generalize hasN (namedB l1) (endB 3) l0 l0.length = c at *
    generalize hasN (namedB l1) (endB 4) l0 l0.length = d at *
    generalize lastN (namedB l1) l0 l0.length = t at *
    have hT : 0 ≤ t → Ev (fun k => if t < 0 then some false else (marginalialaw06_alive.f k).bind fun u => if u = true then (if d = true then some (!(decide (t ≥ (l0.length : Int)))) else some (!false)) else some false) true := fun h0 => by
      refine Ev.congr (fun _ => if_neg (by omega)) ?_
      refine alive_then rfl ?_
      rw [if_pos rfl]
      have : decide (t ≥ (l0.length : Int)) = false := decide_eq_false (by omega)
      rw [this]
      cases d <;> rfl
    cases a
    · have hb : b = false := by cases b; rfl; exact absurd (e21 rfl) (by decide)
      have hc : c = false := by cases c; rfl; exact absurd (e31 rfl) (by decide)
      subst hb; subst hc
      refine Ev.congr (fun _ => (if_neg (by decide)).trans ((if_neg (by decide)).trans (if_neg (by decide)))) ?_
      cases d
      · refine Ev.congr (fun _ => if_neg (by decide)) ?_
        exact alive_then rfl rfl
      · refine Ev.congr (fun _ => if_pos rfl) ?_
        have := hT (c4 rfl)
        simpa only [if_true] using this
    · have hT' := hT (c1 rfl)
      cases b
      · refine Ev.congr (fun _ => if_neg (by decide)) ?_
        cases c
        · refine Ev.congr (fun _ => (if_neg (by decide)).trans (if_pos rfl)) hT'
        · refine Ev.congr (fun _ => (if_pos rfl).trans (if_pos rfl)) hT'
      · refine Ev.congr (fun _ => (if_pos rfl).trans (if_pos rfl)) hT'
  exact H.rounds
end Go.Proofs.Ytobdmbebgdkelaa.Pure
