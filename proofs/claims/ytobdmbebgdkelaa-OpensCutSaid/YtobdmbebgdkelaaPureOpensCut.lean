/- The statement OpensCut: how many are left, cut at any names, without those whose end is implied, and where one of an Id stands, is as the reference says; the list stays
   (more than 60 elements or names: the live question alone). No condition: every list, every names, every By. -/
import Derived.Test.YtobdmbebgdkelaaOpOpensCut
import Derived.Test.YtobdmbebgdkelaaPAllx0
import Derived.Test.YtobdmbebgdkelaaPAllx10
import Derived.Test.YtobdmbebgdkelaaPAllx11
import Derived.Test.YtobdmbebgdkelaaPAllx9
import Derived.Test.YtobdmbebgdkelaaOpSpec
namespace Go.Proofs.Ytobdmbebgdkelaa.Pure
open Go.RowKit Go.Proofs.Ytobdmbebgdkelaa.PAll Go.Proofs.YtobdmbebgdkelaaW.PrintWords Go.Proofs.YtobdmbebgdkelaaW.PrintLast
theorem cut_loop (l : List S35) (hl : l.length ≤ 60) (l1 : List ByteArray) (hx : l1.length ≤ 60) (ex : ByteArray) (id : Int) : ∀ (d i : Nat), i + d = l.length →
    Ev (fun k => marginalialaw06_OpensCut.l0 k l l1 l (lastN (namedB l1) l l.length) (leftN ex l) (lastN (fun x => x.f0 == id) l l.length) (i : Int) ex id) true := by
  intro d
  induction d with
  | zero =>
    intro i hi
    refine Ev.step (f := fun k => (marginalialaw06_alive.f k).bind fun t269 => (if t269 = true then ((marginaliaref06_Cut.f k l l1).bind fun t270 => (if lastN (namedB l1) l l.length = t270 then ((marginaliaref06_Implied.f k l ex).bind fun t271 => (if leftN ex l = t271 then ((marginaliaref06_Find.f k l id).bind fun t272 => (some (lastN (fun x => x.f0 == id) l l.length == t272))) else (some false))) else (some false))) else (some false))) (fun k => ?_) ?_
    · simp only [marginalialaw06_OpensCut.l0]
      rw [if_neg (by omega)]
    · refine Ev.bind oalive_ev ?_
      refine Ev.congr (fun _ => if_pos rfl) ?_
      refine Ev.bind (refCut_ev l (by omega) l1 (by omega)) ?_
      refine Ev.congr (fun _ => if_pos rfl) ?_
      refine Ev.bind (refImplied_ev l (by omega) ex) ?_
      refine Ev.congr (fun _ => if_pos rfl) ?_
      refine Ev.bind (refFind_ev l (by omega) id) ?_
      exact ⟨0, fun _ _ => by simp⟩
  | succ d ih =>
    intro i hi
    refine Ev.step (fun k => ?_) (ih (i + 1) (by omega))
    simp only [marginalialaw06_OpensCut.l0]
    rw [if_pos (by omega), if_pos (by omega), if_pos (by omega), wrap_next (by omega), if_neg (by simp)]
theorem OpensCut : opensCutOp.Plain := by
  intro l0 l1 x2 _ _ _
  have H : Ev (fun k => marginalialaw06_OpensCut.f k l0 l1 x2.f0 x2.f1) true := by
    unfold marginalialaw06_OpensCut.f
    refine small_or fun h1 h2 => ?_
    simp only [Option.bind_some, List.nil_append, List.length_nil]
    refine Ev.congr (fun _ => if_pos (by omega)) ?_
    refine Ev.bind (cut_ev l0 (by omega) l1 (by omega)) ?_
    refine Ev.bind (implied_ev l0 (by omega) x2.f0) ?_
    refine Ev.bind (find_ev l0 (by omega) x2.f1) ?_
    exact cut_loop l0 h1 l1 h2 x2.f0 x2.f1 l0.length 0 (by omega)
  exact H.rounds
end Go.Proofs.Ytobdmbebgdkelaa.Pure
