/- The statement OpensFound: Find tells a place where one of that Id stands, behind which there is none, or that there is none (more than 60 elements: the live question alone).
   No condition: every list, every Id. -/
import Derived.Test.YtobdmbebgdkelaaOpOpensFound
import Derived.Test.YtobdmbebgdkelaaPAllx0
import Derived.Test.YtobdmbebgdkelaaPAllx14
import Derived.Test.YtobdmbebgdkelaaPAllx9
import Derived.Test.YtobdmbebgdkelaaOpMore
namespace Go.Proofs.Ytobdmbebgdkelaa.Pure
open Go.RowKit Go.Proofs.Ytobdmbebgdkelaa.PAll Go.Proofs.YtobdmbebgdkelaaW.PrintWords Go.Proofs.YtobdmbebgdkelaaW.PrintLast
theorem found_l0 (l : List S35) (hl : l.length ≤ 1000000) (id : Int) : ∀ (d i : Nat), i + d = l.length → (∀ j : Nat, i ≤ j → j < l.length → (rd_T35 l (j : Int)).f0 ≠ id) →
    Ev (fun k => marginalialaw06_OpensFound.l0 k l id (i : Int)) true := by
  intro d
  induction d with
  | zero =>
    intro i hi _
    refine Ev.step (f := fun k => (marginalialaw06_alive.f k).bind fun t => some t) (fun k => ?_) (Ev.pass oalive_ev)
    simp only [marginalialaw06_OpensFound.l0]
    rw [if_neg (by omega)]
  | succ d ih =>
    intro i hi hno
    refine Ev.step (fun k => ?_) (ih (i + 1) (by omega) (fun j h1 h2 => hno j (by omega) h2))
    simp only [marginalialaw06_OpensFound.l0]
    rw [if_pos (by omega), if_pos (by omega), if_neg (hno i (by omega) (by omega)), wrap_next (by omega)]
theorem OpensFound : opensFoundOp.Plain := by
  intro l0 a1 _ _
  have H : Ev (fun k => marginalialaw06_OpensFound.f k l0 a1) true := by
    unfold marginalialaw06_OpensFound.f
    by_cases hs : (l0.length : Int) > 60
    · exact Ev.congr (fun _ => if_pos hs) (Ev.pass oalive_ev)
    · refine Ev.congr (fun _ => if_neg hs) ?_
      refine Ev.bind (find_ev l0 (by omega) a1) ?_
      have lt := lastN_lt (fun x => x.f0 == a1) l0 l0.length
      have ge := lastN_ge (fun x => x.f0 == a1) l0 l0.length
      have is := lastN_is (fun x => x.f0 == a1) l0 l0.length
      have no := lastN_none (fun x => x.f0 == a1) l0 l0.length
      generalize lastN (fun x => x.f0 == a1) l0 l0.length = t at *
      refine Ev.congr (fun _ => (if_neg (by omega)).trans (if_neg (by omega))) ?_
      have hL : Ev (fun k => marginalialaw06_OpensFound.l0 k l0 a1 (wrap64 (t + 1))) true := by
        rw [wrap_small (by omega) (by omega)]
        obtain ⟨i, hi⟩ : ∃ i : Nat, t + 1 = (i : Int) := ⟨(t + 1).toNat, by omega⟩
        rw [hi]
        exact found_l0 l0 (by omega) a1 (l0.length - i) i (by omega) (fun j h1 h2 => by
          have := no j (by omega) h2
          simpa using this)
      have hJ : Ev (fun k => marginalialaw06_OpensFound.j0 k l0 a1 t false) true := by
        refine Ev.step (fun k => ?_) hL
        simp only [marginalialaw06_OpensFound.j0]
        rw [if_neg (by decide)]
      by_cases h0 : t ≥ 0
      · refine Ev.congr (fun _ => (if_pos h0).trans ((if_pos h0).trans (if_pos lt))) ?_
        have := is h0
        have e : ((rd_T35 l0 t).f0 != a1) = false := by simpa using this
        rw [e]
        exact hJ
      · exact Ev.congr (fun _ => if_neg h0) hJ
  exact H.rounds
end Go.Proofs.Ytobdmbebgdkelaa.Pure
