/- The statement OpensLeft: Cut leaves a beginning behind which one of the names stands, and none of them further on; Implied a beginning behind which only such stand as go,
   and that does not end with one (more than 60 elements or names: the live question alone). No condition: every list, every names, every name. -/
import Derived.Test.YtobdmbebgdkelaaOpOpensLeft
import Derived.Test.YtobdmbebgdkelaaPAllx0
import Derived.Test.YtobdmbebgdkelaaPAllx13
import Derived.Test.YtobdmbebgdkelaaPAllx3
import Derived.Test.YtobdmbebgdkelaaPAllx7
import Derived.Test.YtobdmbebgdkelaaPAllx9
import Derived.Test.YtobdmbebgdkelaaOpMore
namespace Go.Proofs.Ytobdmbebgdkelaa.Pure
open Go.RowKit Go.Proofs.Ytobdmbebgdkelaa.PAll Go.Proofs.YtobdmbebgdkelaaW.PrintWords Go.Proofs.YtobdmbebgdkelaaW.PrintLast
theorem left_l2 (l : List S35) (hl : l.length ≤ 1000000) (ex : ByteArray) (m : Int) : ∀ (d i : Nat), i + d = l.length → (∀ j : Nat, i ≤ j → j < l.length → goesB ex (rd_T35 l (j : Int)) = decide ((j : Int) ≥ m)) →
    Ev (fun k => marginalialaw06_OpensLeft.l2 k l ex m (i : Int)) true := by
  intro d
  induction d with
  | zero =>
    intro i hi _
    refine Ev.step (f := fun k => (marginalialaw06_alive.f k).bind fun t => some t) (fun k => ?_) (Ev.pass oalive_ev)
    simp only [marginalialaw06_OpensLeft.l2]
    rw [if_neg (by omega)]
  | succ d ih =>
    intro i hi hg
    have hn := ih (i + 1) (by omega) (fun j h1 h2 => hg j (by omega) h2)
    have h0 := hg i (by omega) (by omega)
    unfold goesB at h0
    refine Ev.step (f := fun k => if (rd_T35 l (i : Int)).f1 = 0 then (if ((rd_T35 l (i : Int)).f2).toList = ex.toList then (if (false != (decide ((i : Int) ≥ m))) = true then (some false) else (marginalialaw06_OpensLeft.l2 k l ex m ((i + 1 : Nat) : Int))) else ((kind_Is.f k 8 ((rd_T35 l (i : Int)).f2)).bind fun t296 => (if (t296 != (decide ((i : Int) ≥ m))) = true then (some false) else (marginalialaw06_OpensLeft.l2 k l ex m ((i + 1 : Nat) : Int))))) else (if (false != (decide ((i : Int) ≥ m))) = true then (some false) else (marginalialaw06_OpensLeft.l2 k l ex m ((i + 1 : Nat) : Int)))) (fun k => ?_) ?_
    · simp only [marginalialaw06_OpensLeft.l2]
      rw [if_pos (by omega), if_neg (by omega), if_pos (by omega), wrap_next (by omega)]
    · by_cases h1 : (rd_T35 l (i : Int)).f1 = 0
      · refine Ev.congr (fun _ => if_pos h1) ?_
        by_cases h2 : (rd_T35 l (i : Int)).f2.toList = ex.toList
        · refine Ev.congr (fun _ => if_pos h2) ?_
          have : decide ((i : Int) ≥ m) = false := by rw [← h0]; simp [h2]
          exact Ev.congr (fun _ => if_neg (by rw [this]; decide)) hn
        · refine Ev.congr (fun _ => if_neg h2) ?_
          refine Ev.bind (is_ev 8 _) ?_
          have : decide ((i : Int) ≥ m) = inK 8 (rd_T35 l (i : Int)).f2 := by rw [← h0]; simp [h1, h2]
          exact Ev.congr (fun _ => if_neg (by rw [this]; simp)) hn
      · refine Ev.congr (fun _ => if_neg h1) ?_
        have : decide ((i : Int) ≥ m) = false := by rw [← h0]; simp [h1]
        exact Ev.congr (fun _ => if_neg (by rw [this]; decide)) hn
theorem left_l1 (l : List S35) (hl : l.length ≤ 1000000) (l1 : List ByteArray) (hx : l1.length ≤ 1000000) (ex : ByteArray) (n : Int) (i : Nat) (hi : i < l.length)
    (hcont : Ev (fun k => marginalialaw06_OpensLeft.l0 k l l1 ex n ((i + 1 : Nat) : Int)) true) : ∀ (d j : Nat) (b : Bool), j + d = l1.length →
    (b || ((rd_T35 l (i : Int)).f1 == 0 && (l1.drop j).any fun s => (rd_T35 l (i : Int)).f2.toList == s.toList)) = ((i : Int) == n) →
    Ev (fun k => marginalialaw06_OpensLeft.l1 k l l1 ex n (i : Int) b (j : Int)) true := by
  intro d
  induction d with
  | zero =>
    intro j b hj hb
    refine Ev.step (fun k => ?_) hcont
    rw [List.drop_of_length_le (by omega)] at hb
    simp only [List.any_nil, Bool.and_false, Bool.or_false] at hb
    simp only [marginalialaw06_OpensLeft.l1]
    rw [if_neg (by omega), if_pos (by omega), if_neg (by rw [hb]; simp), wrap_next (by omega)]
  | succ d ih =>
    intro j b hj hb
    have hlt : j < l1.length := by omega
    have e : rdOf ByteArray.empty l1 (j : Int) = l1[j] := by simp [rdOf, List.getD_eq_getElem?_getD, hlt]
    rw [List.drop_eq_getElem_cons hlt, List.any_cons] at hb
    cases b with
    | true =>
      refine Ev.step (fun k => ?_) (ih (j + 1) true (by omega) (by rw [← hb]; rfl))
      simp only [marginalialaw06_OpensLeft.l1]
      rw [if_pos (by omega), if_pos (by omega), if_pos trivial, wrap_next (by omega)]
    | false =>
      by_cases h1 : (rd_T35 l (i : Int)).f1 = 0
      · have h1' : ((rd_T35 l (i : Int)).f1 == 0) = true := beq_iff_eq.mpr h1
        refine Ev.step (fun k => ?_) (ih (j + 1) ((rd_T35 l (i : Int)).f2.toList == l1[j].toList) (by omega) (by rw [← hb, h1']; simp only [Bool.true_and, Bool.false_or]))
        simp only [marginalialaw06_OpensLeft.l1]
        rw [if_pos (by omega), if_pos (by omega), if_neg (by decide), if_pos (by omega), if_pos (by omega), if_pos h1, if_pos (by omega), wrap_next (by omega), e]
      · have h1' : ((rd_T35 l (i : Int)).f1 == 0) = false := beq_eq_false_iff_ne.mpr h1
        refine Ev.step (fun k => ?_) (ih (j + 1) false (by omega) (by rw [← hb, h1']; simp only [Bool.false_and, Bool.false_or]))
        simp only [marginalialaw06_OpensLeft.l1]
        rw [if_pos (by omega), if_pos (by omega), if_neg (by decide), if_pos (by omega), if_pos (by omega), if_neg h1, wrap_next (by omega)]
theorem left_end (l : List S35) (hl : l.length ≤ 1000000) (ex : ByteArray) : Ev (fun k => (opens_Implied.f k l ex).bind fun t291 => (if t291 < 0 then (marginalialaw06_OpensLeft.j3 k l ex t291 true) else (marginalialaw06_OpensLeft.j3 k l ex t291 (decide (t291 > (l.length : Int)))))) true := by
  refine Ev.bind (implied_ev l hl ex) ?_
  unfold leftN
  have lt := lastN_lt (fun x => !goesB ex x) l l.length
  have ge := lastN_ge (fun x => !goesB ex x) l l.length
  have is := lastN_is (fun x => !goesB ex x) l l.length
  have no := lastN_none (fun x => !goesB ex x) l l.length
  generalize lastN (fun x => !goesB ex x) l l.length = t at *
  refine Ev.congr (fun _ => if_neg (by omega)) ?_
  have : decide (1 + t > (l.length : Int)) = false := decide_eq_false (by omega)
  rw [this]
  refine Ev.step (f := fun k => marginalialaw06_OpensLeft.l2 k l ex (1 + t) t) (fun k => ?_) ?_
  · simp only [marginalialaw06_OpensLeft.j3]
    rw [if_neg (by decide), wrap_small (by omega) (by omega)]
    congr 1
    omega
  · have hgo : ∀ j : Nat, t ≤ (j : Int) → j < l.length → goesB ex (rd_T35 l (j : Int)) = decide ((j : Int) ≥ 1 + t) := fun j h1 h2 => by
      by_cases h : t = (j : Int)
      · have h3 := is (by omega)
        rw [h] at h3
        have : decide ((j : Int) ≥ 1 + t) = false := decide_eq_false (by omega)
        rw [this]
        simpa using h3
      · have h3 := no j (by omega) h2
        have : decide ((j : Int) ≥ 1 + t) = true := decide_eq_true (by omega)
        rw [this]
        simpa using h3
    by_cases h0 : t = -1
    · subst h0
      have h00 := left_l2 l hl ex (1 + -1) l.length 0 (by omega) (fun j _ h2 => hgo j (by omega) h2)
      refine Ev.step (fun k => ?_) h00
      simp only [marginalialaw06_OpensLeft.l2]
      rw [if_pos (by omega), if_pos (by omega), wrap_small (by omega) (by omega)]
      rfl
    · obtain ⟨i, rfl⟩ : ∃ i : Nat, t = (i : Int) := ⟨t.toNat, by omega⟩
      exact left_l2 l hl ex _ (l.length - i) i (by omega) (fun j h1 h2 => hgo j (by omega) h2)
theorem left_l0 (l : List S35) (hl : l.length ≤ 1000000) (l1 : List ByteArray) (hx : l1.length ≤ 1000000) (ex : ByteArray) (n : Int) : ∀ (d i : Nat), i + d = l.length →
    (∀ j : Nat, i ≤ j → j < l.length → namedB l1 (rd_T35 l (j : Int)) = ((j : Int) == n)) → Ev (fun k => marginalialaw06_OpensLeft.l0 k l l1 ex n (i : Int)) true := by
  intro d
  induction d with
  | zero =>
    intro i hi _
    refine Ev.step (fun k => ?_) (left_end l hl ex)
    simp only [marginalialaw06_OpensLeft.l0]
    rw [if_neg (by omega)]
  | succ d ih =>
    intro i hi hg
    refine Ev.step (fun k => ?_) (left_l1 l hl l1 hx ex n i (by omega) (ih (i + 1) (by omega) (fun j h1 h2 => hg j (by omega) h2)) l1.length 0 false (by omega) (by rw [← hg i (by omega) (by omega), List.drop_zero, Bool.false_or]; rfl))
    simp only [marginalialaw06_OpensLeft.l0]
    rw [if_pos (by omega)]
    rfl
theorem OpensLeft : opensLeftOp.Plain := by
  intro l0 l1 a2 _ _ _
  have H : Ev (fun k => marginalialaw06_OpensLeft.f k l0 l1 a2) true := by
    unfold marginalialaw06_OpensLeft.f
    refine small_or fun h1 h2 => ?_
    refine Ev.bind (cut_ev l0 (by omega) l1 (by omega)) ?_
    have lt := lastN_lt (namedB l1) l0 l0.length
    have ge := lastN_ge (namedB l1) l0 l0.length
    have is := lastN_is (namedB l1) l0 l0.length
    have no := lastN_none (namedB l1) l0 l0.length
    generalize lastN (namedB l1) l0 l0.length = t at *
    refine Ev.congr (fun _ => if_neg (by omega)) ?_
    have : decide (t < -1) = false := decide_eq_false (by omega)
    rw [this]
    have hgo : ∀ j : Nat, t ≤ (j : Int) → j < l0.length → namedB l1 (rd_T35 l0 (j : Int)) = ((j : Int) == t) := fun j h1 h2 => by
      by_cases h : t = (j : Int)
      · have h3 := is (by omega)
        rw [h] at h3 ⊢
        rw [h3]; simp
      · have h3 := no j (by omega) h2
        rw [h3]
        exact (beq_eq_false_iff_ne.mpr (fun e => h e.symm)).symm
    refine Ev.step (f := fun k => marginalialaw06_OpensLeft.l0 k l0 l1 a2 t t) (fun k => ?_) ?_
    · simp only [marginalialaw06_OpensLeft.j0]
      rw [if_neg (by decide)]
    · by_cases h0 : t = -1
      · subst h0
        have h00 := left_l0 l0 (by omega) l1 (by omega) a2 (-1) l0.length 0 (by omega) (fun j _ h2 => hgo j (by omega) h2)
        refine Ev.step (f := fun k => marginalialaw06_OpensLeft.l1 k l0 l1 a2 (-1) (-1) false 0) (fun k => ?_) ?_
        · simp only [marginalialaw06_OpensLeft.l0]
          rw [if_pos (by omega)]
        · refine Ev.step (fun k => ?_) h00
          simp only [marginalialaw06_OpensLeft.l1]
          rw [if_neg (show ¬ ((-1 : Int) ≥ 0) by decide), wrap_small (by omega) (by omega)]
          simp only [show ¬ ((-1 : Int) ≥ 0) by decide, if_false, ite_self]
          rfl
      · obtain ⟨i, rfl⟩ : ∃ i : Nat, t = (i : Int) := ⟨t.toNat, by omega⟩
        exact left_l0 l0 (by omega) l1 (by omega) a2 _ (l0.length - i) i (by omega) (fun j h1 h2 => hgo j (by omega) h2)
  exact H.rounds
end Go.Proofs.Ytobdmbebgdkelaa.Pure
