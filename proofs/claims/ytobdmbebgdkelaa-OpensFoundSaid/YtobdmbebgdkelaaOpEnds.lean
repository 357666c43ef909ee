import Derived.Test.YtobdmbebgdkelaaPAllx0
import Derived.Test.YtobdmbebgdkelaaPAllx3
import Derived.Test.YtobdmbebgdkelaaPAllx9
import Derived.Test.YtobdmbebgdkelaaRefKind
namespace Go.Proofs.Ytobdmbebgdkelaa.Pure
open Go.RowKit Go.Proofs.Ytobdmbebgdkelaa.PAll Go.Proofs.YtobdmbebgdkelaaW.PrintWords Go.Proofs.YtobdmbebgdkelaaW.PrintLast

set_option linter.unusedSimpArgs false
/-! What package opens and its reference come to. -/
def w_svg : List (List UInt8) := [[102, 111, 114, 101, 105, 103, 110, 111, 98, 106, 101, 99, 116], [100, 101, 115, 99], [116, 105, 116, 108, 101]]
def w_math : List (List UInt8) := [[109, 105], [109, 111], [109, 110], [109, 115], [109, 116, 101, 120, 116]]
def w_ends : List (List UInt8) := [[104, 116, 109, 108], [116, 97, 98, 108, 101], [116, 101, 109, 112, 108, 97, 116, 101]]
def w_tab : List (List UInt8) := [[97, 112, 112, 108, 101, 116], [99, 97, 112, 116, 105, 111, 110], [109, 97, 114, 113, 117, 101, 101], [111, 98, 106, 101, 99, 116], [116, 100], [116, 104]]
def w_lst : List (List UInt8) := [[111, 108], [117, 108]]
def pointB (sp : Int) (n : List UInt8) : Bool := if sp = 1 then w_svg.contains n else if sp = 2 then w_math.contains n else false
def endsB (sp : Int) (n : List UInt8) (sc : Int) : Bool :=
  if sp = 0 then (if w_ends.contains n then true else if w_tab.contains n then sc != 4 else if w_lst.contains n then sc == 2 else if n = [98, 117, 116, 116, 111, 110] then sc == 3 else false) else (sc != 4 && pointB sp n)
theorem ite_some_or {p : Prop} [Decidable p] {c : Bool} : (if p then some true else some c) = some (decide p || c) := by by_cases h : p <;> simp [h]
theorem beq_dec {a b : List UInt8} : (a == b) = decide (a = b) := by by_cases h : a = b <;> simp [h]
theorem point_is (i sp : Int) (s : ByteArray) : opens_Point.f i sp s = some (pointB sp s.data.toList) := by
  unfold opens_Point.f pointB
  simp only [bytes_data]
  generalize s.data.toList = n
  by_cases h1 : sp = 1
  · rw [if_pos h1, if_pos h1]; simp only [ite_some_or, w_svg, List.contains_cons, List.contains_nil, Bool.or_false, beq_dec]
  · rw [if_neg h1, if_neg h1]
    by_cases h2 : sp = 2
    · rw [if_pos h2, if_pos h2]; simp only [ite_some_or, w_math, List.contains_cons, List.contains_nil, Bool.or_false, beq_dec]
    · rw [if_neg h2, if_neg h2]
theorem in_const {c : ByteArray} {S : List (List UInt8)} (h : splitB c = S) (hs : c.size ≤ 1000000) (s : ByteArray) : Ev (fun k => marginaliaref02_In.f k c s) (S.contains s.data.toList) := h ▸ in_ev c s hs
theorem refPoint_ev (i sp : Int) (s : ByteArray) : Ev (fun k => marginaliaref06_Point.f k i sp s) (pointB sp s.data.toList) := by
  unfold marginaliaref06_Point.f pointB
  by_cases h1 : sp = 1
  · subst h1
    refine Ev.congr (fun _ => if_pos rfl) ?_
    rw [if_pos rfl]
    refine Ev.bind (in_const (S := w_svg) (by decide +kernel) (by decide +kernel) s) ?_
    cases w_svg.contains s.data.toList
    · exact ⟨0, fun _ _ => by simp⟩
    · exact ⟨0, fun _ _ => by simp⟩
  · refine Ev.congr (fun _ => if_neg h1) ?_
    rw [if_neg h1]
    by_cases h2 : sp = 2
    · refine Ev.congr (fun _ => if_pos h2) ?_
      rw [if_pos h2]
      exact Ev.pass (in_const (S := w_math) (by decide +kernel) (by decide +kernel) s)
    · refine Ev.congr (fun _ => if_neg h2) ?_
      rw [if_neg h2]
      exact ⟨0, fun _ _ => rfl⟩
theorem ite_beq {α β : Type} [DecidableEq α] {a b : α} {F : Bool → β} {G : β} : (if a = b then F (a == b) else G) = (if a = b then F true else G) := by
  by_cases h : a = b <;> simp [h]
theorem ends_ev (i sp : Int) (s : ByteArray) (sc : Int) : Ev (fun k => opens_Ends.f k i sp s sc) (endsB sp s.data.toList sc) := by
  refine ⟨3, fun k hk => ?_⟩
  obtain ⟨k, rfl⟩ : ∃ m, k = m + 3 := ⟨k - 3, by omega⟩
  unfold opens_Ends.f endsB
  rw [point_is]
  dsimp only
  by_cases h0 : sp = 0
  · rw [if_pos h0, if_pos h0]
    simp only [opens_Ends.j0, opens_Ends.j1, opens_Ends.j2, bytes_data]
    generalize s.data.toList = n
    clear h0
    by_cases h0 : n = [104, 116, 109, 108]
    · subst h0; simp [w_ends, w_tab, w_lst] <;> (cases Decidable.em (sc = 4) <;> cases Decidable.em (sc = 2) <;> cases Decidable.em (sc = 3) <;> simp [*])
    by_cases h1 : n = [116, 97, 98, 108, 101]
    · subst h1; simp [w_ends, w_tab, w_lst] <;> (cases Decidable.em (sc = 4) <;> cases Decidable.em (sc = 2) <;> cases Decidable.em (sc = 3) <;> simp [*])
    by_cases h2 : n = [116, 101, 109, 112, 108, 97, 116, 101]
    · subst h2; simp [w_ends, w_tab, w_lst] <;> (cases Decidable.em (sc = 4) <;> cases Decidable.em (sc = 2) <;> cases Decidable.em (sc = 3) <;> simp [*])
    by_cases h3 : n = [97, 112, 112, 108, 101, 116]
    · subst h3; simp [w_ends, w_tab, w_lst] <;> (cases Decidable.em (sc = 4) <;> cases Decidable.em (sc = 2) <;> cases Decidable.em (sc = 3) <;> simp [*])
    by_cases h4 : n = [99, 97, 112, 116, 105, 111, 110]
    · subst h4; simp [w_ends, w_tab, w_lst] <;> (cases Decidable.em (sc = 4) <;> cases Decidable.em (sc = 2) <;> cases Decidable.em (sc = 3) <;> simp [*])
    by_cases h5 : n = [109, 97, 114, 113, 117, 101, 101]
    · subst h5; simp [w_ends, w_tab, w_lst] <;> (cases Decidable.em (sc = 4) <;> cases Decidable.em (sc = 2) <;> cases Decidable.em (sc = 3) <;> simp [*])
    by_cases h6 : n = [111, 98, 106, 101, 99, 116]
    · subst h6; simp [w_ends, w_tab, w_lst] <;> (cases Decidable.em (sc = 4) <;> cases Decidable.em (sc = 2) <;> cases Decidable.em (sc = 3) <;> simp [*])
    by_cases h7 : n = [116, 100]
    · subst h7; simp [w_ends, w_tab, w_lst] <;> (cases Decidable.em (sc = 4) <;> cases Decidable.em (sc = 2) <;> cases Decidable.em (sc = 3) <;> simp [*])
    by_cases h8 : n = [116, 104]
    · subst h8; simp [w_ends, w_tab, w_lst] <;> (cases Decidable.em (sc = 4) <;> cases Decidable.em (sc = 2) <;> cases Decidable.em (sc = 3) <;> simp [*])
    by_cases h9 : n = [111, 108]
    · subst h9; simp [w_ends, w_tab, w_lst] <;> (cases Decidable.em (sc = 4) <;> cases Decidable.em (sc = 2) <;> cases Decidable.em (sc = 3) <;> simp [*])
    by_cases h10 : n = [117, 108]
    · subst h10; simp [w_ends, w_tab, w_lst] <;> (cases Decidable.em (sc = 4) <;> cases Decidable.em (sc = 2) <;> cases Decidable.em (sc = 3) <;> simp [*])
    by_cases h11 : n = [98, 117, 116, 116, 111, 110]
    · subst h11; simp [w_ends, w_tab, w_lst] <;> (cases Decidable.em (sc = 4) <;> cases Decidable.em (sc = 2) <;> cases Decidable.em (sc = 3) <;> simp [*])
    simp [w_ends, w_tab, w_lst, h0, h1, h2, h3, h4, h5, h6, h7, h8, h9, h10, h11]
  · rw [if_neg h0, if_neg h0]
    by_cases h4 : sc = 4
    · rw [if_pos h4]; subst h4; rfl
    · rw [if_neg h4]; simp [h4]
theorem refEnds_ev (i sp : Int) (s : ByteArray) (sc : Int) : Ev (fun k => marginaliaref06_Ends.f k i sp s sc) (endsB sp s.data.toList sc) := by
  have hP := refPoint_ev i sp s
  unfold marginaliaref06_Ends.f
  by_cases h4 : sc = 4
  · refine Ev.congr (fun _ => if_pos h4) ?_
    by_cases h0 : sp = 0
    · refine Ev.congr (fun _ => if_pos h0) ?_
      have e : endsB sp s.data.toList sc = w_ends.contains s.data.toList := by
        unfold endsB
        rw [if_pos h0]
        subst h4
        cases w_ends.contains s.data.toList <;> simp
      rw [e]
      exact Ev.pass (in_const (S := w_ends) (by decide +kernel) (by decide +kernel) s)
    · refine Ev.congr (fun _ => if_neg h0) ?_
      have e : endsB sp s.data.toList sc = false := by
        unfold endsB
        rw [if_neg h0]
        subst h4
        rfl
      rw [e]
      exact ⟨0, fun _ _ => rfl⟩
  · refine Ev.congr (fun _ => if_neg h4) ?_
    by_cases h0 : sp = 0
    · refine Ev.congr (fun _ => if_pos h0) ?_
      have hB := in_const (S := [[97, 112, 112, 108, 101, 116], [99, 97, 112, 116, 105, 111, 110], [104, 116, 109, 108], [109, 97, 114, 113, 117, 101, 101], [111, 98, 106, 101, 99, 116], [116, 97, 98, 108, 101], [116, 100], [116, 101, 109, 112, 108, 97, 116, 101], [116, 104]]) (c := ⟨#[97, 112, 112, 108, 101, 116, 32, 99, 97, 112, 116, 105, 111, 110, 32, 104, 116, 109, 108, 32, 109, 97, 114, 113, 117, 101, 101, 32, 111, 98, 106, 101, 99, 116, 32, 116, 97, 98, 108, 101, 32, 116, 100, 32, 116, 101, 109, 112, 108, 97, 116, 101, 32, 116, 104]⟩) (by decide +kernel) (by decide +kernel) s
      have hO := in_const (S := w_lst) (c := ⟨#[111, 108, 32, 117, 108]⟩) (by decide +kernel) (by decide +kernel) s
      refine Ev.bind hB ?_
      have hp0 : pointB sp s.data.toList = false := by unfold pointB; rw [if_neg (by omega), if_neg (by omega)]
      rw [hp0] at hP
      unfold endsB
      rw [if_pos h0]
      by_cases hb : ([[97, 112, 112, 108, 101, 116], [99, 97, 112, 116, 105, 111, 110], [104, 116, 109, 108], [109, 97, 114, 113, 117, 101, 101], [111, 98, 106, 101, 99, 116], [116, 97, 98, 108, 101], [116, 100], [116, 101, 109, 112, 108, 97, 116, 101], [116, 104]] : List (List UInt8)).contains s.data.toList = true
      · refine Ev.congr (fun _ => if_pos hb) ?_
        have e : (if w_ends.contains s.data.toList then true else if w_tab.contains s.data.toList then sc != 4 else if w_lst.contains s.data.toList then sc == 2 else if s.data.toList = [98, 117, 116, 116, 111, 110] then sc == 3 else false) = true := by
          by_cases ha : w_ends.contains s.data.toList = true
          · rw [if_pos ha]
          · rw [if_neg ha]
            have hd : w_tab.contains s.data.toList = true := by
              simp only [w_ends, w_tab, List.contains_cons, List.contains_nil, Bool.or_false, Bool.or_eq_true, beq_iff_eq, not_or] at ha hb ⊢
              grind
            rw [if_pos hd]
            simp [h4]
        rw [e]
        exact ⟨0, fun _ _ => rfl⟩
      · refine Ev.congr (fun _ => if_neg hb) ?_
        refine Ev.bind hP ?_
        refine Ev.congr (fun _ => if_neg (by decide)) ?_
        have ha : ¬ w_ends.contains s.data.toList = true := by
          simp only [w_ends, w_tab, List.contains_cons, List.contains_nil, Bool.or_false, Bool.or_eq_true, beq_iff_eq, not_or] at hb ⊢
          grind
        have hd : ¬ w_tab.contains s.data.toList = true := by
          simp only [w_ends, w_tab, List.contains_cons, List.contains_nil, Bool.or_false, Bool.or_eq_true, beq_iff_eq, not_or] at hb ⊢
          grind
        rw [if_neg ha, if_neg hd]
        by_cases h2 : sc = 2
        · refine Ev.congr (fun _ => if_pos h2) ?_
          refine Ev.bind hO ?_
          subst h2
          cases w_lst.contains s.data.toList
          · exact ⟨0, fun _ _ => by simp⟩
          · exact ⟨0, fun _ _ => by simp⟩
        · refine Ev.congr (fun _ => if_neg h2) ?_
          by_cases h3 : sc = 3
          · refine Ev.congr (fun _ => if_pos h3) ?_
            subst h3
            refine ⟨0, fun _ _ => ?_⟩
            rw [bytes_data]
            generalize s.data.toList = n
            by_cases hl : w_lst.contains n = true
            · have : ¬ n = [98, 117, 116, 116, 111, 110] := by rintro rfl; revert hl; decide
              simp [hl, this]
            · by_cases hn : n = [98, 117, 116, 116, 111, 110] <;> simp [hl, hn, w_lst]
          · refine Ev.congr (fun _ => if_neg h3) ?_
            refine ⟨0, fun _ _ => ?_⟩
            simp [h2, h3]
    · refine Ev.congr (fun _ => if_neg h0) ?_
      refine Ev.bind hP ?_
      unfold endsB
      rw [if_neg h0]
      have e4 : (sc != 4) = true := by simp [h4]
      rw [e4, Bool.true_and]
      cases pointB sp s.data.toList
      · exact ⟨0, fun _ _ => by simp⟩
      · exact ⟨0, fun _ _ => by simp⟩
end Go.Proofs.Ytobdmbebgdkelaa.Pure
