import Derived.Test.YtobdmbebgdkelaaPAllx0
import Derived.Test.YtobdmbebgdkelaaPAllx10
import Derived.Test.YtobdmbebgdkelaaPAllx11
import Derived.Test.YtobdmbebgdkelaaPAllx2
import Derived.Test.YtobdmbebgdkelaaPAllx4
import Derived.Test.YtobdmbebgdkelaaPAllx5
import Derived.Test.YtobdmbebgdkelaaPAllx6
import Derived.Test.YtobdmbebgdkelaaPAllx7
import Derived.Test.YtobdmbebgdkelaaPAllx8
import Derived.Test.YtobdmbebgdkelaaPAllx9
import Derived.Test.YtobdmbebgdkelaaOpEnds
namespace Go.Proofs.Ytobdmbebgdkelaa.Pure
open Go.RowKit Go.Proofs.Ytobdmbebgdkelaa.PAll Go.Proofs.YtobdmbebgdkelaaW.PrintWords Go.Proofs.YtobdmbebgdkelaaW.PrintLast

set_option linter.unusedSimpArgs false
/-! What the searches of package opens and of its reference come to. -/
theorem wrap_small {x : Int} (h1 : -1000000000 ≤ x) (h2 : x ≤ 1000000000) : wrap64 x = x := by unfold wrap64; omega
def namedB (l1 : List ByteArray) (x : S35) : Bool := x.f1 == 0 && l1.any fun s => x.f2.toList == s.toList
theorem index_l0 (a : ByteArray) (xs : List ByteArray) (hx : xs.length ≤ 1000000) : ∀ (d i k : Nat), i + d = xs.length → d < k →
    ∃ t, slices_Index_string_string.l0 k xs a (xs.length : Int) (i : Int) = some t ∧ decide (t ≥ 0) = (xs.drop i).any fun s => a.toList == s.toList := by
  intro d
  induction d with
  | zero =>
    intro i k hi hk
    obtain ⟨k, rfl⟩ : ∃ m, k = m + 1 := ⟨k - 1, by omega⟩
    refine ⟨-1, ?_, ?_⟩
    · simp only [slices_Index_string_string.l0]
      rw [if_neg (by omega)]
    · rw [List.drop_of_length_le (by omega)]; rfl
  | succ d ih =>
    intro i k hi hk
    obtain ⟨k, rfl⟩ : ∃ m, k = m + 1 := ⟨k - 1, by omega⟩
    have hlt : i < xs.length := by omega
    have e : rdOf ByteArray.empty xs (i : Int) = xs[i] := by simp [rdOf, List.getD_eq_getElem?_getD, hlt]
    simp only [slices_Index_string_string.l0]
    rw [if_pos (by omega), if_pos (by omega), if_pos (by omega), wrap_next (by omega), e, List.drop_eq_getElem_cons hlt, List.any_cons]
    by_cases h : a.toList = xs[i].toList
    · rw [if_pos h]
      exact ⟨_, rfl, by simp [h]⟩
    · rw [if_neg h]
      obtain ⟨t, h1, h2⟩ := ih (i + 1) k (by omega) (by omega)
      exact ⟨t, h1, by rw [h2]; simp [h]⟩
theorem named_ev (l1 : List ByteArray) (hx : l1.length ≤ 1000000) (x : S35) : Ev (fun k => opens_named.p k l1 x) (namedB l1 x) := by
  unfold opens_named.p namedB
  by_cases h : x.f1 = 0
  · refine Ev.congr (fun _ => if_pos h) ?_
    obtain ⟨t, h1, h2⟩ := index_l0 x.f2 l1 hx l1.length 0 (l1.length + 1) (by omega) (by omega)
    have : Ev (fun k => slices_Index_string_string.f k l1 x.f2) t := Ev.of (slices_Index_string_string.mono l1 x.f2) (k := l1.length + 1) h1
    unfold slices_Contains_string_string.f
    refine Ev.bind this ?_
    refine ⟨0, fun _ _ => ?_⟩
    rw [h2, h]
    simp
  · refine Ev.congr (fun _ => if_neg h) ?_
    exact ⟨0, fun _ _ => by simp [h]⟩
theorem refAmong_l0 (a b : Int) (c : ByteArray) (xs : List ByteArray) (hx : xs.length ≤ 1000000) : ∀ (d i k : Nat), i + d = xs.length → d < k →
    marginaliaref06_among.l0 k xs (i : Int) a b c = some (b == 0 && (xs.drop i).any fun s => c.toList == s.toList) := by
  intro d
  induction d with
  | zero =>
    intro i k hi hk
    obtain ⟨k, rfl⟩ : ∃ m, k = m + 1 := ⟨k - 1, by omega⟩
    simp only [marginaliaref06_among.l0]
    rw [if_neg (by omega), List.drop_of_length_le (by omega)]
    simp
  | succ d ih =>
    intro i k hi hk
    obtain ⟨k, rfl⟩ : ∃ m, k = m + 1 := ⟨k - 1, by omega⟩
    have hlt : i < xs.length := by omega
    have e : rdOf ByteArray.empty xs (i : Int) = xs[i] := by simp [rdOf, List.getD_eq_getElem?_getD, hlt]
    simp only [marginaliaref06_among.l0]
    rw [if_pos (by omega), wrap_next (by omega), ih (i + 1) k (by omega) (by omega), e, List.drop_eq_getElem_cons hlt, List.any_cons]
    by_cases hb : b = 0
    · rw [if_pos hb, if_pos (by omega)]
      by_cases h : c.toList = xs[i].toList <;> simp [h, hb]
    · have hb' : (b == 0) = false := beq_eq_false_iff_ne.mpr hb
      rw [if_neg hb, hb', Bool.false_and, Bool.false_and]
theorem refAmong_ev (l1 : List ByteArray) (hx : l1.length ≤ 1000000) (x : S35) : Ev (fun k => marginaliaref06_among.f k x.f0 x.f1 x.f2 l1) (namedB l1 x) :=
  Ev.of (marginaliaref06_among.mono _ _ _ _) (k := l1.length + 1) (refAmong_l0 x.f0 x.f1 x.f2 l1 hx l1.length 0 (l1.length + 1) (by omega) (by omega))
def lastN (p : S35 → Bool) (l : List S35) : Nat → Int
  | 0 => -1
  | n + 1 => if p (rd_T35 l (n : Int)) = true then (n : Int) else lastN p l n
theorem lastN_ge (p : S35 → Bool) (l : List S35) : ∀ n, -1 ≤ lastN p l n
  | 0 => by simp [lastN]
  | n + 1 => by
    unfold lastN
    split
    · omega
    · exact lastN_ge p l n
theorem lastN_lt (p : S35 → Bool) (l : List S35) : ∀ n : Nat, lastN p l n < (n : Int)
  | 0 => by simp [lastN]
  | n + 1 => by
    unfold lastN
    split
    · omega
    · have := lastN_lt p l n; omega
theorem last_l0 {P : Nat → S35 → Option Bool} {p : S35 → Bool} (l : List S35) (hl : l.length ≤ 1000000) (hP : ∀ x, Ev (fun k => P k x) (p x)) : ∀ n : Nat, n ≤ l.length →
    Ev (fun k => opens_last.l0 P k l ((n : Int) - 1)) (lastN p l n) := by
  intro n
  induction n with
  | zero =>
    intro _
    refine Ev.step (f := fun _ => some (-1)) (fun k => ?_) ⟨0, fun _ _ => rfl⟩
    simp only [opens_last.l0]
    rw [if_neg (by omega)]
    rfl
  | succ n ih =>
    intro hn
    refine Ev.step (f := fun k => (P k (rd_T35 l (n : Int))).bind fun t => if t = true then some (n : Int) else opens_last.l0 P k l ((n : Int) - 1)) (fun k => ?_) ?_
    · have e : (((n + 1 : Nat) : Int) - 1) = (n : Int) := by omega
      simp only [opens_last.l0]
      rw [e, if_pos (by omega), if_pos (by omega), if_pos (by omega), wrap_small (by omega) (by omega)]
    · refine Ev.bind (hP _) ?_
      unfold lastN
      by_cases hp : p (rd_T35 l (n : Int)) = true
      · rw [if_pos hp]; exact ⟨0, fun _ _ => if_pos hp⟩
      · rw [if_neg hp]; exact Ev.congr (fun _ => if_neg hp) (ih (by omega))
theorem last_ev {P : Nat → S35 → Option Bool} {p : S35 → Bool} (l : List S35) (hl : l.length ≤ 1000000) (hP : ∀ x, Ev (fun k => P k x) (p x)) : Ev (fun k => opens_last.f P k l) (lastN p l l.length) := by
  unfold opens_last.f
  rw [wrap_small (by omega) (by omega)]
  exact last_l0 l hl hP l.length (Nat.le_refl _)
def hasN (p e : S35 → Bool) (l : List S35) : Nat → Bool
  | 0 => false
  | n + 1 => if p (rd_T35 l (n : Int)) = true then true else if e (rd_T35 l (n : Int)) = true then false else hasN p e l n
theorem last_has (p e : S35 → Bool) (l : List S35) : ∀ n : Nat, (if 0 ≤ lastN (fun x => p x || e x) l n then p (rd_T35 l (lastN (fun x => p x || e x) l n)) else false) = hasN p e l n
  | 0 => by simp [lastN, hasN]
  | n + 1 => by
    have ih := last_has p e l n
    unfold lastN hasN
    by_cases hp : p (rd_T35 l (n : Int)) = true
    · simp [hp]
    · by_cases he : e (rd_T35 l (n : Int)) = true
      · simp [hp, he]
      · simp only [hp, he]; simpa using ih
def endB (sc : Int) (x : S35) : Bool := endsB x.f1 x.f2.data.toList sc
theorem stop_ev (l1 : List ByteArray) (hx : l1.length ≤ 1000000) (sc : Int) (x : S35) : Ev (fun k => opens_stop.p k l1 sc x) (namedB l1 x || endB sc x) := by
  unfold opens_stop.p
  exact Ev.or (named_ev l1 hx x) (ends_ev x.f0 x.f1 x.f2 sc)
theorem has_ev (l : List S35) (hl : l.length ≤ 1000000) (l1 : List ByteArray) (hx : l1.length ≤ 1000000) (sc : Int) : Ev (fun k => opens_Has.f k l l1 sc) (hasN (namedB l1) (endB sc) l l.length) := by
  rw [← last_has]
  unfold opens_Has.f
  refine Ev.bind (last_ev l hl (stop_ev l1 hx sc)) ?_
  have h2 := lastN_lt (fun x => namedB l1 x || endB sc x) l l.length
  by_cases h : 0 ≤ lastN (fun x => namedB l1 x || endB sc x) l l.length
  · rw [if_pos h]
    refine Ev.congr (fun _ => (if_pos h).trans (if_pos h2)) ?_
    exact named_ev l1 hx _
  · rw [if_neg h]
    exact ⟨0, fun _ _ => if_neg h⟩
theorem refHas_l0 (l : List S35) (hl : l.length ≤ 1000000) (l1 : List ByteArray) (hx : l1.length ≤ 1000000) (sc : Int) : ∀ n : Nat, n ≤ l.length →
    Ev (fun k => marginaliaref06_Has.l0 k l l1 sc ((n : Int) - 1)) (hasN (namedB l1) (endB sc) l n) := by
  intro n
  induction n with
  | zero =>
    intro _
    refine Ev.step (f := fun _ => some false) (fun k => ?_) ⟨0, fun _ _ => rfl⟩
    simp only [marginaliaref06_Has.l0]
    rw [if_neg (by omega)]
  | succ n ih =>
    intro hn
    have e : (((n + 1 : Nat) : Int) - 1) = (n : Int) := by omega
    refine Ev.step (f := fun k => (marginaliaref06_among.f k (rd_T35 l (n : Int)).f0 (rd_T35 l (n : Int)).f1 (rd_T35 l (n : Int)).f2 l1).bind fun t => if t = true then some true else (marginaliaref06_Ends.f k (rd_T35 l (n : Int)).f0 (rd_T35 l (n : Int)).f1 (rd_T35 l (n : Int)).f2 sc).bind fun t => if t = true then some false else marginaliaref06_Has.l0 k l l1 sc ((n : Int) - 1)) (fun k => ?_) ?_
    · simp only [marginaliaref06_Has.l0]
      rw [e, if_pos (by omega), if_pos (by omega), if_pos (by omega), wrap_small (by omega) (by omega)]
    · refine Ev.bind (refAmong_ev l1 hx _) ?_
      unfold hasN
      by_cases hp : namedB l1 (rd_T35 l (n : Int)) = true
      · rw [if_pos hp]; exact ⟨0, fun _ _ => if_pos hp⟩
      · rw [if_neg hp]
        refine Ev.congr (fun _ => if_neg hp) ?_
        refine Ev.bind (refEnds_ev _ _ _ sc) ?_
        by_cases he : endB sc (rd_T35 l (n : Int)) = true
        · rw [if_pos he]; exact ⟨0, fun _ _ => if_pos he⟩
        · rw [if_neg he]; exact Ev.congr (fun _ => if_neg he) (ih (by omega))
theorem refHas_ev (l : List S35) (hl : l.length ≤ 1000000) (l1 : List ByteArray) (hx : l1.length ≤ 1000000) (sc : Int) : Ev (fun k => marginaliaref06_Has.f k l l1 sc) (hasN (namedB l1) (endB sc) l l.length) := by
  unfold marginaliaref06_Has.f
  rw [wrap_small (by omega) (by omega)]
  exact refHas_l0 l hl l1 hx sc l.length (Nat.le_refl _)
theorem cut_ev (l : List S35) (hl : l.length ≤ 1000000) (l1 : List ByteArray) (hx : l1.length ≤ 1000000) : Ev (fun k => opens_Cut.f k l l1) (lastN (namedB l1) l l.length) := by
  unfold opens_Cut.f
  exact last_ev l hl (named_ev l1 hx)
theorem refCut_l0 (l : List S35) (hl : l.length ≤ 1000000) (l1 : List ByteArray) (hx : l1.length ≤ 1000000) : ∀ n : Nat, n ≤ l.length →
    Ev (fun k => marginaliaref06_Cut.l0 k l l1 ((n : Int) - 1)) (lastN (namedB l1) l n) := by
  intro n
  induction n with
  | zero =>
    intro _
    refine Ev.step (f := fun _ => some (-1)) (fun k => ?_) ⟨0, fun _ _ => rfl⟩
    simp only [marginaliaref06_Cut.l0]
    rw [if_neg (by omega)]
  | succ n ih =>
    intro hn
    have e : (((n + 1 : Nat) : Int) - 1) = (n : Int) := by omega
    refine Ev.step (f := fun k => (marginaliaref06_among.f k (rd_T35 l (n : Int)).f0 (rd_T35 l (n : Int)).f1 (rd_T35 l (n : Int)).f2 l1).bind fun t => if t = true then some (n : Int) else marginaliaref06_Cut.l0 k l l1 ((n : Int) - 1)) (fun k => ?_) ?_
    · simp only [marginaliaref06_Cut.l0]
      rw [e, if_pos (by omega), if_pos (by omega), if_pos (by omega), wrap_small (by omega) (by omega)]
    · refine Ev.bind (refAmong_ev l1 hx _) ?_
      unfold lastN
      by_cases hp : namedB l1 (rd_T35 l (n : Int)) = true
      · rw [if_pos hp]; exact ⟨0, fun _ _ => if_pos hp⟩
      · rw [if_neg hp]; exact Ev.congr (fun _ => if_neg hp) (ih (by omega))
theorem refCut_ev (l : List S35) (hl : l.length ≤ 1000000) (l1 : List ByteArray) (hx : l1.length ≤ 1000000) : Ev (fun k => marginaliaref06_Cut.f k l l1) (lastN (namedB l1) l l.length) := by
  unfold marginaliaref06_Cut.f
  rw [wrap_small (by omega) (by omega)]
  exact refCut_l0 l hl l1 hx l.length (Nat.le_refl _)
theorem find_ev (l : List S35) (hl : l.length ≤ 1000000) (id : Int) : Ev (fun k => opens_Find.f k l id) (lastN (fun x => x.f0 == id) l l.length) := by
  unfold opens_Find.f
  exact last_ev l hl (fun x => ⟨0, fun _ _ => rfl⟩)
theorem refFind_l0 (l : List S35) (hl : l.length ≤ 1000000) (id : Int) : ∀ n : Nat, n ≤ l.length →
    Ev (fun k => marginaliaref06_Find.l0 k l id ((n : Int) - 1)) (lastN (fun x => x.f0 == id) l n) := by
  intro n
  induction n with
  | zero =>
    intro _
    refine Ev.step (f := fun _ => some (-1)) (fun k => ?_) ⟨0, fun _ _ => rfl⟩
    simp only [marginaliaref06_Find.l0]
    rw [if_neg (by omega)]
  | succ n ih =>
    intro hn
    have e : (((n + 1 : Nat) : Int) - 1) = (n : Int) := by omega
    refine Ev.step (f := fun k => if (rd_T35 l (n : Int)).f0 = id then some (n : Int) else marginaliaref06_Find.l0 k l id ((n : Int) - 1)) (fun k => ?_) ?_
    · simp only [marginaliaref06_Find.l0]
      rw [e, if_pos (by omega), if_pos (by omega), if_pos (by omega), wrap_small (by omega) (by omega)]
    · unfold lastN
      by_cases hp : (rd_T35 l (n : Int)).f0 = id
      · rw [if_pos (beq_iff_eq.mpr hp)]; exact ⟨0, fun _ _ => if_pos hp⟩
      · rw [if_neg (by simpa using hp)]; exact Ev.congr (fun _ => if_neg hp) (ih (by omega))
theorem refFind_ev (l : List S35) (hl : l.length ≤ 1000000) (id : Int) : Ev (fun k => marginaliaref06_Find.f k l id) (lastN (fun x => x.f0 == id) l l.length) := by
  unfold marginaliaref06_Find.f
  rw [wrap_small (by omega) (by omega)]
  exact refFind_l0 l hl id l.length (Nat.le_refl _)
def goesB (ex : ByteArray) (x : S35) : Bool := x.f1 == 0 && (x.f2.toList != ex.toList && inK 8 x.f2)
theorem goes_ev (ex : ByteArray) (x : S35) : Ev (fun k => opens_goes.p k ex x) (goesB ex x) := by
  unfold opens_goes.p goesB
  by_cases h : x.f1 = 0
  · refine Ev.congr (fun _ => if_pos h) ?_
    by_cases h2 : x.f2.toList = ex.toList
    · refine Ev.congr (fun _ => if_pos h2) ?_
      exact ⟨0, fun _ _ => by simp [h2]⟩
    · refine Ev.congr (fun _ => if_neg h2) ?_
      have : (x.f1 == 0 && (x.f2.toList != ex.toList && inK 8 x.f2)) = inK 8 x.f2 := by simp [h, h2]
      rw [this]
      exact is_ev 8 x.f2
  · refine Ev.congr (fun _ => if_neg h) ?_
    exact ⟨0, fun _ _ => by simp [h]⟩
theorem stays_ev (ex : ByteArray) (x : S35) : Ev (fun k => opens_stays.p k ex x) (!goesB ex x) := by
  unfold opens_stays.p
  exact Ev.bind (goes_ev ex x) ⟨0, fun _ _ => rfl⟩
def leftN (ex : ByteArray) (l : List S35) : Int := 1 + lastN (fun x => !goesB ex x) l l.length
theorem implied_ev (l : List S35) (hl : l.length ≤ 1000000) (ex : ByteArray) : Ev (fun k => opens_Implied.f k l ex) (leftN ex l) := by
  unfold opens_Implied.f leftN
  refine Ev.bind (last_ev l hl (stays_ev ex)) ⟨0, fun _ _ => ?_⟩
  have h1 := lastN_ge (fun x => !goesB ex x) l l.length
  have h2 := lastN_lt (fun x => !goesB ex x) l l.length
  rw [wrap_small (by omega) (by omega)]
theorem refImplied_l0 (l : List S35) (hl : l.length ≤ 1000000) (ex : ByteArray) : ∀ n : Nat, n ≤ l.length →
    Ev (fun k => marginaliaref06_Implied.l0 k l ex (n : Int)) (1 + lastN (fun x => !goesB ex x) l n) := by
  intro n
  induction n with
  | zero =>
    intro _
    refine Ev.step (f := fun _ => some 0) (fun k => ?_) ⟨0, fun _ _ => rfl⟩
    simp only [marginaliaref06_Implied.l0]
    rw [if_neg (by omega)]
    rfl
  | succ n ih =>
    intro hn
    have e : wrap64 (((n + 1 : Nat) : Int) - 1) = (n : Int) := by rw [wrap_small (by omega) (by omega)]; omega
    refine Ev.step (f := fun k => if (rd_T35 l (n : Int)).f1 = 0 then ((marginaliaref02_Is.f k 8 ((rd_T35 l (n : Int)).f2)).bind fun t => (if t = true then (if ((rd_T35 l (n : Int)).f2).toList = ex.toList then (some ((n + 1 : Nat) : Int)) else (marginaliaref06_Implied.l0 k l ex (n : Int))) else (some ((n + 1 : Nat) : Int)))) else some ((n + 1 : Nat) : Int)) (fun k => ?_) ?_
    · simp only [marginaliaref06_Implied.l0]
      rw [e, if_pos (by omega), if_pos (by omega), if_pos (by omega)]
    · unfold lastN goesB
      by_cases h : (rd_T35 l (n : Int)).f1 = 0
      · refine Ev.congr (fun _ => if_pos h) ?_
        refine Ev.bind (refIs_ev 8 _) ?_
        by_cases hk : inK 8 (rd_T35 l (n : Int)).f2 = true
        · refine Ev.congr (fun _ => if_pos hk) ?_
          by_cases hx : (rd_T35 l (n : Int)).f2.toList = ex.toList
          · refine Ev.congr (fun _ => if_pos hx) ?_
            exact ⟨0, fun _ _ => by simp [hx]; omega⟩
          · refine Ev.congr (fun _ => if_neg hx) ?_
            have := ih (by omega)
            unfold goesB at this
            simpa [h, hk, hx] using this
        · refine Ev.congr (fun _ => if_neg hk) ?_
          exact ⟨0, fun _ _ => by simp [hk]; omega⟩
      · refine Ev.congr (fun _ => if_neg h) ?_
        exact ⟨0, fun _ _ => by simp [h]; omega⟩
theorem refImplied_ev (l : List S35) (hl : l.length ≤ 1000000) (ex : ByteArray) : Ev (fun k => marginaliaref06_Implied.f k l ex) (leftN ex l) := by
  unfold marginaliaref06_Implied.f leftN
  exact refImplied_l0 l hl ex l.length (Nat.le_refl _)
theorem oalive_ev : Ev (fun k => marginalialaw06_alive.f k) true := Ev.of (marginalialaw06_alive.mono) (k := 60) (by decide +kernel)
theorem small_is (l : List S35) (l1 : List ByteArray) : marginalialaw06_small.f l l1 = some (decide (l.length ≤ 60 ∧ l1.length ≤ 60)) := by
  unfold marginalialaw06_small.f
  by_cases h : (l.length : Int) ≤ 60
  · rw [if_pos h]
    have h' : l.length ≤ 60 := by omega
    simp [h']; omega
  · rw [if_neg h]
    have h' : ¬ l.length ≤ 60 := by omega
    simp [h']
theorem small_or {l : List S35} {l1 : List ByteArray} {F : Nat → Option Bool} (h : l.length ≤ 60 → l1.length ≤ 60 → Ev F true) :
    Ev (fun k => (marginalialaw06_small.f l l1).bind fun t => if t = true then F k else (marginalialaw06_alive.f k).bind fun t => some t) true := by
  rw [small_is]
  by_cases hs : l.length ≤ 60 ∧ l1.length ≤ 60
  · refine Ev.congr (fun _ => ?_) (h hs.1 hs.2)
    simp [hs]
  · refine Ev.congr (f := fun k => (marginalialaw06_alive.f k).bind fun t => some t) (fun _ => ?_) (Ev.pass oalive_ev)
    simp only [hs, decide_false, Option.bind_some]
    rfl
end Go.Proofs.Ytobdmbebgdkelaa.Pure
