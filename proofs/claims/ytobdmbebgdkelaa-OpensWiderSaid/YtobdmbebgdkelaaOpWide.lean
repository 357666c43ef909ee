import Derived.Test.YtobdmbebgdkelaaPAllx0
import Derived.Test.YtobdmbebgdkelaaPAllx2
import Derived.Test.YtobdmbebgdkelaaPAllx3
import Derived.Test.YtobdmbebgdkelaaPAllx4
import Derived.Test.YtobdmbebgdkelaaPAllx5
import Derived.Test.YtobdmbebgdkelaaPAllx6
import Derived.Test.YtobdmbebgdkelaaPAllx9
import Derived.Test.YtobdmbebgdkelaaKindSpec
namespace Go.Proofs.Ytobdmbebgdkelaa.Pure
open Go.RowKit Go.Proofs.Ytobdmbebgdkelaa.PAll Go.Proofs.YtobdmbebgdkelaaW.PrintWords Go.Proofs.YtobdmbebgdkelaaW.PrintLast
set_option linter.unusedSimpArgs false

def w_svg : List (List UInt8) := [[102, 111, 114, 101, 105, 103, 110, 111, 98, 106, 101, 99, 116], [100, 101, 115, 99], [116, 105, 116, 108, 101]]
def w_math : List (List UInt8) := [[109, 105], [109, 111], [109, 110], [109, 115], [109, 116, 101, 120, 116]]
def w_ends : List (List UInt8) := [[104, 116, 109, 108], [116, 97, 98, 108, 101], [116, 101, 109, 112, 108, 97, 116, 101]]
def w_tab : List (List UInt8) := [[97, 112, 112, 108, 101, 116], [99, 97, 112, 116, 105, 111, 110], [109, 97, 114, 113, 117, 101, 101], [111, 98, 106, 101, 99, 116], [116, 100], [116, 104]]
def w_lst : List (List UInt8) := [[111, 108], [117, 108]]
def pointB (sp : Int) (n : List UInt8) : Bool := if sp = 1 then w_svg.contains n else if sp = 2 then w_math.contains n else false
def endsB (sp : Int) (n : List UInt8) (sc : Int) : Bool :=
  if sp = 0 then (if w_ends.contains n then true else if w_tab.contains n then sc != 4 else if w_lst.contains n then sc == 2 else if n = [98, 117, 116, 116, 111, 110] then sc == 3 else false) else (sc != 4 && pointB sp n)
theorem ite_some_or {p : Prop} [Decidable p] {c : Bool} : (if p then some true else some c) = some (decide p || c) := by by_cases h : p <;> simp [h]
theorem beq_dec {a b : List UInt8} : (a == b) = decide (a = b) := by by_cases h : a = b <;> simp [h]
theorem point_is (i sp : Int) (s : ByteArray) : opens_Point.f i sp s = some (pointB sp s.data.toList) := by
  unfold opens_Point.f pointB
  simp only [bytes_data]
  generalize s.data.toList = n
  by_cases h1 : sp = 1
  · rw [if_pos h1, if_pos h1]; simp only [ite_some_or, w_svg, List.contains_cons, List.contains_nil, Bool.or_false, beq_dec]
  · rw [if_neg h1, if_neg h1]
    by_cases h2 : sp = 2
    · rw [if_pos h2, if_pos h2]; simp only [ite_some_or, w_math, List.contains_cons, List.contains_nil, Bool.or_false, beq_dec]
    · rw [if_neg h2, if_neg h2]
theorem ends_ev (i sp : Int) (s : ByteArray) (sc : Int) : Ev (fun k => opens_Ends.f k i sp s sc) (endsB sp s.data.toList sc) := by
  refine ⟨3, fun k hk => ?_⟩
  obtain ⟨k, rfl⟩ : ∃ m, k = m + 3 := ⟨k - 3, by omega⟩
  unfold opens_Ends.f endsB
  rw [point_is]
  dsimp only
  by_cases h0 : sp = 0
  · rw [if_pos h0, if_pos h0]
    simp only [opens_Ends.j0, opens_Ends.j1, opens_Ends.j2, bytes_data]
    generalize s.data.toList = n
    clear h0
    by_cases h0 : n = [104, 116, 109, 108]
    · subst h0; simp [w_ends, w_tab, w_lst] <;> (cases Decidable.em (sc = 4) <;> cases Decidable.em (sc = 2) <;> cases Decidable.em (sc = 3) <;> simp [*])
    by_cases h1 : n = [116, 97, 98, 108, 101]
    · subst h1; simp [w_ends, w_tab, w_lst] <;> (cases Decidable.em (sc = 4) <;> cases Decidable.em (sc = 2) <;> cases Decidable.em (sc = 3) <;> simp [*])
    by_cases h2 : n = [116, 101, 109, 112, 108, 97, 116, 101]
    · subst h2; simp [w_ends, w_tab, w_lst] <;> (cases Decidable.em (sc = 4) <;> cases Decidable.em (sc = 2) <;> cases Decidable.em (sc = 3) <;> simp [*])
    by_cases h3 : n = [97, 112, 112, 108, 101, 116]
    · subst h3; simp [w_ends, w_tab, w_lst] <;> (cases Decidable.em (sc = 4) <;> cases Decidable.em (sc = 2) <;> cases Decidable.em (sc = 3) <;> simp [*])
    by_cases h4 : n = [99, 97, 112, 116, 105, 111, 110]
    · subst h4; simp [w_ends, w_tab, w_lst] <;> (cases Decidable.em (sc = 4) <;> cases Decidable.em (sc = 2) <;> cases Decidable.em (sc = 3) <;> simp [*])
    by_cases h5 : n = [109, 97, 114, 113, 117, 101, 101]
    · subst h5; simp [w_ends, w_tab, w_lst] <;> (cases Decidable.em (sc = 4) <;> cases Decidable.em (sc = 2) <;> cases Decidable.em (sc = 3) <;> simp [*])
    by_cases h6 : n = [111, 98, 106, 101, 99, 116]
    · subst h6; simp [w_ends, w_tab, w_lst] <;> (cases Decidable.em (sc = 4) <;> cases Decidable.em (sc = 2) <;> cases Decidable.em (sc = 3) <;> simp [*])
    by_cases h7 : n = [116, 100]
    · subst h7; simp [w_ends, w_tab, w_lst] <;> (cases Decidable.em (sc = 4) <;> cases Decidable.em (sc = 2) <;> cases Decidable.em (sc = 3) <;> simp [*])
    by_cases h8 : n = [116, 104]
    · subst h8; simp [w_ends, w_tab, w_lst] <;> (cases Decidable.em (sc = 4) <;> cases Decidable.em (sc = 2) <;> cases Decidable.em (sc = 3) <;> simp [*])
    by_cases h9 : n = [111, 108]
    · subst h9; simp [w_ends, w_tab, w_lst] <;> (cases Decidable.em (sc = 4) <;> cases Decidable.em (sc = 2) <;> cases Decidable.em (sc = 3) <;> simp [*])
    by_cases h10 : n = [117, 108]
    · subst h10; simp [w_ends, w_tab, w_lst] <;> (cases Decidable.em (sc = 4) <;> cases Decidable.em (sc = 2) <;> cases Decidable.em (sc = 3) <;> simp [*])
    by_cases h11 : n = [98, 117, 116, 116, 111, 110]
    · subst h11; simp [w_ends, w_tab, w_lst] <;> (cases Decidable.em (sc = 4) <;> cases Decidable.em (sc = 2) <;> cases Decidable.em (sc = 3) <;> simp [*])
    simp [w_ends, w_tab, w_lst, h0, h1, h2, h3, h4, h5, h6, h7, h8, h9, h10, h11]
  · rw [if_neg h0, if_neg h0]
    by_cases h4 : sc = 4
    · rw [if_pos h4]; subst h4; rfl
    · rw [if_neg h4]; simp [h4]
theorem wrap_small {x : Int} (h1 : -1000000000 ≤ x) (h2 : x ≤ 1000000000) : wrap64 x = x := by unfold wrap64; omega
def namedB (l1 : List ByteArray) (x : S35) : Bool := x.f1 == 0 && l1.any fun s => x.f2.toList == s.toList
theorem index_l0 (a : ByteArray) (xs : List ByteArray) (hx : xs.length ≤ 1000000) : ∀ (d i k : Nat), i + d = xs.length → d < k →
    ∃ t, slices_Index_string_string.l0 k xs a (xs.length : Int) (i : Int) = some t ∧ decide (t ≥ 0) = (xs.drop i).any fun s => a.toList == s.toList := by
  intro d
  induction d with
  | zero =>
    intro i k hi hk
    obtain ⟨k, rfl⟩ : ∃ m, k = m + 1 := ⟨k - 1, by omega⟩
    refine ⟨-1, ?_, ?_⟩
    · simp only [slices_Index_string_string.l0]
      rw [if_neg (by omega)]
    · rw [List.drop_of_length_le (by omega)]; rfl
  | succ d ih =>
    intro i k hi hk
    obtain ⟨k, rfl⟩ : ∃ m, k = m + 1 := ⟨k - 1, by omega⟩
    have hlt : i < xs.length := by omega
    have e : rdOf ByteArray.empty xs (i : Int) = xs[i] := by simp [rdOf, List.getD_eq_getElem?_getD, hlt]
    simp only [slices_Index_string_string.l0]
    rw [if_pos (by omega), if_pos (by omega), if_pos (by omega), wrap_next (by omega), e, List.drop_eq_getElem_cons hlt, List.any_cons]
    by_cases h : a.toList = xs[i].toList
    · rw [if_pos h]
      exact ⟨_, rfl, by simp [h]⟩
    · rw [if_neg h]
      obtain ⟨t, h1, h2⟩ := ih (i + 1) k (by omega) (by omega)
      exact ⟨t, h1, by rw [h2]; simp [h]⟩
theorem named_ev (l1 : List ByteArray) (hx : l1.length ≤ 1000000) (x : S35) : Ev (fun k => opens_named.p k l1 x) (namedB l1 x) := by
  unfold opens_named.p namedB
  by_cases h : x.f1 = 0
  · refine Ev.congr (fun _ => if_pos h) ?_
    obtain ⟨t, h1, h2⟩ := index_l0 x.f2 l1 hx l1.length 0 (l1.length + 1) (by omega) (by omega)
    have : Ev (fun k => slices_Index_string_string.f k l1 x.f2) t := Ev.of (slices_Index_string_string.mono l1 x.f2) (k := l1.length + 1) h1
    unfold slices_Contains_string_string.f
    refine Ev.bind this ?_
    refine ⟨0, fun _ _ => ?_⟩
    rw [h2, h]
    simp
  · refine Ev.congr (fun _ => if_neg h) ?_
    exact ⟨0, fun _ _ => by simp [h]⟩
def lastN (p : S35 → Bool) (l : List S35) : Nat → Int
  | 0 => -1
  | n + 1 => if p (rd_T35 l (n : Int)) = true then (n : Int) else lastN p l n
theorem lastN_ge (p : S35 → Bool) (l : List S35) : ∀ n, -1 ≤ lastN p l n
  | 0 => by simp [lastN]
  | n + 1 => by
    unfold lastN
    split
    · omega
    · exact lastN_ge p l n
theorem lastN_lt (p : S35 → Bool) (l : List S35) : ∀ n : Nat, lastN p l n < (n : Int)
  | 0 => by simp [lastN]
  | n + 1 => by
    unfold lastN
    split
    · omega
    · have := lastN_lt p l n; omega
theorem last_l0 {P : Nat → S35 → Option Bool} {p : S35 → Bool} (l : List S35) (hl : l.length ≤ 1000000) (hP : ∀ x, Ev (fun k => P k x) (p x)) : ∀ n : Nat, n ≤ l.length →
    Ev (fun k => opens_last.l0 P k l ((n : Int) - 1)) (lastN p l n) := by
  intro n
  induction n with
  | zero =>
    intro _
    refine Ev.step (f := fun _ => some (-1)) (fun k => ?_) ⟨0, fun _ _ => rfl⟩
    simp only [opens_last.l0]
    rw [if_neg (by omega)]
    rfl
  | succ n ih =>
    intro hn
    refine Ev.step (f := fun k => (P k (rd_T35 l (n : Int))).bind fun t => if t = true then some (n : Int) else opens_last.l0 P k l ((n : Int) - 1)) (fun k => ?_) ?_
    · have e : (((n + 1 : Nat) : Int) - 1) = (n : Int) := by omega
      simp only [opens_last.l0]
      rw [e, if_pos (by omega), if_pos (by omega), if_pos (by omega), wrap_small (by omega) (by omega)]
    · refine Ev.bind (hP _) ?_
      unfold lastN
      by_cases hp : p (rd_T35 l (n : Int)) = true
      · rw [if_pos hp]; exact ⟨0, fun _ _ => if_pos hp⟩
      · rw [if_neg hp]; exact Ev.congr (fun _ => if_neg hp) (ih (by omega))
theorem last_ev {P : Nat → S35 → Option Bool} {p : S35 → Bool} (l : List S35) (hl : l.length ≤ 1000000) (hP : ∀ x, Ev (fun k => P k x) (p x)) : Ev (fun k => opens_last.f P k l) (lastN p l l.length) := by
  unfold opens_last.f
  rw [wrap_small (by omega) (by omega)]
  exact last_l0 l hl hP l.length (Nat.le_refl _)
def hasN (p e : S35 → Bool) (l : List S35) : Nat → Bool
  | 0 => false
  | n + 1 => if p (rd_T35 l (n : Int)) = true then true else if e (rd_T35 l (n : Int)) = true then false else hasN p e l n
theorem last_has (p e : S35 → Bool) (l : List S35) : ∀ n : Nat, (if 0 ≤ lastN (fun x => p x || e x) l n then p (rd_T35 l (lastN (fun x => p x || e x) l n)) else false) = hasN p e l n
  | 0 => by simp [lastN, hasN]
  | n + 1 => by
    have ih := last_has p e l n
    unfold lastN hasN
    by_cases hp : p (rd_T35 l (n : Int)) = true
    · simp [hp]
    · by_cases he : e (rd_T35 l (n : Int)) = true
      · simp [hp, he]
      · simp only [hp, he]; simpa using ih
def endB (sc : Int) (x : S35) : Bool := endsB x.f1 x.f2.data.toList sc
theorem stop_ev (l1 : List ByteArray) (hx : l1.length ≤ 1000000) (sc : Int) (x : S35) : Ev (fun k => opens_stop.p k l1 sc x) (namedB l1 x || endB sc x) := by
  unfold opens_stop.p
  exact Ev.or (named_ev l1 hx x) (ends_ev x.f0 x.f1 x.f2 sc)
theorem has_ev (l : List S35) (hl : l.length ≤ 1000000) (l1 : List ByteArray) (hx : l1.length ≤ 1000000) (sc : Int) : Ev (fun k => opens_Has.f k l l1 sc) (hasN (namedB l1) (endB sc) l l.length) := by
  rw [← last_has]
  unfold opens_Has.f
  refine Ev.bind (last_ev l hl (stop_ev l1 hx sc)) ?_
  have h2 := lastN_lt (fun x => namedB l1 x || endB sc x) l l.length
  by_cases h : 0 ≤ lastN (fun x => namedB l1 x || endB sc x) l l.length
  · rw [if_pos h]
    refine Ev.congr (fun _ => (if_pos h).trans (if_pos h2)) ?_
    exact named_ev l1 hx _
  · rw [if_neg h]
    exact ⟨0, fun _ _ => if_neg h⟩
theorem cut_ev (l : List S35) (hl : l.length ≤ 1000000) (l1 : List ByteArray) (hx : l1.length ≤ 1000000) : Ev (fun k => opens_Cut.f k l l1) (lastN (namedB l1) l l.length) := by
  unfold opens_Cut.f
  exact last_ev l hl (named_ev l1 hx)
theorem oalive_ev : Ev (fun k => marginalialaw06_alive.f k) true := Ev.of (marginalialaw06_alive.mono) (k := 60) (by decide +kernel)
theorem small_is (l : List S35) (l1 : List ByteArray) : marginalialaw06_small.f l l1 = some (decide (l.length ≤ 60 ∧ l1.length ≤ 60)) := by
  unfold marginalialaw06_small.f
  by_cases h : (l.length : Int) ≤ 60
  · rw [if_pos h]
    have h' : l.length ≤ 60 := by omega
    simp [h']; omega
  · rw [if_neg h]
    have h' : ¬ l.length ≤ 60 := by omega
    simp [h']
theorem small_or {l : List S35} {l1 : List ByteArray} {F : Nat → Option Bool} (h : l.length ≤ 60 → l1.length ≤ 60 → Ev F true) :
    Ev (fun k => (marginalialaw06_small.f l l1).bind fun t => if t = true then F k else (marginalialaw06_alive.f k).bind fun t => some t) true := by
  rw [small_is]
  by_cases hs : l.length ≤ 60 ∧ l1.length ≤ 60
  · refine Ev.congr (fun _ => ?_) (h hs.1 hs.2)
    simp [hs]
  · refine Ev.congr (f := fun k => (marginalialaw06_alive.f k).bind fun t => some t) (fun _ => ?_) (Ev.pass oalive_ev)
    simp only [hs, decide_false, Option.bind_some]
    rfl
theorem hasN_cut (p e : S35 → Bool) (l : List S35) : ∀ n : Nat, hasN p e l n = true → 0 ≤ lastN p l n
  | 0 => fun h => by simp [hasN] at h
  | n + 1 => fun h => by
    unfold hasN at h
    unfold lastN
    by_cases hp : p (rd_T35 l (n : Int)) = true
    · rw [if_pos hp]; omega
    · rw [if_neg hp] at h ⊢
      by_cases he : e (rd_T35 l (n : Int)) = true
      · rw [if_pos he] at h; exact absurd h (by decide)
      · rw [if_neg he] at h; exact hasN_cut p e l n h
theorem hasN_wider (p e e' : S35 → Bool) (h : ∀ x, e x = true → e' x = true) (l : List S35) : ∀ n : Nat, hasN p e' l n = true → hasN p e l n = true
  | 0 => fun h => by simp [hasN] at h
  | n + 1 => fun hh => by
    unfold hasN at hh ⊢
    by_cases hp : p (rd_T35 l (n : Int)) = true
    · rw [if_pos hp]
    · rw [if_neg hp] at hh ⊢
      by_cases he : e' (rd_T35 l (n : Int)) = true
      · rw [if_pos he] at hh; exact absurd hh (by decide)
      · rw [if_neg he] at hh
        rw [if_neg (fun x => he (h _ x))]
        exact hasN_wider p e e' h l n hh
theorem endB_one (x : S35) (sc : Int) (h4 : sc ≠ 4) (h : endB 1 x = true) : endB sc x = true := by
  unfold endB endsB at h ⊢
  by_cases h0 : x.f1 = 0
  · rw [if_pos h0] at h ⊢
    by_cases ha : w_ends.contains x.f2.data.toList = true
    · rw [if_pos ha]
    · rw [if_neg ha] at h ⊢
      by_cases hd : w_tab.contains x.f2.data.toList = true
      · rw [if_pos hd]; simp [h4]
      · rw [if_neg hd] at h
        exfalso
        by_cases hl : w_lst.contains x.f2.data.toList = true
        · rw [if_pos hl] at h; exact absurd h (by decide)
        · rw [if_neg hl] at h
          split at h
          · exact absurd h (by decide)
          · exact absurd h (by decide)
  · rw [if_neg h0] at h ⊢
    simp only [Bool.and_eq_true] at h ⊢
    exact ⟨by simp [h4], h.2⟩
end Go.Proofs.Ytobdmbebgdkelaa.Pure
