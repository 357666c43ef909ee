import Derived.Test.YtckajljkdlejoaaDoorPAllx0
import Derived.Test.YtckajljkdlejoaaDoorPAllx1
import Derived.Test.YtckajljkdlejoaaDoorPAllx11
import Derived.Test.YtckajljkdlejoaaDoorPAllx2
import Derived.Test.YtckajljkdlejoaaDoorPAllx4
import Derived.Test.YtckajljkdlejoaaDoorPAllx6
import Derived.Test.YtckajljkdlejoaaDoorPAllx7
import Derived.Test.YtckajljkdlejoaaDoorPAllx9
import Derived.Test.YtckajljkdlejoaaDoorInLaws
namespace Go.Proofs.YtckajljkdlejoaaDoor.Pure
open Go.RowKit Go.Proofs.YtckajljkdlejoaaDoor.PAll Go.Proofs.YtckajljkdlejoaaDoorW.PrintWords Go.Proofs.YtckajljkdlejoaaDoorW.PrintLast

/-! What the reference's functions come to. -/
theorem wrapN {i : Nat} (h : i < 9223372036854775808) : wrap64 (i : Int) = (i : Int) := by unfold wrap64; omega
theorem wrap_next {i : Nat} (h : i < 9223372036854775807) : wrap64 ((i : Int) + 1) = ((i + 1 : Nat) : Int) := by unfold wrap64; omega
theorem wrap_add {i n : Nat} (h : i + n < 9223372036854775807) : wrap64 ((i : Int) + (n : Int)) = ((i + n : Nat) : Int) := by unfold wrap64; omega
theorem in_app (a b : ByteArray) : (a ++ b).data.toList = a.data.toList ++ b.data.toList := by simp
theorem long_f (c : UInt8) : marginaliaref01_long.f 8 (c.toNat : Int) = some (if c.toNat < 128 then 1 else if (inLead c).1 = 1 then 0 else ((inLead c).1 : Int)) := by
  revert c
  apply in_u8_all
  decide +kernel
theorem fits_one (c d : UInt8) (h : (inLead c).1 ≠ 1) : marginaliaref01_fits.f (c.toNat : Int) 1 (d.toNat : Int) = some (decide ((inLead c).2.1 ≤ d.toNat ∧ d.toNat ≤ (inLead c).2.2)) := by
  have key : ∀ lo hi : Nat, (if (d.toNat : Int) ≥ (lo : Int) then some (decide ((d.toNat : Int) ≤ (hi : Int))) else some false) = some (decide (lo ≤ d.toNat ∧ d.toNat ≤ hi)) := by
    intro lo hi
    by_cases h1 : lo ≤ d.toNat
    · rw [if_pos (by omega)]
      congr 1
      rw [decide_eq_decide]
      omega
    · rw [if_neg (by omega), decide_eq_false (by omega)]
  unfold marginaliaref01_fits.f
  rw [if_pos rfl]
  rcases inLead_spec c with ⟨e, _⟩ | ⟨e, h1, h2⟩ | ⟨e, h1⟩ | ⟨e, h1⟩ | ⟨e, h1, h2, h3⟩ | ⟨e, h1⟩ | ⟨e, h1, h2⟩ | ⟨e, h1⟩
  · exact absurd e h
  · rw [e, if_neg (by omega), if_neg (by omega), if_neg (by omega), if_neg (by omega)]; exact key 128 191
  · rw [e, if_pos (by omega)]; exact key 160 191
  · rw [e, if_neg (by omega), if_pos (by omega)]; exact key 128 159
  · rw [e, if_neg (by omega), if_neg (by omega), if_neg (by omega), if_neg (by omega)]; exact key 128 191
  · rw [e, if_neg (by omega), if_neg (by omega), if_pos (by omega)]; exact key 144 191
  · rw [e, if_neg (by omega), if_neg (by omega), if_neg (by omega), if_neg (by omega)]; exact key 128 191
  · rw [e, if_neg (by omega), if_neg (by omega), if_neg (by omega), if_pos (by omega)]; exact key 128 143
theorem fits_more (c d : UInt8) (k : Nat) (h : k ≠ 1) : marginaliaref01_fits.f (c.toNat : Int) (k : Int) (d.toNat : Int) = some (decide (128 ≤ d.toNat ∧ d.toNat ≤ 191)) := by
  unfold marginaliaref01_fits.f
  rw [if_neg (by omega)]
  by_cases h1 : 128 ≤ d.toNat
  · rw [if_pos (by omega)]
    congr 1
    rw [decide_eq_decide]
    omega
  · rw [if_neg (by omega), decide_eq_false (by omega)]
theorem drop_cons (s : ByteArray) (i : Nat) (h : i < s.size) : ∃ c r, s.data.toList.drop i = c :: r ∧ s.data.toList[i]? = some c := by
  have h' : i < s.data.toList.length := by rw [in_data_len]; exact h
  exact ⟨_, _, List.drop_eq_getElem_cons h', List.getElem?_eq_getElem h'⟩
theorem rp_step (s : ByteArray) (hs : s.size ≤ 1000000) (m i n k : Nat) (c : UInt8) (hi : i < s.size) (hc : s.data.toList[i]? = some c) (hl : (inLead c).1 ≠ 1) (hk : 1 ≤ k) (hk2 : k < 100) :
    marginaliaref01_Piece.l0 (m + 1) s (i : Int) (n : Int) (k : Int) =
      if k < n then (if inIn (s.data.toList.drop i) k (if k = 1 then (inLead c).2.1 else 128) (if k = 1 then (inLead c).2.2 else 191) = true then marginaliaref01_Piece.l0 m s (i : Int) (n : Int) ((k + 1 : Nat) : Int) else some ((k : Int), false)) else some ((k : Int), (k : Int) == (n : Int)) := by
  simp only [marginaliaref01_Piece.l0]
  rw [wrap_add (by omega), wrap_next (by omega)]
  by_cases h1 : k < n
  · rw [if_pos (by omega), if_pos h1]
    have hb : ((k : Int) == (n : Int)) = false := by rw [beq_eq_false_iff_ne]; omega
    by_cases h2 : i + k < s.size
    · have hg : s.data.toList[i + k]? = some (s.data.toList[i + k]'(by rw [in_data_len]; exact h2)) := List.getElem?_eq_getElem _
      generalize s.data.toList[i + k]'(by rw [in_data_len]; exact h2) = d at hg
      have hg2 : (s.data.toList.drop i)[k]? = some d := by rw [List.getElem?_drop]; exact hg
      rw [if_pos (by omega), if_pos (by omega), if_pos (by omega), if_pos (by omega), in_bt_get s i c hc, in_bt_get s (i + k) d hg, hb]
      unfold inIn
      rw [hg2]
      simp only [decide_eq_true_eq]
      by_cases h3 : k = 1
      · subst h3
        rw [show ((1 : Nat) : Int) = 1 from rfl, fits_one c d hl]
        simp only [Option.bind_some, decide_eq_true_eq, if_true]
      · rw [fits_more c d k h3]
        simp only [Option.bind_some, decide_eq_true_eq, if_neg h3]
    · have hg2 : (s.data.toList.drop i)[k]? = none := List.getElem?_eq_none_iff.2 (by rw [List.length_drop, in_data_len]; omega)
      rw [if_neg (by omega), hb]
      unfold inIn
      rw [hg2]
      rfl
  · rw [if_neg (by omega), if_neg h1]
theorem rpiece_f (s : ByteArray) (hs : s.size ≤ 1000000) (i : Nat) (hi : i < s.size) : marginaliaref01_Piece.f 8 s (i : Int) = some (((inPc (s.data.toList.drop i)).1 : Int), (inPc (s.data.toList.drop i)).2) := by
  obtain ⟨c, r, hd, hc⟩ := drop_cons s i hi
  unfold marginaliaref01_Piece.f
  rw [if_pos (by omega), if_pos (by omega), in_bt_get s i c hc, long_f]
  simp only [Option.bind_some]
  have l1 := rp_step s hs 7 i (inLead c).1 1 c hi hc
  have l2 := rp_step s hs 6 i (inLead c).1 2 c hi hc
  have l3 := rp_step s hs 5 i (inLead c).1 3 c hi hc
  have l4 := rp_step s hs 4 i (inLead c).1 4 c hi hc
  rw [hd] at l1 l2 l3 l4 ⊢
  have hlow := inLead_low c
  have hl1 := inLead_cases c
  rcases inPc_cases c r with ⟨a, e⟩ | ⟨a, h1, e⟩ | ⟨a, h1, e⟩ | ⟨a, h1, h2, e⟩ | ⟨a, h1, h2, e⟩ | ⟨a, h1, h2, h3, e⟩ | ⟨a, h1, h2, h3, e⟩ <;> rw [e]
  · by_cases h : c.toNat < 128
    · rw [if_pos h, if_neg (by decide), decide_eq_true h]
      simp only [marginaliaref01_Piece.l0]
      rw [if_neg (by decide)]
      rfl
    · rw [if_neg h, if_pos a, if_pos rfl, decide_eq_false h]
      rfl
  · have hq := hlow a
    rw [if_neg (by omega), if_neg a, if_neg (by omega)]
    refine (l1 a (by omega) (by omega)).trans ?_
    rw [if_pos rfl, if_pos rfl, h1, if_pos (by have := inLead_cases c; omega), if_neg (by simp)]
  · have hq := hlow (by omega)
    rw [if_neg (by omega), if_neg (by omega), if_neg (by omega)]
    refine (l1 (by omega) (by omega) (by omega)).trans ?_
    rw [if_pos rfl, if_pos rfl, h1, if_pos (by omega), if_pos rfl]
    refine (l2 (by omega) (by omega) (by omega)).trans ?_
    rw [if_neg (by omega), a]
    rfl
  · have hq := hlow (by omega)
    rw [if_neg (by omega), if_neg (by omega), if_neg (by omega)]
    refine (l1 (by omega) (by omega) (by omega)).trans ?_
    rw [if_pos rfl, if_pos rfl, h1, if_pos (by omega), if_pos rfl]
    refine (l2 (by omega) (by omega) (by omega)).trans ?_
    rw [if_neg (show ¬ (2 : Nat) = 1 by decide), if_neg (show ¬ (2 : Nat) = 1 by decide), h2, if_pos (by omega), if_neg (by simp)]
  · have hq := hlow (by omega)
    rw [if_neg (by omega), if_neg (by omega), if_neg (by omega)]
    refine (l1 (by omega) (by omega) (by omega)).trans ?_
    rw [if_pos rfl, if_pos rfl, h1, if_pos (by omega), if_pos rfl]
    refine (l2 (by omega) (by omega) (by omega)).trans ?_
    rw [if_neg (show ¬ (2 : Nat) = 1 by decide), if_neg (show ¬ (2 : Nat) = 1 by decide), h2, if_pos (by omega), if_pos rfl]
    refine (l3 (by omega) (by omega) (by omega)).trans ?_
    rw [if_neg (show ¬ 3 < (inLead c).1 by omega), a]
    rfl
  · have hq := hlow (by omega)
    rw [if_neg (by omega), if_neg (by omega), if_neg (by omega)]
    refine (l1 (by omega) (by omega) (by omega)).trans ?_
    rw [if_pos rfl, if_pos rfl, h1, if_pos (by omega), if_pos rfl]
    refine (l2 (by omega) (by omega) (by omega)).trans ?_
    rw [if_neg (show ¬ (2 : Nat) = 1 by decide), if_neg (show ¬ (2 : Nat) = 1 by decide), h2, if_pos (by omega), if_pos rfl]
    refine (l3 (by omega) (by omega) (by omega)).trans ?_
    rw [if_neg (show ¬ (3 : Nat) = 1 by decide), if_neg (show ¬ (3 : Nat) = 1 by decide), h3, if_pos (by omega), if_neg (by simp)]
  · have hq := hlow (by omega)
    rw [if_neg (by omega), if_neg (by omega), if_neg (by omega)]
    refine (l1 (by omega) (by omega) (by omega)).trans ?_
    rw [if_pos rfl, if_pos rfl, h1, if_pos (by omega), if_pos rfl]
    refine (l2 (by omega) (by omega) (by omega)).trans ?_
    rw [if_neg (show ¬ (2 : Nat) = 1 by decide), if_neg (show ¬ (2 : Nat) = 1 by decide), h2, if_pos (by omega), if_pos rfl]
    refine (l3 (by omega) (by omega) (by omega)).trans ?_
    rw [if_neg (show ¬ (3 : Nat) = 1 by decide), if_neg (show ¬ (3 : Nat) = 1 by decide), h3, if_pos (by omega), if_pos rfl]
    refine (l4 (by omega) (by omega) (by omega)).trans ?_
    rw [if_neg (show ¬ 4 < (inLead c).1 by omega), a]
    rfl
theorem rpiece_ev (s : ByteArray) (hs : s.size ≤ 1000000) (i : Nat) (hi : i < s.size) : Ev (fun k => marginaliaref01_Piece.f k s (i : Int)) (((inPc (s.data.toList.drop i)).1 : Int), (inPc (s.data.toList.drop i)).2) :=
  Ev.of (marginaliaref01_Piece.mono s (i : Int)) (rpiece_f s hs i hi)
/-- A place further on in a text. -/
theorem at_piece (s : ByteArray) (i : Nat) (hi : i < s.size) : 1 ≤ (inPc (s.data.toList.drop i)).1 ∧ i + (inPc (s.data.toList.drop i)).1 ≤ s.size ∧ s.data.toList.drop i ≠ [] := by
  obtain ⟨c, r, hd, _⟩ := drop_cons s i hi
  have hne : s.data.toList.drop i ≠ [] := by rw [hd]; simp
  have h1 := inPc_pos (s.data.toList.drop i)
  have h2 := inPc_len _ hne
  rw [List.length_drop, in_data_len] at h2
  exact ⟨h1.1, by omega, hne⟩
theorem rdec_l0 (s : ByteArray) (hs : s.size ≤ 1000000) : ∀ (d i : Nat) (acc : ByteArray), s.size ≤ i + d → i ≤ s.size → acc.size ≤ 3 * i →
    Ev (fun k => marginaliaref01_Decode.l0 k s acc (i : Int)) ⟨(acc.data.toList ++ inDec (s.data.toList.drop i)).toArray⟩ := by
  intro d
  induction d with
  | zero =>
    intro i acc hd hi ha
    refine Ev.step (f := fun _ => some acc) (fun k => ?_) ?_
    · simp only [marginaliaref01_Decode.l0]
      rw [if_neg (by omega)]
    · rw [List.drop_of_length_le (by rw [in_data_len]; omega), inDec_nil, List.append_nil]
      exact Ev.now _
  | succ d ih =>
    intro i acc hd hi ha
    by_cases hlt : i < s.size
    · obtain ⟨h1, h2, hne⟩ := at_piece s i hlt
      have hp := rpiece_ev s hs i hlt
      rw [inDec_cons hne]
      have hdd : (s.data.toList.drop i).drop (inPc (s.data.toList.drop i)).1 = s.data.toList.drop (i + (inPc (s.data.toList.drop i)).1) := by rw [List.drop_drop]
      rw [hdd]
      by_cases hg : (inPc (s.data.toList.drop i)).2 = true
      · have he : (s.extract i (i + (inPc (s.data.toList.drop i)).1)).data.toList = (s.data.toList.drop i).take (inPc (s.data.toList.drop i)).1 := by
          rw [in_ext_take, Nat.add_sub_cancel_left]
        have hez : (s.extract i (i + (inPc (s.data.toList.drop i)).1)).size = (inPc (s.data.toList.drop i)).1 := by
          rw [ByteArray.size_extract]; omega
        have hi2 := ih (i + (inPc (s.data.toList.drop i)).1) (acc ++ s.extract i (i + (inPc (s.data.toList.drop i)).1)) (by omega) h2 (by rw [ByteArray.size_append, hez]; omega)
        rw [if_pos hg]
        rw [hg] at hp
        generalize (inPc (s.data.toList.drop i)).1 = n at *
        refine Ev.step (f := fun k => (marginaliaref01_Piece.f k s (i : Int)).bind fun bt111 => (if bt111.2 = true then (if 0 ≤ (i : Int) then (if (i : Int) ≤ (wrap64 ((i : Int) + bt111.1)) then (if (wrap64 ((i : Int) + bt111.1)) ≤ (s.size : Int) then (if acc.size + (s.extract ((i : Int) : Int).toNat ((wrap64 ((i : Int) + bt111.1)) : Int).toNat).size ≤ 9223372036854775807 then (marginaliaref01_Decode.l0 k s (acc ++ (s.extract ((i : Int) : Int).toNat ((wrap64 ((i : Int) + bt111.1)) : Int).toNat)) (wrap64 ((i : Int) + bt111.1))) else (none)) else (none)) else (none)) else (none)) else (if acc.size + 3 ≤ 9223372036854775807 then (marginaliaref01_Decode.l0 k s (acc ++ (⟨#[239, 191, 189]⟩ : ByteArray)) (wrap64 ((i : Int) + bt111.1))) else (none)))) (fun k => ?_) ?_
        · simp only [marginaliaref01_Decode.l0]
          rw [if_pos (by omega)]
        · refine Ev.bind hp ?_
          have hw : wrap64 ((i : Int) + (n : Int)) = ((i + n : Nat) : Int) := wrap_add (by omega)
          simp only [hw, Int.toNat_natCast]
          refine Ev.congr (fun _ => if_pos trivial) ?_
          refine Ev.congr (fun _ => if_pos (by omega)) ?_
          refine Ev.congr (fun _ => if_pos (by omega)) ?_
          refine Ev.congr (fun _ => if_pos (by omega)) ?_
          refine Ev.congr (fun _ => if_pos (by rw [hez]; omega)) ?_
          have e3 : (acc ++ s.extract i (i + n)).data.toList = acc.data.toList ++ (s.extract i (i + n)).data.toList := by simp
          rw [e3, he, List.append_assoc] at hi2
          exact hi2
      · have hez : (acc ++ (⟨#[239, 191, 189]⟩ : ByteArray)).size = acc.size + 3 := by rw [ByteArray.size_append]; rfl
        have hi2 := ih (i + (inPc (s.data.toList.drop i)).1) (acc ++ (⟨#[239, 191, 189]⟩ : ByteArray)) (by omega) h2 (by rw [hez]; omega)
        rw [if_neg hg]
        rw [Bool.eq_false_iff.mpr hg] at hp
        generalize (inPc (s.data.toList.drop i)).1 = n at *
        refine Ev.step (f := fun k => (marginaliaref01_Piece.f k s (i : Int)).bind fun bt111 => (if bt111.2 = true then (if 0 ≤ (i : Int) then (if (i : Int) ≤ (wrap64 ((i : Int) + bt111.1)) then (if (wrap64 ((i : Int) + bt111.1)) ≤ (s.size : Int) then (if acc.size + (s.extract ((i : Int) : Int).toNat ((wrap64 ((i : Int) + bt111.1)) : Int).toNat).size ≤ 9223372036854775807 then (marginaliaref01_Decode.l0 k s (acc ++ (s.extract ((i : Int) : Int).toNat ((wrap64 ((i : Int) + bt111.1)) : Int).toNat)) (wrap64 ((i : Int) + bt111.1))) else (none)) else (none)) else (none)) else (none)) else (if acc.size + 3 ≤ 9223372036854775807 then (marginaliaref01_Decode.l0 k s (acc ++ (⟨#[239, 191, 189]⟩ : ByteArray)) (wrap64 ((i : Int) + bt111.1))) else (none)))) (fun k => ?_) ?_
        · simp only [marginaliaref01_Decode.l0]
          rw [if_pos (by omega)]
        · refine Ev.bind hp ?_
          have hw : wrap64 ((i : Int) + (n : Int)) = ((i + n : Nat) : Int) := wrap_add (by omega)
          simp only [hw]
          refine Ev.congr (fun _ => if_neg (by simp)) ?_
          refine Ev.congr (fun _ => if_pos (by omega)) ?_
          have e3 : (acc ++ (⟨#[239, 191, 189]⟩ : ByteArray)).data.toList = acc.data.toList ++ inBad := by simp [inBad]
          rw [e3, List.append_assoc] at hi2
          exact hi2
    · refine Ev.step (f := fun _ => some acc) (fun k => ?_) ?_
      · simp only [marginaliaref01_Decode.l0]
        rw [if_neg (by omega)]
      · rw [List.drop_of_length_le (by rw [in_data_len]; omega), inDec_nil, List.append_nil]
        exact Ev.now _
theorem rmarked_f (s : ByteArray) : marginaliaref01_Marked.f s = some (inMarked s.data.toList) := by
  have h := in_trim_f s
  unfold marginaliaref01_Marked.f
  by_cases h3 : (s.size : Int) ≥ 3
  · rw [if_pos h3, if_pos (by decide), if_pos (by omega)]
    congr 1
    rw [in_bytes_data, in_ext_take]
    unfold inMarked
    rw [List.drop_zero]
    have : 3 ≤ s.data.toList.length := by rw [in_data_len]; omega
    match hl : s.data.toList, this with
    | a :: b :: c :: r, _ =>
      simp only [List.isPrefixOf, List.take_succ_cons, List.take_zero, Bool.and_true]
      rw [Bool.eq_iff_iff]
      simp
      constructor
      · rintro ⟨rfl, rfl, rfl⟩; simp
      · rintro ⟨rfl, rfl, rfl⟩; simp
  · rw [if_neg h3]
    unfold inMarked
    have : s.data.toList.length < 3 := by rw [in_data_len]; omega
    match hl : s.data.toList, this with
    | [], _ => rfl
    | [a], _ => simp [List.isPrefixOf]
    | [a, b], _ => simp [List.isPrefixOf]
theorem rdec_ev (s : ByteArray) (hs : s.size ≤ 1000000) : Ev (fun k => marginaliaref01_Decode.f k s) ⟨(inDecode s.data.toList).toArray⟩ := by
  have go : ∀ x : ByteArray, x.size ≤ 1000000 → Ev (fun k => marginaliaref01_Decode.j0 k x) ⟨(inDec x.data.toList).toArray⟩ := by
    intro x hx
    refine Ev.step (f := fun k => marginaliaref01_Decode.l0 k x ⟨#[]⟩ ((0 : Nat) : Int)) (fun k => by simp only [marginaliaref01_Decode.j0]; rfl) ?_
    exact rdec_l0 x hx x.size 0 ⟨#[]⟩ (by omega) (by omega) (Nat.le_refl _)
  unfold marginaliaref01_Decode.f inDecode
  rw [rmarked_f]
  simp only [Option.bind_some]
  by_cases hm : inMarked s.data.toList = true
  · rw [if_pos hm]
    have h3 : 3 ≤ s.size := by
      rcases Nat.lt_or_ge s.size 3 with h | h
      · have h' := rmarked_f s
        unfold marginaliaref01_Marked.f at h'
        rw [if_neg (by omega), hm] at h'
        exact absurd h' (by simp)
      · exact h
    refine Ev.congr (f := fun k => marginaliaref01_Decode.j0 k (s.extract 3 s.size)) (fun k => ?_) ?_
    · rw [if_pos hm, if_pos (by omega)]
    · have := go (s.extract 3 s.size) (by rw [ByteArray.size_extract]; omega)
      rw [Lib.extract_to_end] at this
      exact this
  · rw [if_neg hm]
    exact Ev.congr (fun k => if_neg hm) (go s hs)
theorem rlines_l0 (s : ByteArray) (hs : s.size ≤ 4000000) : ∀ (d i : Nat) (acc : ByteArray), i + d = s.size → acc.size ≤ i →
    Ev (fun k => marginaliaref01_Lines.l0 k s acc (i : Int)) ⟨(acc.data.toList ++ inLn (s.data.toList.drop i)).toArray⟩ := by
  intro d
  induction d with
  | zero =>
    intro i acc hi ha
    refine Ev.step (f := fun _ => some acc) (fun k => ?_) ?_
    · simp only [marginaliaref01_Lines.l0]
      rw [if_neg (by omega)]
    · rw [List.drop_of_length_le (by rw [in_data_len]; omega), inLn, List.append_nil]
      exact Ev.now _
  | succ d ih =>
    intro i acc hi ha
    obtain ⟨c, r, hd, hc⟩ := drop_cons s i (by omega)
    have hr : r = s.data.toList.drop (i + 1) := by
      have := congrArg List.tail hd
      rw [List.tail_drop] at this
      exact this.symm
    have hb := in_bt_get s i c hc
    have e10 : (acc ++ (⟨#[10]⟩ : ByteArray)).size = acc.size + 1 := by rw [ByteArray.size_append]; rfl
    have d10 : (acc ++ (⟨#[10]⟩ : ByteArray)).data.toList = acc.data.toList ++ [10] := by simp
    have hes : (s.extract i (i + 1)).data.toList = [c] := by rw [in_ext_take, hd, Nat.add_sub_cancel_left]; rfl
    have hez : (s.extract i (i + 1)).size = 1 := by rw [← in_data_len, hes]; rfl
    have ec : (acc ++ s.extract i (i + 1)).data.toList = acc.data.toList ++ [c] := by rw [in_app, hes]
    have ecz : (acc ++ s.extract i (i + 1)).size = acc.size + 1 := by rw [ByteArray.size_append, hez]
    have i10 := ih (i + 1) (acc ++ (⟨#[10]⟩ : ByteArray)) (by omega) (by omega)
    have i0 := ih (i + 1) acc (by omega) (by omega)
    have ic := ih (i + 1) (acc ++ s.extract i (i + 1)) (by omega) (by omega)
    rw [d10, List.append_assoc] at i10
    rw [ec, List.append_assoc] at ic
    rw [hd, inLn, hr]
    by_cases h13 : c = 13
    · have h13' : (c.toNat : Int) = 13 := by rw [h13]; rfl
      rw [if_neg (by simp [h13])]
      by_cases hend : i + 1 = s.size
      · have hn : (s.data.toList.drop (i + 1)).head? = none := by rw [List.drop_of_length_le (by rw [in_data_len]; omega)]; rfl
        rw [hn, if_neg (by simp)]
        refine Ev.step (f := fun k => marginaliaref01_Lines.l0 k s (acc ++ (⟨#[10]⟩ : ByteArray)) ((i + 1 : Nat) : Int)) (fun k => ?_) i10
        simp only [marginaliaref01_Lines.l0]
        rw [wrap_next (by omega), if_pos (by omega), if_pos (by omega), hb, if_pos h13', if_pos (by omega), if_pos (by omega)]
      · obtain ⟨c2, r2, hd2, hc2⟩ := drop_cons s (i + 1) (by omega)
        have hb2 := in_bt_get s (i + 1) c2 hc2
        have hn : (s.data.toList.drop (i + 1)).head? = some c2 := by rw [hd2]; rfl
        rw [hn]
        by_cases h10 : c2 = 10
        · have h10' : (c2.toNat : Int) = 10 := by rw [h10]; rfl
          rw [if_pos (by rw [h10])]
          refine Ev.step (f := fun k => marginaliaref01_Lines.l0 k s acc ((i + 1 : Nat) : Int)) (fun k => ?_) i0
          simp only [marginaliaref01_Lines.l0]
          rw [wrap_next (by omega), if_pos (by omega), if_pos (by omega), hb, if_pos h13', if_neg (by omega), if_pos (by omega), if_pos (by omega), hb2, if_pos h10']
        · have h10' : ¬ (c2.toNat : Int) = 10 := fun e => h10 (UInt8.toNat.inj (show _ = 10 by omega))
          rw [if_neg (by simpa using h10)]
          refine Ev.step (f := fun k => marginaliaref01_Lines.l0 k s (acc ++ (⟨#[10]⟩ : ByteArray)) ((i + 1 : Nat) : Int)) (fun k => ?_) i10
          simp only [marginaliaref01_Lines.l0]
          rw [wrap_next (by omega), if_pos (by omega), if_pos (by omega), hb, if_pos h13', if_neg (by omega), if_pos (by omega), if_pos (by omega), hb2, if_neg h10', if_pos (by omega)]
    · have h13' : ¬ (c.toNat : Int) = 13 := fun e => h13 (UInt8.toNat.inj (show _ = 13 by omega))
      rw [if_pos h13]
      refine Ev.step (f := fun k => marginaliaref01_Lines.l0 k s (acc ++ s.extract i (i + 1)) ((i + 1 : Nat) : Int)) (fun k => ?_) ic
      simp only [marginaliaref01_Lines.l0]
      rw [wrap_next (by omega), if_pos (by omega), if_pos (by omega), hb, if_neg h13', if_pos (by omega), if_pos (by omega), Int.toNat_natCast, Int.toNat_natCast, if_pos (by rw [hez]; omega)]
theorem rlines_ev (s : ByteArray) (hs : s.size ≤ 4000000) : Ev (fun k => marginaliaref01_Lines.f k s) ⟨(inLn s.data.toList).toArray⟩ :=
  rlines_l0 s hs s.size 0 ⟨#[]⟩ (by omega) (Nat.le_refl _)
theorem rtext_l0 (s : ByteArray) (hs : s.size ≤ 4000000) : ∀ (d i : Nat) (acc : ByteArray), i + d = s.size → acc.size ≤ i →
    Ev (fun k => marginaliaref01_Text.l0 k s acc (i : Int)) ⟨(acc.data.toList ++ inNz (s.data.toList.drop i)).toArray⟩ := by
  intro d
  induction d with
  | zero =>
    intro i acc hi ha
    refine Ev.step (f := fun _ => some acc) (fun k => ?_) ?_
    · simp only [marginaliaref01_Text.l0]
      rw [if_neg (by omega)]
    · rw [List.drop_of_length_le (by rw [in_data_len]; omega)]
      have e0 : inNz [] = [] := rfl
      rw [e0, List.append_nil]
      exact Ev.now _
  | succ d ih =>
    intro i acc hi ha
    obtain ⟨c, r, hd, hc⟩ := drop_cons s i (by omega)
    have hr : r = s.data.toList.drop (i + 1) := by
      have := congrArg List.tail hd
      rw [List.tail_drop] at this
      exact this.symm
    have hb := in_bt_get s i c hc
    have hes : (s.extract i (i + 1)).data.toList = [c] := by rw [in_ext_take, hd, Nat.add_sub_cancel_left]; rfl
    have hez : (s.extract i (i + 1)).size = 1 := by rw [← in_data_len, hes]; rfl
    have ec : (acc ++ s.extract i (i + 1)).data.toList = acc.data.toList ++ [c] := by rw [in_app, hes]
    have ecz : (acc ++ s.extract i (i + 1)).size = acc.size + 1 := by rw [ByteArray.size_append, hez]
    have i0 := ih (i + 1) acc (by omega) (by omega)
    have ic := ih (i + 1) (acc ++ s.extract i (i + 1)) (by omega) (by omega)
    rw [ec, List.append_assoc] at ic
    have hnz : inNz (c :: r) = if c = 0 then inNz r else c :: inNz r := by
      unfold inNz
      rw [List.filter_cons]
      by_cases h : c = 0
      · rw [if_pos h, if_neg (by simp [h])]
      · rw [if_neg h, if_pos (by simpa using h)]
    rw [hd, hnz, hr]
    by_cases h0 : c = 0
    · have h0' : (c.toNat : Int) = 0 := by rw [h0]; rfl
      rw [if_pos h0]
      refine Ev.step (f := fun k => marginaliaref01_Text.l0 k s acc ((i + 1 : Nat) : Int)) (fun k => ?_) i0
      simp only [marginaliaref01_Text.l0]
      rw [wrap_next (by omega), if_pos (by omega), if_pos (by omega), hb, if_pos h0']
    · have h0' : ¬ (c.toNat : Int) = 0 := fun e => h0 (UInt8.toNat.inj (show _ = 0 by omega))
      rw [if_neg h0]
      refine Ev.step (f := fun k => marginaliaref01_Text.l0 k s (acc ++ s.extract i (i + 1)) ((i + 1 : Nat) : Int)) (fun k => ?_) ic
      simp only [marginaliaref01_Text.l0]
      rw [wrap_next (by omega), if_pos (by omega), if_pos (by omega), hb, if_neg h0', if_pos (by omega), if_pos (by omega), Int.toNat_natCast, Int.toNat_natCast, if_pos (by rw [hez]; omega)]
theorem rtext_ev (s : ByteArray) (hs : s.size ≤ 1000000) : Ev (fun k => marginaliaref01_Text.f k s) ⟨(inText s.data.toList).toArray⟩ := by
  have h1 := inText_len s.data.toList
  have z1 : (⟨(inDecode s.data.toList).toArray⟩ : ByteArray).size ≤ 4000000 := by
    show (inDecode s.data.toList).length ≤ _
    have h2 := inDec_len (if inMarked s.data.toList = true then s.data.toList.drop 3 else s.data.toList)
    have h3 : (if inMarked s.data.toList = true then s.data.toList.drop 3 else s.data.toList).length ≤ s.size := by
      have := in_data_len s
      split
      · rw [List.length_drop]; omega
      · omega
    unfold inDecode
    omega
  have z2 : (⟨(inLn (inDecode s.data.toList)).toArray⟩ : ByteArray).size ≤ 4000000 := Nat.le_trans (inLn_len (inDecode s.data.toList)) z1
  unfold marginaliaref01_Text.f
  refine Ev.bind (rdec_ev s hs) ?_
  refine Ev.bind (rlines_ev ⟨(inDecode s.data.toList).toArray⟩ z1) ?_
  exact rtext_l0 ⟨(inLn (inDecode s.data.toList)).toArray⟩ z2 (⟨(inLn (inDecode s.data.toList)).toArray⟩ : ByteArray).size 0 ⟨#[]⟩ (by omega) (Nat.le_refl _)
theorem rval_l0 (s : ByteArray) (hs : s.size ≤ 1000000) : ∀ (d i : Nat), s.size ≤ i + d → i ≤ s.size → Ev (fun k => marginaliaref01_Valid.l0 k s (i : Int)) (inVal (s.data.toList.drop i)) := by
  intro d
  induction d with
  | zero =>
    intro i hd hi
    refine Ev.step (f := fun _ => some true) (fun k => ?_) ?_
    · simp only [marginaliaref01_Valid.l0]
      rw [if_neg (by omega)]
    · rw [List.drop_of_length_le (by rw [in_data_len]; omega), inVal_nil]
      exact Ev.now _
  | succ d ih =>
    intro i hd hi
    by_cases hlt : i < s.size
    · obtain ⟨h1, h2, hne⟩ := at_piece s i hlt
      have hp := rpiece_ev s hs i hlt
      rw [inVal_cons hne, List.drop_drop]
      have hi2 := ih (i + (inPc (s.data.toList.drop i)).1) (by omega) h2
      generalize (inPc (s.data.toList.drop i)).1 = n at *
      generalize (inPc (s.data.toList.drop i)).2 = g at *
      refine Ev.step (f := fun k => (marginaliaref01_Piece.f k s (i : Int)).bind fun bt144 => (if bt144.2 = true then (marginaliaref01_Valid.l0 k s (wrap64 ((i : Int) + bt144.1))) else (some false))) (fun k => ?_) ?_
      · simp only [marginaliaref01_Valid.l0]
        rw [if_pos (by omega)]
      · refine Ev.bind hp ?_
        have hw : wrap64 ((i : Int) + (n : Int)) = ((i + n : Nat) : Int) := wrap_add (by omega)
        simp only [hw]
        cases g with
        | true => exact Ev.congr (fun _ => if_pos rfl) (by rw [Bool.true_and]; exact hi2)
        | false => exact Ev.congr (fun _ => if_neg (by simp)) (by rw [Bool.false_and]; exact Ev.now _)
    · refine Ev.step (f := fun _ => some true) (fun k => ?_) ?_
      · simp only [marginaliaref01_Valid.l0]
        rw [if_neg (by omega)]
      · rw [List.drop_of_length_le (by rw [in_data_len]; omega), inVal_nil]
        exact Ev.now _
theorem rcnt_l0 (s : ByteArray) (hs : s.size ≤ 1000000) : ∀ (d i j : Nat), s.size ≤ i + d → i ≤ s.size → j ≤ i → Ev (fun k => marginaliaref01_Count.l0 k s (j : Int) (i : Int)) ((j + inCnt (s.data.toList.drop i) : Nat) : Int) := by
  intro d
  induction d with
  | zero =>
    intro i j hd hi hj
    refine Ev.step (f := fun _ => some (j : Int)) (fun k => ?_) ?_
    · simp only [marginaliaref01_Count.l0]
      rw [if_neg (by omega)]
    · rw [List.drop_of_length_le (by rw [in_data_len]; omega), inCnt_nil]
      exact Ev.now _
  | succ d ih =>
    intro i j hd hi hj
    by_cases hlt : i < s.size
    · obtain ⟨h1, h2, hne⟩ := at_piece s i hlt
      have hp := rpiece_ev s hs i hlt
      rw [inCnt_cons hne, List.drop_drop]
      have hi2 := ih (i + (inPc (s.data.toList.drop i)).1) (j + 1) (by omega) h2 (by omega)
      generalize (inPc (s.data.toList.drop i)).1 = n at *
      generalize (inPc (s.data.toList.drop i)).2 = g at *
      refine Ev.step (f := fun k => (marginaliaref01_Piece.f k s (i : Int)).bind fun bt146 => (marginaliaref01_Count.l0 k s (wrap64 ((j : Int) + 1)) (wrap64 ((i : Int) + bt146.1)))) (fun k => ?_) ?_
      · simp only [marginaliaref01_Count.l0]
        rw [if_pos (by omega)]
      · refine Ev.bind hp ?_
        have hw : wrap64 ((i : Int) + (n : Int)) = ((i + n : Nat) : Int) := wrap_add (by omega)
        simp only [hw, wrap_next (show j < 9223372036854775807 by omega)]
        rw [show j + (inCnt (s.data.toList.drop (i + n)) + 1) = j + 1 + inCnt (s.data.toList.drop (i + n)) by omega]
        exact hi2
    · refine Ev.step (f := fun _ => some (j : Int)) (fun k => ?_) ?_
      · simp only [marginaliaref01_Count.l0]
        rw [if_neg (by omega)]
      · rw [List.drop_of_length_le (by rw [in_data_len]; omega), inCnt_nil]
        exact Ev.now _
theorem cnt_l0 : ∀ (d : Nat) (x : ByteArray) (j : Nat), x.size ≤ d → d + j ≤ 4000000 → Ev (fun k => input_Count.l0 k x (j : Int)) ((j + inCnt x.data.toList : Nat) : Int) := by
  intro d
  induction d with
  | zero =>
    intro x j hx hj
    have hn : x.data.toList = [] := List.eq_nil_of_length_eq_zero (by rw [in_data_len]; omega)
    refine Ev.step (f := fun _ => some (j : Int)) (fun k => ?_) ?_
    · simp only [input_Count.l0]
      rw [if_pos (by rw [in_bytes_data]; exact hn)]
    · rw [hn, inCnt_nil]
      exact Ev.now _
  | succ d ih =>
    intro x j hx hj
    by_cases hn : x.data.toList = []
    · refine Ev.step (f := fun _ => some (j : Int)) (fun k => ?_) ?_
      · simp only [input_Count.l0]
        rw [if_pos (by rw [in_bytes_data]; exact hn)]
      · rw [hn, inCnt_nil]
        exact Ev.now _
    · have hp : Ev (fun k => input_piece.f k x) _ := Ev.of (input_piece.mono x) (in_piece_f x hn)
      have h1 := inPc_pos x.data.toList
      have h2 := inPc_len x.data.toList hn
      rw [in_data_len] at h2
      rw [inCnt_cons hn]
      have hi2 := ih (x.extract (inPc x.data.toList).1 x.size) (j + 1) (by rw [ByteArray.size_extract]; omega) (by omega)
      rw [Lib.extract_to_end] at hi2
      generalize (inPc x.data.toList).1 = n at *
      generalize (inPc x.data.toList).2 = g at *
      refine Ev.step (f := fun k => (input_piece.f k x).bind fun bt106 => (if 0 ≤ bt106.1 then (if bt106.1 ≤ (x.size : Int) then (input_Count.l0 k (x.extract (bt106.1 : Int).toNat x.size) (wrap64 ((j : Int) + 1))) else (none)) else (none))) (fun k => ?_) ?_
      · simp only [input_Count.l0]
        rw [if_neg (by rw [in_bytes_data]; exact hn)]
      · refine Ev.bind hp ?_
        simp only [wrap_next (show j < 9223372036854775807 by omega), Int.toNat_natCast]
        refine Ev.congr (fun _ => if_pos (by omega)) ?_
        refine Ev.congr (fun _ => if_pos (by omega)) ?_
        rw [show j + (inCnt (x.data.toList.drop n) + 1) = j + 1 + inCnt (x.data.toList.drop n) by omega]
        exact hi2
theorem cnt_ev (x : ByteArray) (hx : x.size ≤ 3000000) : Ev (fun k => input_Count.f k x) ((inCnt x.data.toList : Nat) : Int) := by
  have := cnt_l0 x.size x 0 (Nat.le_refl _) (by omega)
  rw [Nat.zero_add] at this
  exact this
end Go.Proofs.YtckajljkdlejoaaDoor.Pure
