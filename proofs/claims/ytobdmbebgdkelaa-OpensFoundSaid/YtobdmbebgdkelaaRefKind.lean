import Derived.Test.YtobdmbebgdkelaaPAllx0
import Derived.Test.YtobdmbebgdkelaaPAllx10
import Derived.Test.YtobdmbebgdkelaaPAllx9
import Derived.Test.YtobdmbebgdkelaaKindSpec
namespace Go.Proofs.Ytobdmbebgdkelaa.Pure
open Go.RowKit Go.Proofs.Ytobdmbebgdkelaa.PAll Go.Proofs.YtobdmbebgdkelaaW.PrintWords Go.Proofs.YtobdmbebgdkelaaW.PrintLast

/-! What the reference's In, names and Is come to, and that Is answers as kind.Is does. -/
def splitG : List UInt8 → List UInt8 → List (List UInt8)
  | cur, [] => [cur]
  | cur, c :: r => if c = 32 then cur :: splitG [] r else splitG (cur ++ [c]) r
def splitB (s : ByteArray) : List (List UInt8) := splitG [] s.data.toList

theorem extract_take (s : ByteArray) (a b : Nat) : (s.extract a b).toList = (s.data.toList.drop a).take (b - a) := by
  rw [bytes_data]
  have e : (s.extract a b).data = s.data.extract a b := by simp
  rw [e, Array.toList_extract, List.extract_eq_take_drop]
theorem bt_data (s : ByteArray) (i : Nat) (h : i < s.size) (h' : i < s.data.toList.length) : bt s (i : Int) = (s.data.toList[i].toNat : Int) := by
  rw [bt_nat s i h, bytes_data, List.getD_eq_getElem?_getD, List.getElem?_eq_getElem h']
  rfl
theorem in_l0 (x0 x1 : ByteArray) (hs : x0.size ≤ 1000000) : ∀ (d b i k : Nat), i + d = x0.size → b ≤ i → 2 * d + 2 < k →
    marginaliaref02_In.l0 k x0 x1 (b : Int) (i : Int) = some ((splitG ((x0.data.toList.drop b).take (i - b)) (x0.data.toList.drop i)).contains x1.data.toList) := by
  have hlen : x0.data.toList.length = x0.size := by simp
  intro d
  induction d with
  | zero =>
    intro b i k hi hb hk
    obtain ⟨k, rfl⟩ : ∃ m, k = m + 3 := ⟨k - 3, by omega⟩
    simp only [marginaliaref02_In.l0, marginaliaref02_In.j1]
    rw [if_pos (by omega), if_pos (by omega), if_pos trivial, if_pos (by omega), if_pos (by omega), if_pos (by omega)]
    rw [List.drop_of_length_le (show x0.data.toList.length ≤ i by omega)]
    rw [Int.toNat_natCast, Int.toNat_natCast, extract_take x0 b i, bytes_data]
    simp only [splitG]
    by_cases e : (x0.data.toList.drop b).take (i - b) = x1.data.toList
    · rw [if_pos e]; simp [e]
    · rw [if_neg e, wrap_next (by omega), if_neg (by omega)]
      simp [Ne.symm e]
  | succ d ih =>
    intro b i k hi hb hk
    obtain ⟨k, rfl⟩ : ∃ m, k = m + 2 := ⟨k - 2, by omega⟩
    have hlt : i < x0.size := by omega
    have hlt' : i < x0.data.toList.length := by omega
    simp only [marginaliaref02_In.l0, marginaliaref02_In.j1]
    rw [if_pos (by omega), if_neg (by omega), if_pos (by omega), if_pos (by omega)]
    rw [bt_data x0 i hlt hlt', wrap_next (by omega)]
    rw [List.drop_eq_getElem_cons hlt']
    simp only [splitG]
    by_cases e : x0.data.toList[i] = 32
    · have e' : (((x0.data.toList[i]).toNat : Int) == 32) = true := by rw [e]; rfl
      rw [e', if_pos rfl, if_pos e, if_pos (by omega), if_pos (by omega), if_pos (by omega), ih (i + 1) (i + 1) k (by omega) (by omega) (by omega)]
      rw [Int.toNat_natCast, Int.toNat_natCast, extract_take x0 b i, bytes_data x1]
      rw [Nat.sub_self, List.take_zero]
      by_cases q : (x0.data.toList.drop b).take (i - b) = x1.data.toList
      · rw [if_pos q]; simp [q]
      · rw [if_neg q]; simp [Ne.symm q]
    · have e' : (((x0.data.toList[i]).toNat : Int) == 32) = false := by
        rw [beq_eq_false_iff_ne]
        intro q
        exact e (UInt8.toNat.inj (show _ = 32 by omega))
      rw [e', if_neg (by simp), if_neg e, ih b (i + 1) k (by omega) (by omega) (by omega)]
      rw [show i + 1 - b = (i - b) + 1 by omega, List.take_add_one, List.getElem?_drop, show b + (i - b) = i by omega, List.getElem?_eq_getElem hlt']
      rfl
theorem in_ev (a0 a1 : ByteArray) (hs : a0.size ≤ 1000000) : Ev (fun k => marginaliaref02_In.f k a0 a1) ((splitB a0).contains a1.data.toList) := by
  refine ⟨2 * a0.size + 3, fun k hk => ?_⟩
  have h := in_l0 a0 a1 hs a0.size 0 0 k (by omega) (by omega) (by omega)
  rw [List.drop_zero, Nat.sub_zero, List.take_zero] at h
  exact h
def anyIn (xs : List ByteArray) (x : List UInt8) : Bool := xs.any fun s => (splitB s).contains x
theorem refIs_l0 (x1 : ByteArray) (xs : List ByteArray) (hx : xs.length ≤ 1000000) (hs : ∀ s ∈ xs, s.size ≤ 1000000) : ∀ (d i : Nat), i + d = xs.length →
    Ev (fun k => marginaliaref02_Is.l0 k x1 xs (i : Int)) (anyIn (xs.drop i) x1.data.toList) := by
  intro d
  induction d with
  | zero =>
    intro i hi
    refine Ev.step (f := fun _ => some false) (fun k => ?_) ?_
    · simp only [marginaliaref02_Is.l0]; rw [if_neg (by omega)]
    · rw [List.drop_of_length_le (by omega)]; exact ⟨0, fun _ _ => rfl⟩
  | succ d ih =>
    intro i hi
    have hlt : i < xs.length := by omega
    refine Ev.step (f := fun k => (marginaliaref02_In.f k xs[i] x1).bind fun t => if t = true then some true else marginaliaref02_Is.l0 k x1 xs ((i + 1 : Nat) : Int)) (fun k => ?_) ?_
    · simp only [marginaliaref02_Is.l0]
      have e : rdOf ByteArray.empty xs (i : Int) = xs[i] := by simp [rdOf, List.getD_eq_getElem?_getD, hlt]
      rw [if_pos (by omega), if_pos (by omega), e, wrap_next (by omega)]
    · rw [List.drop_eq_getElem_cons hlt]
      exact Ev.or (in_ev xs[i] x1 (hs _ (List.getElem_mem hlt))) (ih (i + 1) (by omega))
theorem refIs_of {k0 : Int} {xs : List ByteArray} (h : marginaliaref02_names.f k0 = some xs) (x1 : ByteArray) (hx : xs.length ≤ 1000000) (hs : ∀ s ∈ xs, s.size ≤ 1000000) :
    Ev (fun k => marginaliaref02_Is.f k k0 x1) (anyIn xs x1.data.toList) := by
  have h0 := refIs_l0 x1 xs hx hs xs.length 0 (by omega)
  rw [List.drop_zero] at h0
  unfold marginaliaref02_Is.f
  exact Ev.bind ⟨0, fun _ _ => h⟩ h0
theorem anyIn_eq {xs : List ByteArray} {S : List (List UInt8)} (h1 : ∀ y ∈ S, y ∈ xs.flatMap splitB) (h2 : ∀ y ∈ xs.flatMap splitB, y ∈ S) (x : List UInt8) : anyIn xs x = S.contains x := by
  rw [Bool.eq_iff_iff, List.contains_iff_mem]
  unfold anyIn
  rw [List.any_eq_true]
  constructor
  · rintro ⟨s, hs, hc⟩
    exact h2 x (List.mem_flatMap.2 ⟨s, hs, List.contains_iff_mem.1 hc⟩)
  · intro h
    obtain ⟨s, hs, hc⟩ := List.mem_flatMap.1 (h1 x h)
    exact ⟨s, hs, List.contains_iff_mem.2 hc⟩
theorem refIs_set (k0 : Int) (xs : List ByteArray) (h : marginaliaref02_names.f k0 = some xs) (x1 : ByteArray) (hx : xs.length ≤ 1000000) (hs : ∀ s ∈ xs, s.size ≤ 1000000)
    (h1 : ∀ y ∈ setK k0, y ∈ xs.flatMap splitB) (h2 : ∀ y ∈ xs.flatMap splitB, y ∈ setK k0) : Ev (fun k => marginaliaref02_Is.f k k0 x1) (inK k0 x1) := by
  unfold inK
  rw [← anyIn_eq h1 h2]
  exact refIs_of h x1 hx hs
theorem refIs_ev (k0 : Int) (x1 : ByteArray) : Ev (fun k => marginaliaref02_Is.f k k0 x1) (inK k0 x1) := by
  by_cases h1 : k0 = 1
  · subst h1; exact refIs_set 1 _ rfl x1 (by decide +kernel) (by decide +kernel) (by decide +kernel) (by decide +kernel)
  by_cases h2 : k0 = 2
  · subst h2; exact refIs_set 2 _ rfl x1 (by decide +kernel) (by decide +kernel) (by decide +kernel) (by decide +kernel)
  by_cases h3 : k0 = 3
  · subst h3; exact refIs_set 3 _ rfl x1 (by decide +kernel) (by decide +kernel) (by decide +kernel) (by decide +kernel)
  by_cases h4 : k0 = 4
  · subst h4; exact refIs_set 4 _ rfl x1 (by decide +kernel) (by decide +kernel) (by decide +kernel) (by decide +kernel)
  by_cases h5 : k0 = 5
  · subst h5; exact refIs_set 5 _ rfl x1 (by decide +kernel) (by decide +kernel) (by decide +kernel) (by decide +kernel)
  by_cases h6 : k0 = 6
  · subst h6; exact refIs_set 6 _ rfl x1 (by decide +kernel) (by decide +kernel) (by decide +kernel) (by decide +kernel)
  by_cases h7 : k0 = 7
  · subst h7; exact refIs_set 7 _ rfl x1 (by decide +kernel) (by decide +kernel) (by decide +kernel) (by decide +kernel)
  by_cases h8 : k0 = 8
  · subst h8; exact refIs_set 8 _ rfl x1 (by decide +kernel) (by decide +kernel) (by decide +kernel) (by decide +kernel)
  by_cases h9 : k0 = 9
  · subst h9; exact refIs_set 9 _ rfl x1 (by decide +kernel) (by decide +kernel) (by decide +kernel) (by decide +kernel)
  by_cases h10 : k0 = 10
  · subst h10; exact refIs_set 10 _ rfl x1 (by decide +kernel) (by decide +kernel) (by decide +kernel) (by decide +kernel)
  by_cases h11 : k0 = 11
  · subst h11; exact refIs_set 11 _ rfl x1 (by decide +kernel) (by decide +kernel) (by decide +kernel) (by decide +kernel)
  by_cases h12 : k0 = 12
  · subst h12; exact refIs_set 12 _ rfl x1 (by decide +kernel) (by decide +kernel) (by decide +kernel) (by decide +kernel)
  have hn : marginaliaref02_names.f k0 = some [] := by
    simp only [marginaliaref02_names.f, if_neg h1, if_neg h2, if_neg h3, if_neg h4, if_neg h5, if_neg h6, if_neg h7, if_neg h8, if_neg h9, if_neg h10, if_neg h11, if_neg h12]
  have hk : setK k0 = [] := by
    simp only [setK, if_neg h1, if_neg h2, if_neg h3, if_neg h4, if_neg h5, if_neg h6, if_neg h7, if_neg h8, if_neg h9, if_neg h10, if_neg h11, if_neg h12]
  exact refIs_set k0 [] hn x1 (by decide) (by simp) (by rw [hk]; simp) (by simp)
end Go.Proofs.Ytobdmbebgdkelaa.Pure
