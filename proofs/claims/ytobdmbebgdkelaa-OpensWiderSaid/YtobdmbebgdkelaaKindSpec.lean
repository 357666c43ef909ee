import Derived.Test.YtobdmbebgdkelaaPAllx0
import Derived.Test.YtobdmbebgdkelaaPAllx2
import Derived.Test.YtobdmbebgdkelaaPAllx3
namespace Go.Proofs.Ytobdmbebgdkelaa.Pure
open Go.RowKit Go.Proofs.Ytobdmbebgdkelaa.PAll Go.Proofs.YtobdmbebgdkelaaW.PrintWords Go.Proofs.YtobdmbebgdkelaaW.PrintLast

/-! The sets of element names, as lists of byte strings; what kind's functions and its reference's come to. -/
def w_void : List (List UInt8) := [[97, 114, 101, 97], [98, 97, 115, 101], [98, 114], [99, 111, 108], [101, 109, 98, 101, 100], [104, 114], [105, 109, 103], [105, 110, 112, 117, 116], [108, 105, 110, 107], [109, 101, 116, 97], [112, 97, 114, 97, 109], [115, 111, 117, 114, 99, 101], [116, 114, 97, 99, 107], [119, 98, 114]]
def w_raw : List (List UInt8) := [[105, 102, 114, 97, 109, 101], [110, 111, 101, 109, 98, 101, 100], [110, 111, 102, 114, 97, 109, 101, 115], [115, 99, 114, 105, 112, 116], [115, 116, 121, 108, 101], [120, 109, 112]]
def w_rcdata : List (List UInt8) := [[116, 101, 120, 116, 97, 114, 101, 97], [116, 105, 116, 108, 101]]
def w_format : List (List UInt8) := [[97], [98], [98, 105, 103], [99, 111, 100, 101], [101, 109], [102, 111, 110, 116], [105], [110, 111, 98, 114], [115], [115, 109, 97, 108, 108], [115, 116, 114, 105, 107, 101], [115, 116, 114, 111, 110, 103], [116, 116], [117]]
def w_heading : List (List UInt8) := [[104, 49], [104, 50], [104, 51], [104, 52], [104, 53], [104, 54]]
def w_block : List (List UInt8) := [[97, 100, 100, 114, 101, 115, 115], [97, 114, 116, 105, 99, 108, 101], [97, 115, 105, 100, 101], [98, 108, 111, 99, 107, 113, 117, 111, 116, 101], [99, 101, 110, 116, 101, 114], [100, 101, 116, 97, 105, 108, 115], [100, 105, 97, 108, 111, 103], [100, 105, 114], [100, 105, 118], [100, 108], [102, 105, 101, 108, 100, 115, 101, 116], [102, 105, 103, 99, 97, 112, 116, 105, 111, 110], [102, 105, 103, 117, 114, 101], [102, 111, 111, 116, 101, 114], [104, 101, 97, 100, 101, 114], [104, 103, 114, 111, 117, 112], [109, 97, 105, 110], [109, 101, 110, 117], [110, 97, 118], [111, 108], [112], [115, 101, 97, 114, 99, 104], [115, 101, 99, 116, 105, 111, 110], [115, 117, 109, 109, 97, 114, 121], [117, 108]]
def w_implied : List (List UInt8) := [[100, 100], [100, 116], [108, 105], [111, 112, 116, 103, 114, 111, 117, 112], [111, 112, 116, 105, 111, 110], [112], [114, 98], [114, 112], [114, 116], [114, 116, 99]]
def w_table : List (List UInt8) := [[99, 97, 112, 116, 105, 111, 110], [99, 111, 108], [99, 111, 108, 103, 114, 111, 117, 112], [116, 98, 111, 100, 121], [116, 100], [116, 102, 111, 111, 116], [116, 104], [116, 104, 101, 97, 100], [116, 114]]
def w_marker : List (List UInt8) := [[97, 112, 112, 108, 101, 116], [109, 97, 114, 113, 117, 101, 101], [111, 98, 106, 101, 99, 116]]
def w_skip : List (List UInt8) := [[98, 111, 100, 121], [102, 114, 97, 109, 101], [102, 114, 97, 109, 101, 115, 101, 116], [104, 101, 97, 100], [104, 116, 109, 108]]
def w_outs : List (List UInt8) := [[98], [98, 105, 103], [98, 108, 111, 99, 107, 113, 117, 111, 116, 101], [98, 111, 100, 121], [98, 114], [99, 101, 110, 116, 101, 114], [99, 111, 100, 101], [100, 100], [100, 105, 118], [100, 108], [100, 116], [101, 109], [101, 109, 98, 101, 100], [104, 101, 97, 100], [104, 114], [105], [105, 109, 103], [108, 105], [108, 105, 115, 116, 105, 110, 103], [109, 101, 110, 117], [109, 101, 116, 97], [110, 111, 98, 114], [111, 108], [112], [112, 114, 101], [114, 117, 98, 121], [115], [115, 109, 97, 108, 108], [115, 112, 97, 110], [115, 116, 114, 105, 107, 101], [115, 116, 114, 111, 110, 103], [115, 117, 98], [115, 117, 112], [116, 97, 98, 108, 101], [116, 116], [117], [117, 108], [118, 97, 114]]
def w_outr : List (List UInt8) := [[98], [98, 105, 103], [98, 108, 111, 99, 107, 113, 117, 111, 116, 101], [98, 111, 100, 121], [98, 114], [99, 101, 110, 116, 101, 114], [99, 111, 100, 101], [100, 100], [100, 105, 118], [100, 108], [100, 116], [101, 109], [101, 109, 98, 101, 100], [104, 49], [104, 50], [104, 51], [104, 52], [104, 53], [104, 54], [104, 101, 97, 100], [104, 114], [105], [105, 109, 103], [108, 105], [108, 105, 115, 116, 105, 110, 103], [109, 101, 110, 117], [109, 101, 116, 97], [110, 111, 98, 114], [111, 108], [112], [112, 114, 101], [114, 117, 98, 121], [115], [115, 109, 97, 108, 108], [115, 112, 97, 110], [115, 116, 114, 105, 107, 101], [115, 116, 114, 111, 110, 103], [115, 117, 98], [115, 117, 112], [116, 97, 98, 108, 101], [116, 116], [117], [117, 108], [118, 97, 114]]
def w_special : List (List UInt8) := [[98, 97, 115, 101, 102, 111, 110, 116], [98, 103, 115, 111, 117, 110, 100], [98, 111, 100, 121], [98, 117, 116, 116, 111, 110], [100, 100], [100, 116], [102, 111, 114, 109], [102, 114, 97, 109, 101], [102, 114, 97, 109, 101, 115, 101, 116], [104, 101, 97, 100], [104, 116, 109, 108], [107, 101, 121, 103, 101, 110], [108, 105], [108, 105, 115, 116, 105, 110, 103], [110, 111, 115, 99, 114, 105, 112, 116], [112, 108, 97, 105, 110, 116, 101, 120, 116], [112, 114, 101], [115, 101, 108, 101, 99, 116], [116, 97, 98, 108, 101], [116, 101, 109, 112, 108, 97, 116, 101]]

/-- The names of a set, as package kind goes through them. -/
def setK (k : Int) : List (List UInt8) :=
  if k = 1 then w_void else if k = 2 then w_raw else if k = 3 then w_rcdata
  else if k = 4 then w_void ++ (w_raw ++ (w_rcdata ++ (w_heading ++ (w_block ++ (w_table ++ (w_marker ++ w_special))))))
  else if k = 5 then w_format else if k = 6 then w_block else if k = 7 then w_heading else if k = 8 then w_implied else if k = 9 then w_table
  else if k = 10 then w_heading ++ w_outs else if k = 11 then w_marker else if k = 12 then w_table ++ w_skip else []
def inK (k : Int) (name : ByteArray) : Bool := (setK k).contains name.data.toList

theorem wrap_next {i : Nat} (h : i < 9223372036854775807) : wrap64 ((i : Int) + 1) = ((i + 1 : Nat) : Int) := by
  unfold wrap64
  omega
theorem bytes_data (s : ByteArray) : s.toList = s.data.toList := ByteArray.toList_eq s
theorem size_toList (s : ByteArray) : s.toList.length = s.size := by rw [bytes_data]; simp
theorem bt_nat (s : ByteArray) (i : Nat) (h : i < s.size) : bt s (i : Int) = ((s.toList.getD i 0).toNat : Int) := by
  have h' : i < s.data.size := h
  rw [bytes_data]
  simp [bt, h, List.getD_eq_getElem?_getD]
  rfl
theorem ite_or (b c : Bool) : (if b = true then some true else some c) = some (b || c) := by cases b <;> rfl


theorem among_l0 (a0 : ByteArray) (xs : List ByteArray) (hx : xs.length ≤ 1000000) : ∀ (d i k : Nat), i + d = xs.length → d < k →
    kind_among.l0 k a0 xs (xs.length : Int) (i : Int) = some ((xs.drop i).any fun s => s.toList == a0.toList) := by
  intro d
  induction d with
  | zero =>
    intro i k hi hk
    obtain ⟨k, rfl⟩ : ∃ m, k = m + 1 := ⟨k - 1, by omega⟩
    simp only [kind_among.l0]
    rw [if_neg (by omega), List.drop_of_length_le (by omega)]
    rfl
  | succ d ih =>
    intro i k hi hk
    obtain ⟨k, rfl⟩ : ∃ m, k = m + 1 := ⟨k - 1, by omega⟩
    have hlt : i < xs.length := by omega
    simp only [kind_among.l0]
    rw [if_pos (by omega), if_pos (by omega), if_pos (by omega), wrap_next (by omega), ih (i + 1) k (by omega) (by omega)]
    have e : rdOf ByteArray.empty xs (i : Int) = xs[i] := by simp [rdOf, List.getD_eq_getElem?_getD, hlt]
    rw [e, List.drop_eq_getElem_cons hlt, List.any_cons]
    by_cases h : xs[i].toList = a0.toList
    · rw [if_pos h]; simp [h]
    · rw [if_neg h]; simp [h]
theorem among_ev (a0 : ByteArray) (xs : List ByteArray) (hx : xs.length ≤ 1000000) : Ev (fun k => kind_among.f k a0 xs) ((xs.map fun s => s.data.toList).contains a0.data.toList) := by
  refine ⟨xs.length + 1, fun k hk => ?_⟩
  have h := among_l0 a0 xs hx xs.length 0 k (by omega) (by omega)
  unfold kind_among.f
  rw [List.drop_zero] at h
  refine Eq.trans h ?_
  congr 1
  rw [List.contains_eq_any_beq, List.any_map]
  apply congrArg (fun p => List.any xs p)
  funext s
  rw [bytes_data, bytes_data]
  exact Bool.beq_comm
theorem heading_is (a0 : ByteArray) : kind_heading.f a0 = some (w_heading.contains a0.data.toList) := by
  unfold kind_heading.f
  by_cases h : a0.size = 2
  · rw [if_pos (by omega), if_pos (by omega)]
    have hl : a0.data.toList.length = 2 := by rw [← bytes_data, size_toList, h]
    obtain ⟨x, y, e⟩ : ∃ x y, a0.data.toList = [x, y] := by
      match a0.data.toList, hl with
      | [x, y], _ => exact ⟨x, y, rfl⟩
    have b0 := bt_nat a0 0 (by omega)
    have b1 := bt_nat a0 1 (by omega)
    rw [bytes_data, e] at b0 b1
    simp only [List.getD_cons_zero, List.getD_cons_succ] at b0 b1
    rw [show ((0 : Nat) : Int) = 0 from rfl] at b0
    rw [show ((1 : Nat) : Int) = 1 from rfl] at b1
    rw [b0, b1, e]
    have hx := x.toNat_lt
    have hy := y.toNat_lt
    by_cases h0 : (x.toNat : Int) = 104
    · rw [if_pos h0, if_pos (by omega)]
      obtain rfl : x = 104 := UInt8.toNat.inj (by simpa using (by omega : x.toNat = 104))
      have H : ∀ n, n < 256 → (if ((UInt8.ofNat n).toNat : Int) ≥ 49 then some (decide (((UInt8.ofNat n).toNat : Int) ≤ 54)) else some false) = some (w_heading.contains [104, UInt8.ofNat n]) := by decide +kernel
      have := H y.toNat hy
      simpa using this
    · rw [if_neg h0]
      have : w_heading.contains [x, y] = false := by
        have hne : x ≠ 104 := fun e => h0 (by rw [e]; rfl)
        simp [w_heading, hne]
      rw [this]
  · rw [if_neg (by omega)]
    have : w_heading.contains a0.data.toList = false := by
      rw [Bool.eq_false_iff]
      intro hc
      rw [List.contains_iff_mem] at hc
      have : ∀ l ∈ w_heading, l.length = 2 := by decide
      have := this _ hc
      rw [← bytes_data, size_toList] at this
      omega
    rw [this]

theorem void_ev (a0 : ByteArray) : Ev (fun k => kind_void.f k a0) (w_void.contains a0.data.toList) := by
  unfold kind_void.f
  refine Ev.bind (among_ev a0 _ (by decide)) ?_
  exact ⟨0, fun _ _ => rfl⟩
theorem raw_ev (a0 : ByteArray) : Ev (fun k => kind_raw.f k a0) (w_raw.contains a0.data.toList) := by
  unfold kind_raw.f
  refine Ev.bind (among_ev a0 _ (by decide)) ?_
  exact ⟨0, fun _ _ => rfl⟩
theorem rcdata_ev (a0 : ByteArray) : Ev (fun k => kind_rcdata.f k a0) (w_rcdata.contains a0.data.toList) := by
  unfold kind_rcdata.f
  refine Ev.bind (among_ev a0 _ (by decide)) ?_
  exact ⟨0, fun _ _ => rfl⟩
theorem block_ev (a0 : ByteArray) : Ev (fun k => kind_block.f k a0) (w_block.contains a0.data.toList) := by
  unfold kind_block.f
  refine Ev.bind (among_ev a0 _ (by decide)) ?_
  exact ⟨0, fun _ _ => rfl⟩
theorem table_ev (a0 : ByteArray) : Ev (fun k => kind_table.f k a0) (w_table.contains a0.data.toList) := by
  unfold kind_table.f
  refine Ev.bind (among_ev a0 _ (by decide)) ?_
  exact ⟨0, fun _ _ => rfl⟩
theorem marker_ev (a0 : ByteArray) : Ev (fun k => kind_marker.f k a0) (w_marker.contains a0.data.toList) := by
  unfold kind_marker.f
  refine Ev.bind (among_ev a0 _ (by decide)) ?_
  exact ⟨0, fun _ _ => rfl⟩

theorem Ev.or {g : Nat → Option Bool} {f : Nat → Option Bool} {b c : Bool} (h : Ev g b) (h' : Ev f c) : Ev (fun n => (g n).bind fun t => if t = true then some true else f n) (b || c) := by
  refine Ev.bind h ?_
  cases b with
  | true => exact ⟨0, fun _ _ => rfl⟩
  | false => exact Ev.congr (fun _ => rfl) h'
theorem Ev.pass {g : Nat → Option Bool} {b : Bool} (h : Ev g b) : Ev (fun n => (g n).bind fun t => some t) b := by
  refine Ev.bind h ?_
  exact ⟨0, fun _ _ => rfl⟩
theorem Ev.is {b : Bool} {x : Option Bool} (h : x = some b) : Ev (fun _ => x) b := ⟨0, fun _ _ => h⟩
theorem contains_append (a b : List (List UInt8)) (x : List UInt8) : (a ++ b).contains x = (a.contains x || b.contains x) := by
  simp
theorem special_ev (a0 : ByteArray) : Ev (fun k => kind_special.f k a0) ((setK 4).contains a0.data.toList) := by
  have e : setK 4 = w_void ++ (w_raw ++ (w_rcdata ++ (w_heading ++ (w_block ++ (w_table ++ (w_marker ++ w_special)))))) := rfl
  rw [e, contains_append, contains_append, contains_append, contains_append, contains_append, contains_append, contains_append]
  unfold kind_special.f
  exact Ev.or (void_ev a0) (Ev.or (raw_ev a0) (Ev.or (rcdata_ev a0) (Ev.or (Ev.is (heading_is a0)) (Ev.or (block_ev a0) (Ev.or (table_ev a0) (Ev.or (marker_ev a0) (Ev.pass (among_ev a0 _ (by decide)))))))))
theorem breaks_ev (a0 : ByteArray) : Ev (fun k => kind_breaks.f k a0) ((setK 10).contains a0.data.toList) := by
  have e : setK 10 = w_heading ++ w_outs := rfl
  rw [e, contains_append]
  unfold kind_breaks.f
  exact Ev.or (Ev.is (heading_is a0)) (Ev.pass (among_ev a0 _ (by decide)))


theorem is_ev (k0 : Int) (a1 : ByteArray) : Ev (fun k => kind_Is.f k k0 a1) (inK k0 a1) := by
  unfold inK
  by_cases h1 : k0 = 1
  · subst h1; exact Ev.congr (fun _ => rfl) (Ev.pass (void_ev a1))
  by_cases h2 : k0 = 2
  · subst h2; exact Ev.congr (fun _ => rfl) (Ev.pass (raw_ev a1))
  by_cases h3 : k0 = 3
  · subst h3; exact Ev.congr (fun _ => rfl) (Ev.pass (rcdata_ev a1))
  by_cases h4 : k0 = 4
  · subst h4; exact Ev.congr (fun _ => rfl) (Ev.pass (special_ev a1))
  by_cases h5 : k0 = 5
  · subst h5; exact Ev.congr (fun _ => rfl) (Ev.pass (among_ev a1 _ (by decide)))
  by_cases h6 : k0 = 6
  · subst h6; exact Ev.congr (fun _ => rfl) (Ev.pass (block_ev a1))
  by_cases h7 : k0 = 7
  · subst h7; exact Ev.congr (fun _ => rfl) (Ev.pass (Ev.is (heading_is a1)))
  by_cases h8 : k0 = 8
  · subst h8; exact Ev.congr (fun _ => rfl) (Ev.pass (among_ev a1 _ (by decide)))
  by_cases h9 : k0 = 9
  · subst h9; exact Ev.congr (fun _ => rfl) (Ev.pass (table_ev a1))
  by_cases h10 : k0 = 10
  · subst h10; exact Ev.congr (fun _ => rfl) (Ev.pass (breaks_ev a1))
  by_cases h11 : k0 = 11
  · subst h11; exact Ev.congr (fun _ => rfl) (Ev.pass (marker_ev a1))
  by_cases h12 : k0 = 12
  · subst h12
    have e : setK 12 = w_table ++ w_skip := rfl
    rw [e, contains_append]
    exact Ev.congr (fun _ => rfl) (Ev.or (table_ev a1) (Ev.pass (among_ev a1 _ (by decide))))
  refine ⟨0, fun k _ => ?_⟩
  simp only [kind_Is.f, setK, if_neg h1, if_neg h2, if_neg h3, if_neg h4, if_neg h5, if_neg h6, if_neg h7, if_neg h8, if_neg h9, if_neg h10, if_neg h11, if_neg h12]
  rfl
end Go.Proofs.Ytobdmbebgdkelaa.Pure
