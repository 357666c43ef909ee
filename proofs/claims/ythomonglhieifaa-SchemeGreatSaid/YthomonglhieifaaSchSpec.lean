import Derived.Test.YthomonglhieifaaPAllx0
import Derived.Test.YthomonglhieifaaPAllx1
import Derived.Test.YthomonglhieifaaPAllx2
import Derived.Test.YthomonglhieifaaPAllx3
import Derived.Test.YthomonglhieifaaPAllx4
import Derived.Test.YthomonglhieifaaPAllx5
import Derived.Test.YthomonglhieifaaPAllx6
import Derived.Test.YthomonglhieifaaPAllx8
namespace Go.Proofs.Ythomonglhieifaa.Pure
open Go.RowKit Go.Proofs.Ythomonglhieifaa.PAll Go.Proofs.YthomonglhieifaaW.PrintWords Go.Proofs.YthomonglhieifaaW.PrintLast

/-! What scheme's functions come to, over lists of bytes. -/
theorem wrap_next {i : Nat} (h : i < 9223372036854775807) : wrap64 ((i : Int) + 1) = ((i + 1 : Nat) : Int) := by
  unfold wrap64
  omega
theorem bytes_data (s : ByteArray) : s.toList = s.data.toList := ByteArray.toList_eq s
theorem data_len (s : ByteArray) : s.data.toList.length = s.size := by simp
theorem bt_get (s : ByteArray) (i : Nat) (c : UInt8) (h : s.data.toList[i]? = some c) : bt s (i : Int) = (c.toNat : Int) := by
  obtain ⟨h1, h2⟩ := List.getElem?_eq_some_iff.1 h
  have h3 : i < s.size := by simpa using h1
  unfold bt
  rw [dif_pos (by omega), ← h2]
  rfl
theorem ext_take (s : ByteArray) (a b : Nat) : (s.extract a b).data.toList = (s.data.toList.drop a).take (b - a) := by
  have e : (s.extract a b).data = s.data.extract a b := by simp
  rw [e, Array.toList_extract, List.extract_eq_take_drop]
theorem ba_ext {a b : ByteArray} (h : a.data.toList = b.data.toList) : a = b := by
  obtain ⟨⟨a⟩⟩ := a
  obtain ⟨⟨b⟩⟩ := b
  simp at h
  rw [h]
def sLet (c : UInt8) : Bool := decide (65 ≤ c.toNat ∧ c.toNat ≤ 90) || decide (97 ≤ c.toNat ∧ c.toNat ≤ 122)
def sFig (c : UInt8) : Bool := decide (48 ≤ c.toNat ∧ c.toNat ≤ 57)
def sPart (c : UInt8) : Bool := sLet c || (sFig c || (c == 43 || (c == 45 || c == 46)))
theorem u8_all {p : UInt8 → Prop} (h : ∀ n, n < 256 → p (UInt8.ofNat n)) (c : UInt8) : p c := by
  have := h c.toNat c.toNat_lt
  simpa using this
theorem letter_f (c : UInt8) : kind_Letter.f (c.toNat : Int) = some (sLet c) := by
  revert c
  apply u8_all
  decide +kernel
theorem figure_f (c : UInt8) : kind_Figure.f (c.toNat : Int) = some (sFig c) := by
  revert c
  apply u8_all
  decide +kernel
theorem part_f (c : UInt8) : scheme_part.f (c.toNat : Int) = some (sPart c) := by
  revert c
  apply u8_all
  decide +kernel
theorem rletter_f (c : UInt8) : marginaliaref02_Letter.f (c.toNat : Int) = some (sLet c) := by
  revert c
  apply u8_all
  decide +kernel
theorem rfigure_f (c : UInt8) : marginaliaref02_Figure.f (c.toNat : Int) = some (sFig c) := by
  revert c
  apply u8_all
  decide +kernel
def schN : List UInt8 → Option (List UInt8)
  | [] => none
  | c :: r => if sLet c = true ∧ (c :: r).all sPart = true then some ((c :: r).map lowB) else none
/-- The scheme of a tidied link. -/
def schL (t : List UInt8) : Option (List UInt8) :=
  if (58 : UInt8) ∈ t then schN (t.takeWhile (· != 58)) else none
def ofS (s : ByteArray) : Option (List UInt8) := schL (tidyL s.data.toList)
def ofR (o : Option (List UInt8)) : ByteArray × Bool := match o with
  | none => (⟨#[]⟩, false)
  | some l => (⟨l.toArray⟩, true)
theorem idx_none (t : List UInt8) (h : (58 : UInt8) ∉ t) : Lib.indexByte t 58 = -1 := by
  induction t with
  | nil => rfl
  | cons c r ih =>
    simp at h
    unfold Lib.indexByte
    rw [if_neg (by simp; exact fun e => h.1 e.symm), ih h.2]
    rfl
theorem idx_some (t : List UInt8) (h : (58 : UInt8) ∈ t) : Lib.indexByte t 58 = ((t.takeWhile (· != 58)).length : Int) := by
  induction t with
  | nil => simp at h
  | cons c r ih =>
    unfold Lib.indexByte
    by_cases e : c = 58
    · subst e; simp
    · have h' : (58 : UInt8) ∈ r := by
        rcases List.mem_cons.1 h with h | h
        · exact absurd h.symm e
        · exact h
      have he : ¬ ((c == 58) = true) := by rw [beq_iff_eq]; exact e
      rw [if_neg he, ih h', List.takeWhile_cons_of_pos (by simpa using e)]
      have hn : ¬ ((((List.takeWhile (· != 58) r).length : Int) == -1) = true) := by rw [beq_iff_eq]; omega
      rw [if_neg hn]
      simp only [List.length_cons]
      omega
theorem take_eq (t : List UInt8) : t.take (t.takeWhile (· != 58)).length = t.takeWhile (· != 58) := (List.prefix_iff_eq_take.1 (List.takeWhile_prefix _)).symm
theorem cut_none (t : ByteArray) (h : (58 : UInt8) ∉ t.data.toList) : strings_Cut.f t ⟨#[58]⟩ = some (t, ⟨#[]⟩, false) := by
  unfold strings_Cut.f stringslite_Cut.f stringslite_Index.f
  rw [if_pos (show (⟨#[58]⟩ : ByteArray).data.size = 1 from rfl)]
  simp only [List.headD_cons, Option.bind_some, idx_none _ h]
  rfl
theorem cut_some (t : ByteArray) (hs : t.size ≤ 1000000) (h : (58 : UInt8) ∈ t.data.toList) : ∃ x, strings_Cut.f t ⟨#[58]⟩ = some (⟨(t.data.toList.takeWhile (· != 58)).toArray⟩, x, true) := by
  have hl := (List.takeWhile_prefix (p := fun c : UInt8 => c != 58) (l := t.data.toList)).length_le
  rw [data_len] at hl
  have hlt : (t.data.toList.takeWhile (· != 58)).length < t.size := by
    have h2 := idx_some _ h
    have : (t.data.toList.takeWhile (· != 58)) ≠ t.data.toList := by
      intro e
      rw [← e] at h
      have := List.all_eq_true.1 (List.all_takeWhile (p := fun c : UInt8 => c != 58) (l := t.data.toList)) 58 h
      simp at this
    rcases Nat.lt_or_ge (t.data.toList.takeWhile (· != 58)).length t.size with h3 | h3
    · exact h3
    · refine absurd ?_ this
      rw [← take_eq]
      exact List.take_of_length_le (by rw [data_len]; exact h3)
  unfold strings_Cut.f stringslite_Cut.f stringslite_Index.f
  rw [if_pos (show (⟨#[58]⟩ : ByteArray).data.size = 1 from rfl)]
  simp only [List.headD_cons, Option.bind_some, idx_some _ h]
  have e1 : ((⟨#[58]⟩ : ByteArray).size : Int) = 1 := rfl
  rw [e1, wrap_next (by omega)]
  rw [if_pos (by omega), if_pos (by omega), if_pos (by omega), if_pos (by omega), if_pos (by omega)]
  refine ⟨t.extract (((t.data.toList.takeWhile (· != 58)).length + 1 : Nat) : Int).toNat t.size, ?_⟩
  simp only [Option.bind_some]
  congr 1
  congr 1
  apply ba_ext
  rw [ext_take]
  simp only [List.drop_zero, Int.toNat_natCast, Nat.sub_zero]
  exact take_eq _
theorem of_l0 (x : ByteArray) (hs : x.size ≤ 1000000) : ∀ (d i : Nat), i + d = x.size →
    Ev (fun k => scheme_Of.l0 k x (x.size : Int) (i : Int)) (if (x.data.toList.drop i).all sPart = true then (⟨(x.data.toList.map lowB).toArray⟩, true) else (⟨#[]⟩, false)) := by
  intro d
  induction d with
  | zero =>
    intro i hi
    refine Ev.step (f := fun _ => some (⟨(x.data.toList.map lowB).toArray⟩, true)) (fun k => ?_) ?_
    · simp only [scheme_Of.l0, kind_Lower.f]
      rw [if_neg (by omega), if_pos (by omega)]
      simp only [Option.bind_some, lowS]
      congr 2
      apply ba_ext
      simp
    · rw [List.drop_of_length_le (by rw [data_len]; omega)]
      exact Ev.now _
  | succ d ih =>
    intro i hi
    have hg : x.data.toList[i]? = some (x.data.toList[i]'(by rw [data_len]; omega)) := List.getElem?_eq_getElem _
    generalize hc : x.data.toList[i]'(by rw [data_len]; omega) = c at hg
    have hd : x.data.toList.drop i = c :: x.data.toList.drop (i + 1) := by
      rw [List.drop_eq_getElem_cons (by rw [data_len]; omega), hc]
    by_cases hp : sPart c = true
    · refine Ev.step (f := fun k => scheme_Of.l0 k x (x.size : Int) ((i + 1 : Nat) : Int)) (fun k => ?_) ?_
      · simp only [scheme_Of.l0]
        rw [if_pos (by omega), if_pos (by omega), if_pos (by omega), bt_get x i c hg, part_f, hp, wrap_next (by omega)]
        simp
      · rw [hd, List.all_cons, hp, Bool.true_and]
        exact ih (i + 1) (by omega)
    · replace hp := Bool.eq_false_iff.mpr hp
      refine Ev.step (f := fun k => some (⟨#[]⟩, false)) (fun k => ?_) ?_
      · simp only [scheme_Of.l0]
        rw [if_pos (by omega), if_pos (by omega), if_pos (by omega), bt_get x i c hg, part_f, hp]
        simp
      · rw [hd, List.all_cons, hp, Bool.false_and]
        exact Ev.now _
theorem tidyL_len (l : List UInt8) : (tidyL l).length ≤ l.length :=
  Nat.le_trans (List.length_filter_le _ _) (List.dropWhile_suffix _).length_le
theorem of_ev (s : ByteArray) (hs : s.size ≤ 1000000) : Ev (fun k => scheme_Of.f k s) (ofR (ofS s)) := by
  have ht : scheme_tidy.f s = some ⟨(tidyL s.data.toList).toArray⟩ := by
    unfold scheme_tidy.f
    rw [if_pos (by omega)]
  unfold ofS
  have hlen := tidyL_len s.data.toList
  rw [data_len] at hlen
  generalize tidyL s.data.toList = t at ht hlen
  unfold scheme_Of.f
  rw [ht]
  simp only [Option.bind_some]
  have hT : (⟨t.toArray⟩ : ByteArray).data.toList = t := rfl
  have hsz : (⟨t.toArray⟩ : ByteArray).size = t.length := rfl
  by_cases h : (58 : UInt8) ∈ t
  · obtain ⟨x, hx⟩ := cut_some ⟨t.toArray⟩ (by rw [hsz]; omega) h
    rw [hx]
    simp only [Option.bind_some, if_true]
    unfold schL
    rw [if_pos h]
    have hl := (List.takeWhile_prefix (p := fun c : UInt8 => c != 58) (l := t)).length_le
    generalize List.takeWhile (· != 58) t = nm at hl
    have hN : (⟨nm.toArray⟩ : ByteArray).data.toList = nm := rfl
    have hNs : (⟨nm.toArray⟩ : ByteArray).size = nm.length := rfl
    rw [bytes_data, hN]
    cases nm with
    | nil =>
      refine Ev.step (f := fun _ => some (⟨#[]⟩, false)) (fun k => ?_) (Ev.now _)
      rw [if_pos rfl]
      rfl
    | cons c r =>
      have hb : bt ⟨(c :: r).toArray⟩ 0 = (c.toNat : Int) := bt_get ⟨(c :: r).toArray⟩ 0 c rfl
      refine Ev.congr (f := fun k => scheme_Of.j0 k ⟨(c :: r).toArray⟩ (!sLet c)) (fun k => ?_) ?_
      · rw [if_neg (by simp), if_pos (by rw [hNs, List.length_cons]; omega), hb, letter_f]
        rfl
      · by_cases hl1 : sLet c = true
        · rw [hl1]
          refine Ev.step (f := fun k => scheme_Of.l0 k ⟨(c :: r).toArray⟩ ((⟨(c :: r).toArray⟩ : ByteArray).size : Int) ((0 : Nat) : Int)) (fun k => ?_) ?_
          · simp [scheme_Of.j0]
          · have := of_l0 ⟨(c :: r).toArray⟩ (by rw [hNs]; omega) (⟨(c :: r).toArray⟩ : ByteArray).size 0 (by omega)
            rw [List.drop_zero, hN] at this
            by_cases ha : (c :: r).all sPart = true
            · rw [if_pos ha] at this; rw [schN, if_pos ⟨hl1, ha⟩]; exact this
            · rw [if_neg ha] at this; rw [schN, if_neg (fun e => ha e.2)]; exact this
        · replace hl1 := Bool.eq_false_iff.mpr hl1
          rw [hl1]
          refine Ev.step (f := fun k => some (⟨#[]⟩, false)) (fun k => ?_) ?_
          · simp [scheme_Of.j0]
          · rw [schN, if_neg (by rw [hl1]; simp)]
            exact Ev.now _
  · rw [cut_none ⟨t.toArray⟩ h]
    simp only [Option.bind_some]
    unfold schL
    rw [if_neg h]
    refine Ev.step (f := fun _ => some (⟨#[]⟩, false)) (fun k => ?_) (Ev.now _)
    rfl
end Go.Proofs.Ythomonglhieifaa.Pure
