-- Laid together by a program of this session (merge.py) out of its own texts and of the print's, for one law. Lean checks it.
import Derived.Test.YtnbghhddmlohoaaDoorMPa3
set_option maxHeartbeats 16000000
set_option maxRecDepth 100000
section
namespace Go.Proofs.YtnbghhddmlohoaaDoor.Pure
open Go.RowKit Go.Proofs.YtnbghhddmlohoaaDoor.PAll Go.Proofs.YtnbghhddmlohoaaDoorW.PrintWords Go.Proofs.YtnbghhddmlohoaaDoorW.PrintLast

theorem wrap_next {i : Nat} (h : i < 9223372036854775807) : wrap64 ((i : Int) + 1) = ((i + 1 : Nat) : Int) := by
  unfold wrap64
  omega
theorem bytes_data (s : ByteArray) : s.toList = s.data.toList := ByteArray.toList_eq s
theorem data_len (s : ByteArray) : s.data.toList.length = s.size := by simp
theorem bt_get (s : ByteArray) (i : Nat) (c : UInt8) (h : s.data.toList[i]? = some c) : bt s (i : Int) = (c.toNat : Int) := by
  obtain ⟨h1, h2⟩ := List.getElem?_eq_some_iff.1 h
  have h3 : i < s.size := by simpa using h1
  unfold bt
  rw [dif_pos (by omega), ← h2]
  rfl
theorem ext_take (s : ByteArray) (a b : Nat) : (s.extract a b).data.toList = (s.data.toList.drop a).take (b - a) := by
  have e : (s.extract a b).data = s.data.extract a b := by simp
  rw [e, Array.toList_extract, List.extract_eq_take_drop]
theorem ba_ext {a b : ByteArray} (h : a.data.toList = b.data.toList) : a = b := by
  obtain ⟨⟨a⟩⟩ := a
  obtain ⟨⟨b⟩⟩ := b
  simp at h
  rw [h]
def sLet (c : UInt8) : Bool := decide (65 ≤ c.toNat ∧ c.toNat ≤ 90) || decide (97 ≤ c.toNat ∧ c.toNat ≤ 122)
def sFig (c : UInt8) : Bool := decide (48 ≤ c.toNat ∧ c.toNat ≤ 57)
def sPart (c : UInt8) : Bool := sLet c || (sFig c || (c == 43 || (c == 45 || c == 46)))
theorem u8_all {p : UInt8 → Prop} (h : ∀ n, n < 256 → p (UInt8.ofNat n)) (c : UInt8) : p c := by
  have := h c.toNat c.toNat_lt
  simpa using this
theorem letter_f (c : UInt8) : kind_Letter.f (c.toNat : Int) = some (sLet c) := by
  revert c
  apply u8_all
  decide +kernel
theorem part_f (c : UInt8) : scheme_part.f (c.toNat : Int) = some (sPart c) := by
  revert c
  apply u8_all
  decide +kernel
theorem rletter_f (c : UInt8) : r02_Letter.f (c.toNat : Int) = some (sLet c) := by
  revert c
  apply u8_all
  decide +kernel
theorem rfigure_f (c : UInt8) : r02_Figure.f (c.toNat : Int) = some (sFig c) := by
  revert c
  apply u8_all
  decide +kernel
def schN : List UInt8 → Option (List UInt8)
  | [] => none
  | c :: r => if sLet c = true ∧ (c :: r).all sPart = true then some ((c :: r).map lowB) else none
def schL (t : List UInt8) : Option (List UInt8) :=
  if (58 : UInt8) ∈ t then schN (t.takeWhile (· != 58)) else none
def ofS (s : ByteArray) : Option (List UInt8) := schL (tidyL s.data.toList)
def ofR (o : Option (List UInt8)) : ByteArray × Bool := match o with
  | none => (⟨#[]⟩, false)
  | some l => (⟨l.toArray⟩, true)
theorem idx_none (t : List UInt8) (h : (58 : UInt8) ∉ t) : Lib.indexByte t 58 = -1 := by
  induction t with
  | nil => rfl
  | cons c r ih =>
    simp at h
    unfold Lib.indexByte
    rw [if_neg (by simp; exact fun e => h.1 e.symm), ih h.2]
    rfl
theorem idx_some (t : List UInt8) (h : (58 : UInt8) ∈ t) : Lib.indexByte t 58 = ((t.takeWhile (· != 58)).length : Int) := by
 induction t with
 | nil => simp at h
 | cons c r ih =>
  unfold Lib.indexByte
  by_cases e : c = 58
  ·subst e; simp
  have h' : (58 : UInt8) ∈ r := by
   rcases List.mem_cons.1 h with h | h
   ·exact absurd h.symm e
   exact h
  have he : ¬ ((c == 58) = true) := by rw [beq_iff_eq]; exact e
  rw [if_neg he, ih h', List.takeWhile_cons_of_pos (by simpa using e)];have hn : ¬ ((((List.takeWhile (· != 58) r).length : Int) == -1) = true) := by rw [beq_iff_eq]; omega
  rw [if_neg hn];simp only [List.length_cons]
  omega
theorem take_eq (t : List UInt8) : t.take (t.takeWhile (· != 58)).length = t.takeWhile (· != 58) := (List.prefix_iff_eq_take.1 (List.takeWhile_prefix _)).symm
theorem cut_none (t : ByteArray) (h : (58 : UInt8) ∉ t.data.toList) : strings_Cut.f t ⟨#[58]⟩ = some (t, ⟨#[]⟩, false) := by
  unfold strings_Cut.f stringslite_Cut.f stringslite_Index.f
  rw [if_pos (show (⟨#[58]⟩ : ByteArray).data.size = 1 from rfl)]
  simp only [List.headD_cons, Option.bind_some, idx_none _ h]
  rfl
theorem cut_some (t : ByteArray) (hs : t.size ≤ 1000000) (h : (58 : UInt8) ∈ t.data.toList) : ∃ x, strings_Cut.f t ⟨#[58]⟩ = some (⟨(t.data.toList.takeWhile (· != 58)).toArray⟩, x, true) := by
 have hl := (List.takeWhile_prefix (p := fun c : UInt8 => c != 58) (l := t.data.toList)).length_le;rw [data_len] at hl
 have hlt : (t.data.toList.takeWhile (· != 58)).length < t.size := by
  have h2 := idx_some _ h
  have : (t.data.toList.takeWhile (· != 58)) ≠ t.data.toList := by
   intro e;rw [← e] at h;have := List.all_eq_true.1 (List.all_takeWhile (p := fun c : UInt8 => c != 58) (l := t.data.toList)) 58 h
   simp at this
  rcases Nat.lt_or_ge (t.data.toList.takeWhile (· != 58)).length t.size with h3 | h3
  ·exact h3
  refine absurd ?_ this;rw [← take_eq];exact List.take_of_length_le (by rw [data_len]; exact h3)
 unfold strings_Cut.f stringslite_Cut.f stringslite_Index.f;rw [if_pos (show (⟨#[58]⟩ : ByteArray).data.size = 1 from rfl)];simp only [List.headD_cons, Option.bind_some, idx_some _ h];have e1 : ((⟨#[58]⟩ : ByteArray).size : Int) = 1 := rfl;rw [e1, wrap_next (by omega)];rw [if_pos (by omega), if_pos (by omega), if_pos (by omega), if_pos (by omega), if_pos (by omega)];refine ⟨t.extract (((t.data.toList.takeWhile (· != 58)).length + 1 : Nat) : Int).toNat t.size, ?_⟩;simp only [Option.bind_some]
 congr 1
 congr 1
 apply ba_ext
 rw [ext_take];simp only [List.drop_zero, Int.toNat_natCast, Nat.sub_zero];exact take_eq _
theorem of_l0 (x : ByteArray) (hs : x.size ≤ 1000000) : ∀ (d i : Nat), i + d = x.size →
  Ev (fun k => scheme_Of.l0 k x (x.size : Int) (i : Int)) (if (x.data.toList.drop i).all sPart = true then (⟨(x.data.toList.map lowB).toArray⟩, true) else (⟨#[]⟩, false)) := by
 intro d
 induction d with
 | zero =>
  intro i hi;refine Ev.step (f := fun _ => some (⟨(x.data.toList.map lowB).toArray⟩, true)) (fun k => ?_) ?_
  ·simp only [scheme_Of.l0, kind_Lower.f];rw [if_neg (by omega), if_pos (by omega)];simp only [Option.bind_some, lowS]
   congr 2
   apply ba_ext
   simp
  rw [List.drop_of_length_le (by rw [data_len]; omega)];exact Ev.now _
 | succ d ih =>
  intro i hi;have hg : x.data.toList[i]? = some (x.data.toList[i]'(by rw [data_len]; omega)) := List.getElem?_eq_getElem _;generalize hc : x.data.toList[i]'(by rw [data_len]; omega) = c at hg
  have hd : x.data.toList.drop i = c :: x.data.toList.drop (i + 1) := by
   rw [List.drop_eq_getElem_cons (by rw [data_len]; omega), hc]
  by_cases hp : sPart c = true
  ·refine Ev.step (f := fun k => scheme_Of.l0 k x (x.size : Int) ((i + 1 : Nat) : Int)) (fun k => ?_) ?_
   ·simp only [scheme_Of.l0];rw [if_pos (by omega), if_pos (by omega), if_pos (by omega), bt_get x i c hg, part_f, hp, wrap_next (by omega)]
    simp
   rw [hd, List.all_cons, hp, Bool.true_and];exact ih (i + 1) (by omega)
  replace hp := bf hp;refine Ev.step (f := fun k => some (⟨#[]⟩, false)) (fun k => ?_) ?_
  ·simp only [scheme_Of.l0];rw [if_pos (by omega), if_pos (by omega), if_pos (by omega), bt_get x i c hg, part_f, hp]
   simp
  rw [hd, List.all_cons, hp, Bool.false_and];exact Ev.now _
theorem tidyL_len (l : List UInt8) : (tidyL l).length ≤ l.length :=
  Nat.le_trans (List.length_filter_le _ _) (List.dropWhile_suffix _).length_le
theorem of_ev (s : ByteArray) (hs : s.size ≤ 1000000) : Ev (fun k => scheme_Of.f k s) (ofR (ofS s)) := by
 have ht : scheme_tidy.f s = some ⟨(tidyL s.data.toList).toArray⟩ := by
  unfold scheme_tidy.f;rw [if_pos (by omega)]
 unfold ofS;have hlen := tidyL_len s.data.toList;rw [data_len] at hlen;generalize tidyL s.data.toList = t at ht hlen;unfold scheme_Of.f;rw [ht];simp only [Option.bind_some];have hT : (⟨t.toArray⟩ : ByteArray).data.toList = t := rfl;have hsz : (⟨t.toArray⟩ : ByteArray).size = t.length := rfl
 by_cases h : (58 : UInt8) ∈ t
 ·obtain ⟨x, hx⟩ := cut_some ⟨t.toArray⟩ (by rw [hsz]; omega) h;rw [hx];simp only [Option.bind_some, if_true];unfold schL;rw [if_pos h];have hl := (List.takeWhile_prefix (p := fun c : UInt8 => c != 58) (l := t)).length_le;generalize List.takeWhile (· != 58) t = nm at hl;have hN : (⟨nm.toArray⟩ : ByteArray).data.toList = nm := rfl;have hNs : (⟨nm.toArray⟩ : ByteArray).size = nm.length := rfl;rw [bytes_data, hN]
  cases nm with
  | nil =>
   refine Ev.step (f := fun _ => some (⟨#[]⟩, false)) (fun k => ?_) (Ev.now _);rw [if_pos rfl];rfl
  | cons c r =>
   have hb : bt ⟨(c :: r).toArray⟩ 0 = (c.toNat : Int) := bt_get ⟨(c :: r).toArray⟩ 0 c rfl;refine Ev.congr (f := fun k => scheme_Of.j0 k ⟨(c :: r).toArray⟩ (!sLet c)) (fun k => ?_) ?_
   ·rw [if_neg (by simp), if_pos (by rw [hNs, List.length_cons]; omega), hb, letter_f];rfl
   by_cases hl1 : sLet c = true
   ·rw [hl1];refine Ev.step (f := fun k => scheme_Of.l0 k ⟨(c :: r).toArray⟩ ((⟨(c :: r).toArray⟩ : ByteArray).size : Int) ((0 : Nat) : Int)) (fun k => ?_) ?_
    ·simp [scheme_Of.j0]
    have := of_l0 ⟨(c :: r).toArray⟩ (by rw [hNs]; omega) (⟨(c :: r).toArray⟩ : ByteArray).size 0 (by omega);rw [List.drop_zero, hN] at this
    by_cases ha : (c :: r).all sPart = true
    ·rw [if_pos ha] at this; rw [schN, if_pos ⟨hl1, ha⟩]; exact this
    rw [if_neg ha] at this; rw [schN, if_neg (fun e => ha e.2)]; exact this
   replace hl1 := bf hl1;rw [hl1];refine Ev.step (f := fun k => some (⟨#[]⟩, false)) (fun k => ?_) ?_
   ·simp [scheme_Of.j0]
   rw [schN, if_neg (by rw [hl1]; simp)];exact Ev.now _
 rw [cut_none ⟨t.toArray⟩ h];simp only [Option.bind_some];unfold schL;rw [if_neg h];refine Ev.step (f := fun _ => some (⟨#[]⟩, false)) (fun k => ?_) (Ev.now _);rfl
theorem drop_get (s : ByteArray) (i : Nat) (h : i < s.size) : ∃ c, s.data.toList[i]? = some c ∧ s.data.toList.drop i = c :: s.data.toList.drop (i + 1) := by
  have h' : i < s.data.toList.length := by rw [data_len]; exact h
  exact ⟨s.data.toList[i], List.getElem?_eq_getElem h', List.drop_eq_getElem_cons h'⟩
theorem append_data (a b : ByteArray) : (a ++ b).data.toList = a.data.toList ++ b.data.toList := by simp
theorem rtidy_l1 (x : ByteArray) (hs : x.size ≤ 1000000) : ∀ (d i : Nat) (acc : ByteArray), i + d = x.size → acc.size ≤ i →
  Ev (fun k => r10_tidy.l1 k x acc (i : Int)) ⟨(acc.data.toList ++ (x.data.toList.drop i).filter keepC).toArray⟩ := by
 intro d
 induction d with
 | zero =>
  intro i acc hi ha;refine Ev.step (f := fun _ => some acc) (fun k => ?_) ?_
  ·simp only [r10_tidy.l1];rw [if_neg (by omega)]
  rw [List.drop_of_length_le (by rw [data_len]; omega)];have : (⟨(acc.data.toList ++ List.filter keepC []).toArray⟩ : ByteArray) = acc := ba_ext (by simp);rw [this];exact Ev.now _
 | succ d ih =>
  intro i acc hi ha;obtain ⟨c, hc, hd⟩ := drop_get x i (by omega);have hb := bt_get x i c hc;rw [hd, List.filter_cons]
  by_cases h9 : (c.toNat : Int) = 9
  ·refine Ev.step (f := fun k => r10_tidy.l1 k x acc ((i + 1 : Nat) : Int)) (fun k => ?_) ?_
   ·simp only [r10_tidy.l1];rw [if_pos (by omega), if_pos (by omega), hb, if_pos h9, wrap_next (by omega)]
   rw [if_neg (by simp [keepC]; omega)];exact ih (i + 1) acc (by omega) (by omega)
  by_cases h10 : (c.toNat : Int) = 10
  ·refine Ev.step (f := fun k => r10_tidy.l1 k x acc ((i + 1 : Nat) : Int)) (fun k => ?_) ?_
   ·simp only [r10_tidy.l1];rw [if_pos (by omega), if_pos (by omega), hb, if_neg h9, if_pos h10, wrap_next (by omega)]
   rw [if_neg (by simp [keepC]; omega)];exact ih (i + 1) acc (by omega) (by omega)
  by_cases h13 : (c.toNat : Int) = 13
  ·refine Ev.step (f := fun k => r10_tidy.l1 k x acc ((i + 1 : Nat) : Int)) (fun k => ?_) ?_
   ·simp only [r10_tidy.l1];rw [if_pos (by omega), if_pos (by omega), hb, if_neg h9, if_neg h10, if_pos h13, wrap_next (by omega)]
   rw [if_neg (by simp [keepC]; omega)];exact ih (i + 1) acc (by omega) (by omega)
  have he : (x.extract (i : Int).toNat ((i + 1 : Nat) : Int).toNat).data.toList = [c] := by
   rw [ext_take, Int.toNat_natCast, Int.toNat_natCast, hd, show i + 1 - i = 1 by omega];rfl
  have hes : (x.extract (i : Int).toNat ((i + 1 : Nat) : Int).toNat).size = 1 := by
   rw [← data_len, he]; rfl
  refine Ev.step (f := fun k => r10_tidy.l1 k x (acc ++ x.extract (i : Int).toNat ((i + 1 : Nat) : Int).toNat) ((i + 1 : Nat) : Int)) (fun k => ?_) ?_
  ·simp only [r10_tidy.l1];rw [if_pos (by omega), if_pos (by omega), hb, if_neg h9, if_neg h10, if_neg h13, wrap_next (by omega)];rw [if_pos (by omega), if_pos (by omega), if_pos (by rw [hes]; omega)]
  rw [if_pos (by simp [keepC]; omega)];have h := ih (i + 1) (acc ++ x.extract (i : Int).toNat ((i + 1 : Nat) : Int).toNat) (by omega) (by rw [ByteArray.size_append, hes]; omega);rw [append_data, he, List.append_assoc] at h;exact h
theorem rtidy_l0 : ∀ (d : Nat) (x : ByteArray), x.size = d → d ≤ 1000000 → Ev (fun k => r10_tidy.l0 k x) ⟨(tidyL x.data.toList).toArray⟩ := by
 have hend : ∀ (x : ByteArray), x.size ≤ 1000000 → Ev (fun k => r10_tidy.j1 k x) ⟨(x.data.toList.filter keepC).toArray⟩ := by
  intro x hx;refine Ev.step (f := fun k => r10_tidy.l1 k x ⟨#[]⟩ ((0 : Nat) : Int)) (fun k => by simp only [r10_tidy.j1]; rfl) ?_;have := rtidy_l1 x hx x.size 0 ⟨#[]⟩ (by omega) (Nat.le_refl _);exact this
 intro d
 induction d with
 | zero =>
  intro x hx hd;have hn : x.data.toList = [] := List.eq_nil_of_length_eq_zero (by rw [data_len]; exact hx);refine Ev.step (f := fun k => r10_tidy.j1 k x) (fun k => ?_) ?_
  ·simp only [r10_tidy.l0];rw [if_pos (by rw [bytes_data, hn])]
  have := hend x (by omega);rw [hn] at this ⊢;exact this
 | succ d ih =>
  intro x hx hd;obtain ⟨c, hc, hdr⟩ := drop_get x 0 (by omega);rw [List.drop_zero] at hdr;have hb : bt x 0 = (c.toNat : Int) := bt_get x 0 c hc
  by_cases hl : (c.toNat : Int) ≤ 32
  ·refine Ev.step (f := fun k => r10_tidy.l0 k (x.extract 1 x.size)) (fun k => ?_) ?_
   ·simp only [r10_tidy.l0];rw [if_neg (by rw [bytes_data, hdr]; simp), if_pos (by omega), hb, if_pos hl, if_pos (by omega)]
   have he : (x.extract 1 x.size).data.toList = x.data.toList.drop 1 := Lib.extract_to_end x 1;have h := ih (x.extract 1 x.size) (by rw [← data_len, he, List.length_drop, data_len]; omega) (by omega);rw [he] at h
   have e2 : tidyL x.data.toList = tidyL (x.data.toList.drop 1) := by
    unfold tidyL;rw [hdr, List.dropWhile_cons_of_pos (by simp [lowC]; omega)];rfl
   rw [e2];exact h
  refine Ev.step (f := fun k => r10_tidy.j1 k x) (fun k => ?_) ?_
  ·simp only [r10_tidy.l0];rw [if_neg (by rw [bytes_data, hdr]; simp), if_pos (by omega), hb, if_neg hl]
  have e2 : tidyL x.data.toList = x.data.toList.filter keepC := by
   unfold tidyL;rw [hdr, List.dropWhile_cons_of_neg (by simp [lowC]; omega)]
  rw [e2];exact hend x (by omega)
theorem low_num (c : UInt8) : (65 ≤ (c.toNat : Int) → (c.toNat : Int) ≤ 90 → ((lowB c).toNat : Int) = ((c.toNat : Int) + 32) % 256) ∧ (¬ (65 ≤ (c.toNat : Int) ∧ (c.toNat : Int) ≤ 90) → lowB c = c) := by
  revert c
  apply u8_all
  decide +kernel
def numsOf (l : List UInt8) : List Int := l.map fun c => (c.toNat : Int)
theorem strOf_nums (l : List UInt8) : strOfNums (numsOf l) = ⟨l.toArray⟩ := by
  unfold strOfNums numsOf
  congr 1
  rw [List.map_map]
  congr 1
  conv => rhs; rw [← List.map_id l]
  apply List.map_congr_left
  intro c _
  simp
theorem rlower_l0 (x : ByteArray) (hs : x.size ≤ 1000000) : ∀ (d i : Nat), i + d = x.size →
  Ev (fun k => r02_Lower.l0 k x (numsOf ((x.data.toList.take i).map lowB)) (i : Int)) ⟨(x.data.toList.map lowB).toArray⟩ := by
 intro d
 induction d with
 | zero =>
  intro i hi;refine Ev.step (f := fun _ => some ⟨(x.data.toList.map lowB).toArray⟩) (fun k => ?_) (Ev.now _);simp only [r02_Lower.l0];rw [if_neg (by omega), strOf_nums, List.take_of_length_le (by rw [data_len]; omega)]
 | succ d ih =>
  intro i hi;obtain ⟨c, hc, hd⟩ := drop_get x i (by omega);have hb := bt_get x i c hc
  have hlen : (numsOf ((x.data.toList.take i).map lowB)).length ≤ i := by
   unfold numsOf;rw [List.length_map, List.length_map, List.length_take]
   omega
  have hsn : ∀ n : Int, ((lowB c).toNat : Int) = n → numsOf ((x.data.toList.take i).map lowB) ++ [n] = numsOf ((x.data.toList.take (i + 1)).map lowB) := by
   intro n hn;rw [List.take_add_one, hc]
   simp [numsOf, hn]
  have hl := low_num c;refine Ev.step (f := fun k => r02_Lower.l0 k x (numsOf ((x.data.toList.take (i + 1)).map lowB)) ((i + 1 : Nat) : Int)) (fun k => ?_) (ih (i + 1) (by omega));simp only [r02_Lower.l0];rw [if_pos (by omega), if_pos (by omega), hb, wrap_next (by omega)]
  by_cases h1 : (c.toNat : Int) ≥ 65
  ·by_cases h2 : (c.toNat : Int) ≤ 90
   ·rw [if_pos h1, if_pos h2, if_pos (by omega), hsn _ (hl.1 h1 h2)]
   rw [if_pos h1, if_neg h2, if_pos (by omega), hsn _ (by rw [hl.2 (fun e => h2 e.2)])]
  rw [if_neg h1, if_pos (by omega), hsn _ (by rw [hl.2 (fun e => h1 e.1)])]
theorem rlower_ev (x : ByteArray) (hs : x.size ≤ 1000000) : Ev (fun k => r02_Lower.f k x) ⟨(x.data.toList.map lowB).toArray⟩ := by
  have := rlower_l0 x hs x.size 0 (by omega)
  rw [List.take_zero] at this
  exact this
def refN : List UInt8 → List UInt8 → Option (List UInt8)
  | _, [] => none
  | p, c :: r => if c = 58 then some (p.map lowB) else if sPart c = true then refN (p ++ [c]) r else none
theorem refN_eq (r : List UInt8) : ∀ p, refN p r = if (58 : UInt8) ∈ r ∧ (r.takeWhile (· != 58)).all sPart = true then some ((p ++ r.takeWhile (· != 58)).map lowB) else none := by
 induction r with
 | nil => intro p; simp [refN]
 | cons c r ih =>
  intro p;rw [refN]
  by_cases h : c = 58
  ·subst h; simp
  rw [if_neg h, List.takeWhile_cons_of_pos (by simpa using h), List.all_cons]
  by_cases hp : sPart c = true
  ·rw [if_pos hp, ih, hp, Bool.true_and]
   have e : (58 : UInt8) ∈ c :: r ↔ (58 : UInt8) ∈ r := by
    rw [List.mem_cons]; exact ⟨fun o => o.resolve_left (fun e => h e.symm), Or.inr⟩
   simp only [e, List.append_assoc, List.cons_append, List.nil_append]
  rw [if_neg hp, if_neg];rintro ⟨_, h2⟩;rw [Bool.and_eq_true] at h2;exact hp h2.1
theorem schL_cons (c : UInt8) (r : List UInt8) : schL (c :: r) = if sLet c = true then refN [] (c :: r) else none := by
 unfold schL;rw [refN_eq, List.nil_append]
 by_cases h : c = 58
 ·subst h;rw [if_pos (by simp), if_neg (by decide)]
  simp [schN]
 rw [List.takeWhile_cons_of_pos (by simpa using h), schN]
 by_cases h1 : (58 : UInt8) ∈ c :: r
 ·by_cases h2 : sLet c = true
  ·rw [if_pos h1, if_pos h2]
   by_cases h3 : (c :: r.takeWhile (· != 58)).all sPart = true
   ·rw [if_pos ⟨h2, h3⟩, if_pos ⟨h1, h3⟩]
   rw [if_neg (fun e => h3 e.2), if_neg (fun e => h3 e.2)]
  rw [if_pos h1, if_neg h2, if_neg (fun e => h2 e.1)]
 rw [if_neg h1]
 split
 ·rw [if_neg (fun e => h1 e.1)]
 rfl
theorem rof_l0 (x : ByteArray) (hs : x.size ≤ 1000000) : ∀ (d i : Nat), i + d = x.size →
  Ev (fun k => r10_Of.l0 k x (i : Int)) (ofR (refN (x.data.toList.take i) (x.data.toList.drop i))) := by
 intro d
 induction d with
 | zero =>
  intro i hi;refine Ev.step (f := fun _ => some (⟨#[]⟩, false)) (fun k => ?_) ?_
  ·simp only [r10_Of.l0];rw [if_neg (by omega)]
  rw [List.drop_of_length_le (by rw [data_len]; omega)];exact Ev.now _
 | succ d ih =>
  intro i hi;obtain ⟨c, hc, hd⟩ := drop_get x i (by omega);have hb := bt_get x i c hc;rw [hd, refN]
  by_cases h : c = 58
  ·rw [if_pos h];refine Ev.step (f := fun k => (r02_Lower.f k (x.extract 0 (i : Int).toNat)).bind fun t => some (t, true)) (fun k => ?_) ?_
   ·simp only [r10_Of.l0];rw [if_pos (by omega), if_pos (by omega), hb, if_pos (by rw [h]; rfl), if_pos (by omega)]
   have he : (x.extract 0 (i : Int).toNat).data.toList = x.data.toList.take i := by
    rw [ext_take]; simp
   have hl := rlower_ev (x.extract 0 (i : Int).toNat) (by rw [← data_len, he, List.length_take, data_len]; omega);rw [he] at hl;exact Ev.bind (f := fun _ t => some (t, true)) hl (Ev.now _)
  have hn : ¬ (c.toNat : Int) = 58 := by
   intro e;exact h (UInt8.toNat.inj (by rw [show (58 : UInt8).toNat = 58 from rfl]; omega))
  rw [if_neg h];have htk : x.data.toList.take i ++ [c] = x.data.toList.take (i + 1) := by rw [List.take_add_one, hc]; rfl
  rw [htk]
  by_cases hp : sPart c = true
  ·rw [if_pos hp];refine Ev.step (f := fun k => r10_Of.l0 k x ((i + 1 : Nat) : Int)) (fun k => ?_) (ih (i + 1) (by omega));simp only [r10_Of.l0];rw [if_pos (by omega), if_pos (by omega), hb, if_neg hn, rletter_f, rfigure_f, wrap_next (by omega)];unfold sPart at hp;simp only [Option.bind_some]
   by_cases q1 : sLet c = true
   ·rw [if_pos q1]
   by_cases q2 : sFig c = true
   ·rw [if_neg q1, if_pos q2]
   rw [if_neg q1, if_neg q2]
   simp [q1, q2] at hp
   rcases hp with rfl | rfl | rfl
   ·rw [if_pos (by decide)]
   ·rw [if_neg (by decide), if_pos (by decide)]
   rw [if_neg (by decide), if_neg (by decide), if_pos (by decide)]
  rw [if_neg hp];refine Ev.step (f := fun k => some (⟨#[]⟩, false)) (fun k => ?_) (Ev.now _);simp only [r10_Of.l0];rw [if_pos (by omega), if_pos (by omega), hb, if_neg hn, rletter_f, rfigure_f];unfold sPart at hp
  simp at hp
  obtain ⟨p1, p2, p3, p4, p5⟩ := hp;have u : ∀ (a : UInt8) (n : Nat), a.toNat = n → c ≠ a → ¬ (c.toNat : Int) = (n : Int) := fun a n ha hne e => hne (UInt8.toNat.inj (by omega))
  simp only [Option.bind_some];rw [if_neg (by rw [p1]; simp), if_neg (by rw [p2]; simp), if_neg (show ¬ (c.toNat : Int) = 43 from u 43 43 rfl p3), if_neg (show ¬ (c.toNat : Int) = 45 from u 45 45 rfl p4), if_neg (show ¬ (c.toNat : Int) = 46 from u 46 46 rfl p5)]
theorem rof_ev (s : ByteArray) (hs : s.size ≤ 1000000) : Ev (fun k => r10_Of.f k s) (ofR (ofS s)) := by
 have ht : Ev (fun k => r10_tidy.f k s) ⟨(tidyL s.data.toList).toArray⟩ := rtidy_l0 s.size s rfl hs;have hlen := tidyL_len s.data.toList;rw [data_len] at hlen;unfold ofS;generalize tidyL s.data.toList = t at ht hlen;have hT : (⟨t.toArray⟩ : ByteArray).data.toList = t := rfl;have hsz : (⟨t.toArray⟩ : ByteArray).size = t.length := rfl;unfold r10_Of.f;refine Ev.bind (f := fun k t131 => if t131.toList = ([] : List UInt8) then r10_Of.j0 k t131 true else if 0 < (t131.size : Int) then ((r02_Letter.f (bt t131 0)).bind fun t132 => r10_Of.j0 k t131 (!t132)) else none) ht ?_;rw [bytes_data, hT]
 cases t with
 | nil =>
  refine Ev.step (f := fun _ => some (⟨#[]⟩, false)) (fun k => ?_) (Ev.now _);rw [if_pos rfl];rfl
 | cons c r =>
  have hb : bt ⟨(c :: r).toArray⟩ 0 = (c.toNat : Int) := bt_get ⟨(c :: r).toArray⟩ 0 c rfl;refine Ev.congr (f := fun k => r10_Of.j0 k ⟨(c :: r).toArray⟩ (!sLet c)) (fun k => ?_) ?_
  ·rw [if_neg (by simp), if_pos (by rw [hsz, List.length_cons]; omega), hb, rletter_f];rfl
  rw [schL_cons]
  by_cases hl1 : sLet c = true
  ·rw [hl1, if_pos rfl];refine Ev.step (f := fun k => r10_Of.l0 k ⟨(c :: r).toArray⟩ ((0 : Nat) : Int)) (fun k => ?_) ?_
   ·simp [r10_Of.j0]
   exact rof_l0 ⟨(c :: r).toArray⟩ (by rw [hsz]; omega) (⟨(c :: r).toArray⟩ : ByteArray).size 0 (by omega)
  rw [if_neg hl1];replace hl1 := bf hl1;rw [hl1];refine Ev.step (f := fun k => some (⟨#[]⟩, false)) (fun k => ?_) (Ev.now _)
  simp [r10_Of.j0]
def safeS (s : ByteArray) (l : List ByteArray) : Bool := match ofS s with
  | none => true
  | some t => l.any fun x => x.data.toList == t
theorem rd_at (l : List ByteArray) (i : Nat) (h : i < l.length) : rdOf ByteArray.empty l (i : Int) = l[i] := by
  simp [rdOf, List.getD_eq_getElem?_getD, h]
theorem index_l0 (l : List ByteArray) (x : ByteArray) (hl : l.length ≤ 1000000) : ∀ (d i : Nat), i + d = l.length →
  ∃ n : Int, Ev (fun k => slI_.l0 k l x (l.length : Int) (i : Int)) n ∧ decide (n ≥ 0) = (l.drop i).any (fun y => y.data.toList == x.data.toList) := by
 intro d
 induction d with
 | zero =>
  intro i hi;refine ⟨-1, Ev.step (f := fun _ => some (-1)) (fun k => ?_) (Ev.now _), ?_⟩
  ·simp only [slI_.l0];rw [if_neg (by omega)]
  rw [List.drop_of_length_le (by omega)]; rfl
 | succ d ih =>
  intro i hi;have hlt : i < l.length := by omega
  rw [List.drop_eq_getElem_cons hlt, List.any_cons]
  by_cases h : l[i].data.toList = x.data.toList
  ·refine ⟨(i : Int), Ev.step (f := fun _ => some (i : Int)) (fun k => ?_) (Ev.now _), ?_⟩
   ·simp only [slI_.l0];rw [if_pos (by omega), if_pos (by omega), if_pos (by omega), rd_at l i hlt, bytes_data, bytes_data, if_pos h.symm]
   rw [h, beq_self_eq_true, Bool.true_or, decide_eq_true (by omega)]
  obtain ⟨n, h1, h2⟩ := ih (i + 1) (by omega);refine ⟨n, Ev.step (f := fun k => slI_.l0 k l x (l.length : Int) ((i + 1 : Nat) : Int)) (fun k => ?_) h1, ?_⟩
  ·simp only [slI_.l0];rw [if_pos (by omega), if_pos (by omega), if_pos (by omega), rd_at l i hlt, bytes_data, bytes_data, if_neg (fun e => h e.symm), wrap_next (by omega)]
  have e : (l[i].data.toList == x.data.toList) = false := beq_eq_false_iff_ne.mpr h;rw [h2, e, Bool.false_or]
theorem contains_ev (l : List ByteArray) (x : ByteArray) (hl : l.length ≤ 1000000) : Ev (fun k => slC_.f k l x) (l.any fun y => y.data.toList == x.data.toList) := by
 obtain ⟨n, h1, h2⟩ := index_l0 l x hl l.length 0 (by omega);rw [List.drop_zero] at h2;rw [← h2];unfold slC_.f;exact Ev.bind (f := fun _ t => some (decide (t ≥ 0))) h1 (Ev.now _)
theorem safe_ev (s : ByteArray) (l : List ByteArray) (hs : s.size ≤ 1000000) (hl : l.length ≤ 1000000) : Ev (fun k => scheme_Safe.f k s l) (safeS s l) := by
 unfold scheme_Safe.f safeS;have h := of_ev s hs
 cases ho : ofS s with
 | none =>
  rw [ho] at h;refine Ev.bind (f := fun k bt => if bt.2 = true then ((slC_.f k l bt.1).bind fun t118 => some t118) else some true) h ?_;exact Ev.congr (f := fun _ => some true) (fun k => rfl) (Ev.now _)
 | some t =>
  rw [ho] at h;refine Ev.bind (f := fun k bt => if bt.2 = true then ((slC_.f k l bt.1).bind fun t118 => some t118) else some true) h ?_;exact Ev.bind (f := fun _ t => some t) (contains_ev l ⟨t.toArray⟩ hl) (Ev.now _)
theorem rsafe_l0 (l : List ByteArray) (x : ByteArray) (hl : l.length ≤ 1000000) : ∀ (d i : Nat), i + d = l.length →
  Ev (fun k => r10_Safe.l0 k l x (i : Int)) ((l.drop i).any (fun y => y.data.toList == x.data.toList)) := by
 intro d
 induction d with
 | zero =>
  intro i hi;refine Ev.step (f := fun _ => some false) (fun k => ?_) ?_
  ·simp only [r10_Safe.l0];rw [if_neg (by omega)]
  rw [List.drop_of_length_le (by omega)]; exact Ev.now _
 | succ d ih =>
  intro i hi;have hlt : i < l.length := by omega
  rw [List.drop_eq_getElem_cons hlt, List.any_cons]
  by_cases h : l[i].data.toList = x.data.toList
  ·refine Ev.step (f := fun _ => some true) (fun k => ?_) ?_
   ·simp only [r10_Safe.l0];rw [if_pos (by omega), if_pos (by omega), rd_at l i hlt, bytes_data, bytes_data, if_pos h]
   rw [h, beq_self_eq_true, Bool.true_or]; exact Ev.now _
  refine Ev.step (f := fun k => r10_Safe.l0 k l x ((i + 1 : Nat) : Int)) (fun k => ?_) ?_
  ·simp only [r10_Safe.l0];rw [if_pos (by omega), if_pos (by omega), rd_at l i hlt, bytes_data, bytes_data, if_neg h, wrap_next (by omega)]
  have e : (l[i].data.toList == x.data.toList) = false := beq_eq_false_iff_ne.mpr h;rw [e, Bool.false_or];exact ih (i + 1) (by omega)
theorem rsafe_ev (s : ByteArray) (l : List ByteArray) (hs : s.size ≤ 1000000) (hl : l.length ≤ 1000000) : Ev (fun k => r10_Safe.f k s l) (safeS s l) := by
 unfold r10_Safe.f safeS;have h := rof_ev s hs
 cases ho : ofS s with
 | none =>
  rw [ho] at h;refine Ev.bind (f := fun k bt => if bt.2 = true then r10_Safe.l0 k l bt.1 0 else some true) h ?_;exact Ev.congr (f := fun _ => some true) (fun k => rfl) (Ev.now _)
 | some t =>
  rw [ho] at h;refine Ev.bind (f := fun k bt => if bt.2 = true then r10_Safe.l0 k l bt.1 0 else some true) h ?_;have := rsafe_l0 l ⟨t.toArray⟩ hl l.length 0 (by omega);rw [List.drop_zero] at this;exact this
def w_raw : List (List UInt8) := [[105, 102, 114, 97, 109, 101], [110, 111, 101, 109, 98, 101, 100], [110, 111, 102, 114, 97, 109, 101, 115], [115, 99, 114, 105, 112, 116], [115, 116, 121, 108, 101], [120, 109, 112]]
def w_rcdata : List (List UInt8) := [[116, 101, 120, 116, 97, 114, 101, 97], [116, 105, 116, 108, 101]]
def w_table : List (List UInt8) := [[99, 97, 112, 116, 105, 111, 110], [99, 111, 108], [99, 111, 108, 103, 114, 111, 117, 112], [116, 98, 111, 100, 121], [116, 100], [116, 102, 111, 111, 116], [116, 104], [116, 104, 101, 97, 100], [116, 114]]
def w_skip : List (List UInt8) := [[98, 111, 100, 121], [102, 114, 97, 109, 101], [102, 114, 97, 109, 101, 115, 101, 116], [104, 101, 97, 100], [104, 116, 109, 108]]

def setK (k : Int) : List (List UInt8) :=
  if k = 2 then w_raw else if k = 3 then w_rcdata else if k = 12 then w_table ++ w_skip else []
def inK (k : Int) (name : ByteArray) : Bool := (setK k).contains name.data.toList

theorem size_toList (s : ByteArray) : s.toList.length = s.size := by rw [bytes_data]; simp
theorem bt_nat (s : ByteArray) (i : Nat) (h : i < s.size) : bt s (i : Int) = ((s.toList.getD i 0).toNat : Int) := by
  have h' : i < s.data.size := h
  rw [bytes_data]
  simp [bt, h, List.getD_eq_getElem?_getD]
  rfl
theorem among_l0 (a0 : ByteArray) (xs : List ByteArray) (hx : xs.length ≤ 1000000) : ∀ (d i k : Nat), i + d = xs.length → d < k →
  kind_among.l0 k a0 xs (xs.length : Int) (i : Int) = some ((xs.drop i).any fun s => s.toList == a0.toList) := by
 intro d
 induction d with
 | zero =>
  intro i k hi hk;obtain ⟨k, rfl⟩ : ∃ m, k = m + 1 := ⟨k - 1, by omega⟩;simp only [kind_among.l0];rw [if_neg (by omega), List.drop_of_length_le (by omega)];rfl
 | succ d ih =>
  intro i k hi hk;obtain ⟨k, rfl⟩ : ∃ m, k = m + 1 := ⟨k - 1, by omega⟩;have hlt : i < xs.length := by omega
  simp only [kind_among.l0];rw [if_pos (by omega), if_pos (by omega), if_pos (by omega), wrap_next (by omega), ih (i + 1) k (by omega) (by omega)];have e : rdOf ByteArray.empty xs (i : Int) = xs[i] := by simp [rdOf, List.getD_eq_getElem?_getD, hlt]
  rw [e, List.drop_eq_getElem_cons hlt, List.any_cons]
  by_cases h : xs[i].toList = a0.toList
  ·rw [if_pos h]; simp [h]
  rw [if_neg h]; simp [h]
theorem among_ev (a0 : ByteArray) (xs : List ByteArray) (hx : xs.length ≤ 1000000) : Ev (fun k => kind_among.f k a0 xs) ((xs.map fun s => s.data.toList).contains a0.data.toList) := by
 refine ⟨xs.length + 1, fun k hk => ?_⟩;have h := among_l0 a0 xs hx xs.length 0 k (by omega) (by omega);unfold kind_among.f;rw [List.drop_zero] at h;refine Eq.trans h ?_
 congr 1
 rw [List.contains_eq_any_beq, List.any_map]
 apply congrArg (fun p => List.any xs p)
 funext s
 rw [bytes_data, bytes_data];exact Bool.beq_comm
theorem raw_ev (a0 : ByteArray) : Ev (fun k => kind_raw.f k a0) (w_raw.contains a0.data.toList) := by
  unfold kind_raw.f
  refine Ev.bind (among_ev a0 _ (by decide)) ?_
  exact ⟨0, fun _ _ => rfl⟩
theorem rcdata_ev (a0 : ByteArray) : Ev (fun k => kind_rcdata.f k a0) (w_rcdata.contains a0.data.toList) := by
  unfold kind_rcdata.f
  refine Ev.bind (among_ev a0 _ (by decide)) ?_
  exact ⟨0, fun _ _ => rfl⟩
theorem table_ev (a0 : ByteArray) : Ev (fun k => kind_table.f k a0) (w_table.contains a0.data.toList) := by
  unfold kind_table.f
  refine Ev.bind (among_ev a0 _ (by decide)) ?_
  exact ⟨0, fun _ _ => rfl⟩
theorem Ev.or {g : Nat → Option Bool} {f : Nat → Option Bool} {b c : Bool} (h : Ev g b) (h' : Ev f c) : Ev (fun n => (g n).bind fun t => if t = true then some true else f n) (b || c) := by
  refine Ev.bind h ?_
  cases b with
  | true => exact ⟨0, fun _ _ => rfl⟩
  | false => exact Ev.congr (fun _ => rfl) h'
theorem Ev.pass {g : Nat → Option Bool} {b : Bool} (h : Ev g b) : Ev (fun n => (g n).bind fun t => some t) b := by
  refine Ev.bind h ?_
  exact ⟨0, fun _ _ => rfl⟩
theorem Ev.is {b : Bool} {x : Option Bool} (h : x = some b) : Ev (fun _ => x) b := ⟨0, fun _ _ => h⟩
theorem contains_append (a b : List (List UInt8)) (x : List UInt8) : (a ++ b).contains x = (a.contains x || b.contains x) := by
  simp
theorem is_ev (k0 : Int) (a1 : ByteArray) (h : k0 = 2 ∨ k0 = 3 ∨ k0 = 12 := by decide) : Ev (fun k => kind_Is.f k k0 a1) (inK k0 a1) := by
 unfold inK
 rcases h with rfl | rfl | rfl
 ·exact Ev.congr (fun _ => rfl) (Ev.pass (raw_ev a1))
 ·exact Ev.congr (fun _ => rfl) (Ev.pass (rcdata_ev a1))
 have e : setK 12 = w_table ++ w_skip := rfl;rw [e, contains_append];exact Ev.congr (fun _ => rfl) (Ev.or (table_ev a1) (Ev.pass (among_ev a1 _ (by decide))))
def splitG : List UInt8 → List UInt8 → List (List UInt8)
  | cur, [] => [cur]
  | cur, c :: r => if c = 32 then cur :: splitG [] r else splitG (cur ++ [c]) r
def splitB (s : ByteArray) : List (List UInt8) := splitG [] s.data.toList

theorem extract_take (s : ByteArray) (a b : Nat) : (s.extract a b).toList = (s.data.toList.drop a).take (b - a) := by
  rw [bytes_data]
  have e : (s.extract a b).data = s.data.extract a b := by simp
  rw [e, Array.toList_extract, List.extract_eq_take_drop]
theorem bt_data (s : ByteArray) (i : Nat) (h : i < s.size) (h' : i < s.data.toList.length) : bt s (i : Int) = (s.data.toList[i].toNat : Int) := by
  rw [bt_nat s i h, bytes_data, List.getD_eq_getElem?_getD, List.getElem?_eq_getElem h']
  rfl
theorem in_l0 (x0 x1 : ByteArray) (hs : x0.size ≤ 1000000) : ∀ (d b i k : Nat), i + d = x0.size → b ≤ i → 2 * d + 2 < k →
  r02_In.l0 k x0 x1 (b : Int) (i : Int) = some ((splitG ((x0.data.toList.drop b).take (i - b)) (x0.data.toList.drop i)).contains x1.data.toList) := by
 have hlen : x0.data.toList.length = x0.size := by simp
 intro d
 induction d with
 | zero =>
  intro b i k hi hb hk;obtain ⟨k, rfl⟩ : ∃ m, k = m + 3 := ⟨k - 3, by omega⟩;simp only [r02_In.l0, r02_In.j1];rw [if_pos (by omega), if_pos (by omega), if_pos trivial, if_pos (by omega), if_pos (by omega), if_pos (by omega)];rw [List.drop_of_length_le (show x0.data.toList.length ≤ i by omega)];rw [Int.toNat_natCast, Int.toNat_natCast, extract_take x0 b i, bytes_data];simp only [splitG]
  by_cases e : (x0.data.toList.drop b).take (i - b) = x1.data.toList
  ·rw [if_pos e]; simp [e]
  rw [if_neg e, wrap_next (by omega), if_neg (by omega)]
  simp [Ne.symm e]
 | succ d ih =>
  intro b i k hi hb hk;obtain ⟨k, rfl⟩ : ∃ m, k = m + 2 := ⟨k - 2, by omega⟩;have hlt : i < x0.size := by omega
  have hlt' : i < x0.data.toList.length := by omega
  simp only [r02_In.l0, r02_In.j1];rw [if_pos (by omega), if_neg (by omega), if_pos (by omega), if_pos (by omega)];rw [bt_data x0 i hlt hlt', wrap_next (by omega)];rw [List.drop_eq_getElem_cons hlt'];simp only [splitG]
  by_cases e : x0.data.toList[i] = 32
  ·have e' : (((x0.data.toList[i]).toNat : Int) == 32) = true := by rw [e]; rfl
   rw [e', if_pos rfl, if_pos e, if_pos (by omega), if_pos (by omega), if_pos (by omega), ih (i + 1) (i + 1) k (by omega) (by omega) (by omega)];rw [Int.toNat_natCast, Int.toNat_natCast, extract_take x0 b i, bytes_data x1];rw [Nat.sub_self, List.take_zero]
   by_cases q : (x0.data.toList.drop b).take (i - b) = x1.data.toList
   ·rw [if_pos q]; simp [q]
   rw [if_neg q]; simp [Ne.symm q]
  have e' : (((x0.data.toList[i]).toNat : Int) == 32) = false := by
   rw [beq_eq_false_iff_ne];intro q;exact e (UInt8.toNat.inj (show _ = 32 by omega))
  rw [e', if_neg (by simp), if_neg e, ih b (i + 1) k (by omega) (by omega) (by omega)];rw [show i + 1 - b = (i - b) + 1 by omega, List.take_add_one, List.getElem?_drop, show b + (i - b) = i by omega, List.getElem?_eq_getElem hlt'];rfl
theorem in_ev (a0 a1 : ByteArray) (hs : a0.size ≤ 1000000) : Ev (fun k => r02_In.f k a0 a1) ((splitB a0).contains a1.data.toList) := by
  refine ⟨2 * a0.size + 3, fun k hk => ?_⟩
  have h := in_l0 a0 a1 hs a0.size 0 0 k (by omega) (by omega) (by omega)
  rw [List.drop_zero, Nat.sub_zero, List.take_zero] at h
  exact h
def anyIn (xs : List ByteArray) (x : List UInt8) : Bool := xs.any fun s => (splitB s).contains x
theorem refIs_l0 (x1 : ByteArray) (xs : List ByteArray) (hx : xs.length ≤ 1000000) (hs : ∀ s ∈ xs, s.size ≤ 1000000) : ∀ (d i : Nat), i + d = xs.length →
  Ev (fun k => r02_Is.l0 k x1 xs (i : Int)) (anyIn (xs.drop i) x1.data.toList) := by
 intro d
 induction d with
 | zero =>
  intro i hi;refine Ev.step (f := fun _ => some false) (fun k => ?_) ?_
  ·simp only [r02_Is.l0]; rw [if_neg (by omega)]
  rw [List.drop_of_length_le (by omega)]; exact ⟨0, fun _ _ => rfl⟩
 | succ d ih =>
  intro i hi;have hlt : i < xs.length := by omega
  refine Ev.step (f := fun k => (r02_In.f k xs[i] x1).bind fun t => if t = true then some true else r02_Is.l0 k x1 xs ((i + 1 : Nat) : Int)) (fun k => ?_) ?_
  ·simp only [r02_Is.l0];have e : rdOf ByteArray.empty xs (i : Int) = xs[i] := by simp [rdOf, List.getD_eq_getElem?_getD, hlt]
   rw [if_pos (by omega), if_pos (by omega), e, wrap_next (by omega)]
  rw [List.drop_eq_getElem_cons hlt];exact Ev.or (in_ev xs[i] x1 (hs _ (List.getElem_mem hlt))) (ih (i + 1) (by omega))
theorem refIs_of {k0 : Int} {xs : List ByteArray} (h : r02_names.f k0 = some xs) (x1 : ByteArray) (hx : xs.length ≤ 1000000) (hs : ∀ s ∈ xs, s.size ≤ 1000000) :
  Ev (fun k => r02_Is.f k k0 x1) (anyIn xs x1.data.toList) := by
 have h0 := refIs_l0 x1 xs hx hs xs.length 0 (by omega);rw [List.drop_zero] at h0;unfold r02_Is.f;exact Ev.bind ⟨0, fun _ _ => h⟩ h0
theorem anyIn_eq {xs : List ByteArray} {S : List (List UInt8)} (h1 : ∀ y ∈ S, y ∈ xs.flatMap splitB) (h2 : ∀ y ∈ xs.flatMap splitB, y ∈ S) (x : List UInt8) : anyIn xs x = S.contains x := by
 rw [Bool.eq_iff_iff, List.contains_iff_mem];unfold anyIn;rw [List.any_eq_true]
 constructor
 ·rintro ⟨s, hs, hc⟩;exact h2 x (List.mem_flatMap.2 ⟨s, hs, List.contains_iff_mem.1 hc⟩)
 intro h;obtain ⟨s, hs, hc⟩ := List.mem_flatMap.1 (h1 x h);exact ⟨s, hs, List.contains_iff_mem.2 hc⟩
theorem refIs_set (k0 : Int) (xs : List ByteArray) (h : r02_names.f k0 = some xs) (x1 : ByteArray) (hx : xs.length ≤ 1000000) (hs : ∀ s ∈ xs, s.size ≤ 1000000)
    (h1 : ∀ y ∈ setK k0, y ∈ xs.flatMap splitB) (h2 : ∀ y ∈ xs.flatMap splitB, y ∈ setK k0) : Ev (fun k => r02_Is.f k k0 x1) (inK k0 x1) := by
  unfold inK
  rw [← anyIn_eq h1 h2]
  exact refIs_of h x1 hx hs
theorem refIs_ev (k0 : Int) (x1 : ByteArray) (h : k0 = 2 ∨ k0 = 3 ∨ k0 = 12 := by decide) : Ev (fun k => r02_Is.f k k0 x1) (inK k0 x1) := by
 rcases h with rfl | rfl | rfl
 ·exact refIs_set 2 _ rfl x1 (by decide +kernel) (by decide +kernel) (by decide +kernel) (by decide +kernel)
 ·exact refIs_set 3 _ rfl x1 (by decide +kernel) (by decide +kernel) (by decide +kernel) (by decide +kernel)
 exact refIs_set 12 _ rfl x1 (by decide +kernel) (by decide +kernel) (by decide +kernel) (by decide +kernel)
theorem Ev.way {α : Type} {g : Nat → Option Bool} {b : Bool} {X Y : Nat → Option α} {r : α} (h : Ev g b) (hx : b = true → Ev X r) (hy : b = false → Ev Y r) :
  Ev (fun n => (g n).bind fun t => if t = true then X n else Y n) r := by
 cases b with
 | true => exact Ev.bind (f := fun n t => if t = true then X n else Y n) h (Ev.congr (fun k => if_pos rfl) (hx rfl))
 | false => exact Ev.bind (f := fun n t => if t = true then X n else Y n) h (Ev.congr (fun k => if_neg (by decide)) (hy rfl))
def memB (l : List ByteArray) (x : ByteArray) : Bool := l.any fun y => y.data.toList == x.data.toList
def nmGo : List ByteArray → List ByteArray → Bool
  | _, [] => true
  | pre, x :: r => nameB x && (!memB pre x && nmGo (pre ++ [x]) r)
def namesS (l : List ByteArray) : Bool := nmGo [] l
theorem take_next (l : List ByteArray) (i : Nat) (h : i < l.length) : l.take i ++ [l[i]] = l.take (i + 1) := by
  rw [List.take_add_one, List.getElem?_eq_getElem h]; rfl
theorem areNames_l0 (l : List ByteArray) (hl : l.length ≤ 1000000) : ∀ (d i : Nat), i + d = l.length → Ev (fun k => p_areNames.l0 k l l (l.length : Int) (i : Int)) (nmGo (l.take i) (l.drop i)) := by
 intro d
 induction d with
 | zero =>
  intro i hi;refine Ev.step (f := fun _ => some true) (fun k => ?_) ?_
  ·simp only [p_areNames.l0];rw [if_neg (by omega)]
  rw [List.drop_of_length_le (by omega)]; exact Ev.now _
 | succ d ih =>
  intro i hi;have hlt : i < l.length := by omega
  rw [List.drop_eq_getElem_cons hlt];refine Ev.step (f := fun k => (p_isName.f l[i]).bind fun t => if t = true then ((slC_.f k (l.take i) l[i]).bind fun t2 => if t2 = true then some false else p_areNames.l0 k l l (l.length : Int) ((i + 1 : Nat) : Int)) else some false) (fun k => ?_) ?_
  ·simp only [p_areNames.l0];rw [if_pos (by omega), if_pos (by omega), if_pos (by omega), rd_at l i hlt, wrap_next (by omega), if_pos (show (i : Int) ≤ (l.length : Int) by omega)];rfl
  unfold nmGo;refine Ev.way (g := fun _ => p_isName.f l[i]) (b := nameB l[i]) ⟨0, fun _ _ => rfl⟩ (fun hn => ?_) (fun hn => ?_)
  ·refine Ev.way (contains_ev (l.take i) l[i] (by rw [List.length_take]; omega)) (fun hm => ?_) (fun hm => ?_)
   ·rw [hn, show memB (l.take i) l[i] = true from hm]; exact Ev.now _
   rw [hn, show memB (l.take i) l[i] = false from hm, take_next l i hlt]; exact ih (i + 1) (by omega)
  rw [hn]; exact Ev.now _
theorem areNames_ev (l : List ByteArray) (hl : l.length ≤ 1000000) : Ev (fun k => p_areNames.f k l) (namesS l) := by
  have h := areNames_l0 l hl l.length 0 (by omega)
  rw [List.take_zero, List.drop_zero] at h
  exact h
theorem refin_l0 (l : List ByteArray) (x : ByteArray) (hl : l.length ≤ 1000000) : ∀ (d i : Nat), i + d = l.length → Ev (fun k => r11_in.l0 k l x (i : Int)) (memB (l.drop i) x) := by
 intro d
 induction d with
 | zero =>
  intro i hi;refine Ev.step (f := fun _ => some false) (fun k => ?_) ?_
  ·simp only [r11_in.l0];rw [if_neg (by omega)]
  rw [List.drop_of_length_le (by omega)]; exact Ev.now _
 | succ d ih =>
  intro i hi;have hlt : i < l.length := by omega
  rw [List.drop_eq_getElem_cons hlt];unfold memB;rw [List.any_cons]
  by_cases h : l[i].data.toList = x.data.toList
  ·refine Ev.step (f := fun _ => some true) (fun k => ?_) ?_
   ·simp only [r11_in.l0];rw [if_pos (by omega), if_pos (by omega), rd_at l i hlt, bytes_data, bytes_data, if_pos h]
   rw [h, beq_self_eq_true, Bool.true_or]; exact Ev.now _
  refine Ev.step (f := fun k => r11_in.l0 k l x ((i + 1 : Nat) : Int)) (fun k => ?_) ?_
  ·simp only [r11_in.l0];rw [if_pos (by omega), if_pos (by omega), rd_at l i hlt, bytes_data, bytes_data, if_neg h, wrap_next (by omega)]
  have e : (l[i].data.toList == x.data.toList) = false := beq_eq_false_iff_ne.mpr h;rw [e, Bool.false_or];exact ih (i + 1) (by omega)
theorem refin_ev (l : List ByteArray) (x : ByteArray) (hl : l.length ≤ 1000000) : Ev (fun k => r11_in.f k l x) (memB l x) := by
  have h := refin_l0 l x hl l.length 0 (by omega)
  rw [List.drop_zero] at h
  exact h
theorem nmC_ref (c : UInt8) : nmC (c.toNat : Int) = (decide ((c.toNat : Int) ≥ 97 ∧ (c.toNat : Int) ≤ 122) || (sFig c || decide ((c.toNat : Int) = 45))) := by
  revert c
  apply u8_all
  decide +kernel
theorem refName_l0 (s : ByteArray) (hs : s.size ≤ 1000000) : ∀ (d i : Nat), i + d = s.size → Ev (fun k => r11_Name.l0 k s (i : Int)) ((s.data.toList.drop i).all (fun c => nmC (c.toNat : Int))) := by
 intro d
 induction d with
 | zero =>
  intro i hi;refine Ev.step (f := fun _ => some true) (fun k => ?_) ?_
  ·simp only [r11_Name.l0];rw [if_neg (by omega)]
  rw [List.drop_of_length_le (by rw [data_len]; omega)]; exact Ev.now _
 | succ d ih =>
  intro i hi;have hlt : i < s.size := by omega
  obtain ⟨c, hc, hd⟩ := drop_get s i hlt;have hb := bt_get s i c hc;rw [hd, List.all_cons, nmC_ref];refine Ev.step (f := fun k => if (c.toNat : Int) ≥ 97 then (if (c.toNat : Int) ≤ 122 then r11_Name.l0 k s ((i + 1 : Nat) : Int) else ((some (sFig c)).bind fun t => if t = true then r11_Name.l0 k s ((i + 1 : Nat) : Int) else (if (c.toNat : Int) = 45 then r11_Name.l0 k s ((i + 1 : Nat) : Int) else some false))) else ((some (sFig c)).bind fun t => if t = true then r11_Name.l0 k s ((i + 1 : Nat) : Int) else (if (c.toNat : Int) = 45 then r11_Name.l0 k s ((i + 1 : Nat) : Int) else some false))) (fun k => ?_) ?_
  ·simp only [r11_Name.l0];rw [if_pos (by omega), if_pos (by omega), hb, rfigure_f, wrap_next (by omega)]
  have hrest : Ev (fun k => (some (sFig c)).bind fun t => if t = true then r11_Name.l0 k s ((i + 1 : Nat) : Int) else (if (c.toNat : Int) = 45 then r11_Name.l0 k s ((i + 1 : Nat) : Int) else some false)) ((sFig c || decide ((c.toNat : Int) = 45)) && (s.data.toList.drop (i + 1)).all (fun c => nmC (c.toNat : Int))) := by
   refine Ev.way (g := fun _ => some (sFig c)) (Ev.now _) (fun h => ?_) (fun h => ?_)
   ·rw [h]; exact ih (i + 1) (by omega)
   rw [h]
   by_cases h45 : (c.toNat : Int) = 45
   ·rw [decide_eq_true h45];exact Ev.congr (fun k => if_pos h45) (ih (i + 1) (by omega))
   rw [decide_eq_false h45];exact Ev.congr (fun k => if_neg h45) (Ev.now _)
  by_cases h97 : (c.toNat : Int) ≥ 97
  ·by_cases h122 : (c.toNat : Int) ≤ 122
   ·rw [decide_eq_true (show (c.toNat : Int) ≥ 97 ∧ (c.toNat : Int) ≤ 122 from ⟨h97, h122⟩)];exact Ev.congr (fun k => by rw [if_pos h97, if_pos h122]) (ih (i + 1) (by omega))
   rw [decide_eq_false (show ¬ ((c.toNat : Int) ≥ 97 ∧ (c.toNat : Int) ≤ 122) from fun h => h122 h.2)];exact Ev.congr (fun k => by rw [if_pos h97, if_neg h122]) hrest
  rw [decide_eq_false (show ¬ ((c.toNat : Int) ≥ 97 ∧ (c.toNat : Int) ≤ 122) from fun h => h97 h.1)];exact Ev.congr (fun k => by rw [if_neg h97]) hrest
theorem refName_ev (s : ByteArray) : Ev (fun k => r11_Name.f k s) (nameB s) := by
 have hj : ∀ b : Bool, Ev (fun k => r11_Name.j0 k s b) (if b = true then false else if s.size ≤ 20 then s.data.toList.all (fun c => nmC (c.toNat : Int)) else false) ∨ ¬ s.size ≤ 20 := by
  intro b
  by_cases hs : s.size ≤ 20
  ·left
   have h := refName_l0 s (by omega) s.size 0 (by omega);rw [List.drop_zero] at h;refine Ev.step (f := fun k => if b = true then some false else r11_Name.l0 k s 0) (fun k => ?_) ?_
   ·simp only [r11_Name.j0]
   cases b with
   | true => exact Ev.congr (fun k => if_pos rfl) (Ev.now _)
   | false => rw [if_neg (by decide), if_pos hs]; exact Ev.congr (fun k => if_neg (by decide)) h
  exact .inr hs
 have hjt : Ev (fun k => r11_Name.j0 k s true) false := Ev.step (f := fun _ => some false) (fun k => by simp only [r11_Name.j0]; rfl) (Ev.now _);unfold r11_Name.f nameB
 by_cases h1 : (s.size : Int) < 1
 ·rw [decide_eq_false (show ¬ (1 ≤ s.size ∧ s.size ≤ 20) by omega)];exact Ev.congr (fun k => if_pos h1) hjt
 by_cases h20 : (s.size : Int) > 20
 ·rw [decide_eq_false (show ¬ (1 ≤ s.size ∧ s.size ≤ 20) by omega)];exact Ev.congr (fun k => by rw [if_neg h1, if_pos h20]) hjt
 rw [decide_eq_true (show 1 ≤ s.size ∧ s.size ≤ 20 by omega), Bool.true_and]
 by_cases ha : bt s 0 < 97
 ·rw [decide_eq_false (show ¬ (97 ≤ bt s 0 ∧ bt s 0 ≤ 122) by omega), Bool.false_and];exact Ev.congr (fun k => by rw [if_neg h1, if_neg h20, if_pos (by omega), if_pos ha]) hjt
 by_cases hb : bt s 0 > 122
 ·rw [decide_eq_false (show ¬ (97 ≤ bt s 0 ∧ bt s 0 ≤ 122) by omega), Bool.false_and];exact Ev.congr (fun k => by rw [if_neg h1, if_neg h20, if_pos (by omega), if_neg ha, decide_eq_true hb]) hjt
 rw [decide_eq_true (show 97 ≤ bt s 0 ∧ bt s 0 ≤ 122 by omega), Bool.true_and];have h := (hj false).resolve_right (by omega);rw [if_neg (by decide), if_pos (by omega)] at h;exact Ev.congr (fun k => by rw [if_neg h1, if_neg h20, if_pos (by omega), if_neg ha, decide_eq_false hb]) h
theorem refnames_l0 (l : List ByteArray) (hl : l.length ≤ 1000000) : ∀ (d i : Nat), i + d = l.length → Ev (fun k => r11_names.l0 k l (i : Int)) (nmGo (l.take i) (l.drop i)) := by
 intro d
 induction d with
 | zero =>
  intro i hi;refine Ev.step (f := fun _ => some true) (fun k => ?_) ?_
  ·simp only [r11_names.l0];rw [if_neg (by omega)]
  rw [List.drop_of_length_le (by omega)]; exact Ev.now _
 | succ d ih =>
  intro i hi;have hlt : i < l.length := by omega
  rw [List.drop_eq_getElem_cons hlt];refine Ev.step (f := fun k => (r11_Name.f k l[i]).bind fun t => if t = true then ((r11_in.f k (l.take i) l[i]).bind fun t2 => if t2 = true then some false else r11_names.l0 k l ((i + 1 : Nat) : Int)) else some false) (fun k => ?_) ?_
  ·simp only [r11_names.l0];rw [if_pos (by omega), if_pos (by omega), rd_at l i hlt, wrap_next (by omega), if_pos (show (i : Int) ≤ (l.length : Int) by omega)];rfl
  unfold nmGo;refine Ev.way (refName_ev l[i]) (fun hn => ?_) (fun hn => ?_)
  ·refine Ev.way (refin_ev (l.take i) l[i] (by rw [List.length_take]; omega)) (fun hm => ?_) (fun hm => ?_)
   ·rw [hn, hm]; exact Ev.now _
   rw [hn, hm, take_next l i hlt]; exact ih (i + 1) (by omega)
  rw [hn]; exact Ev.now _
theorem refnames_ev (l : List ByteArray) (hl : l.length ≤ 1000000) : Ev (fun k => r11_names.f k l) (namesS l) := by
  have h := refnames_l0 l hl l.length 0 (by omega)
  rw [List.take_zero, List.drop_zero] at h
  exact h
def hardN : List (List UInt8) := [[109, 97, 116, 104], [110, 111, 115, 99, 114, 105, 112, 116], [112, 108, 97, 105, 110, 116, 101, 120, 116], [115, 118, 103], [116, 101, 109, 112, 108, 97, 116, 101]]
def neverS (s : ByteArray) : Bool := hardN.contains s.data.toList || (inK 2 s || (inK 3 s || inK 12 s))
theorem never_j0 (s : ByteArray) (b : Bool) : Ev (fun k => p_never.j0 k s b) (b || (inK 2 s || (inK 3 s || inK 12 s))) := by
 refine Ev.step (f := fun k => if b = true then some true else ((kind_Is.f k 2 s).bind fun t => if t = true then some true else ((kind_Is.f k 3 s).bind fun t => if t = true then some true else ((kind_Is.f k 12 s).bind fun t => some t)))) (fun k => by simp only [p_never.j0]) ?_
 cases b with
 | true => exact Ev.congr (fun k => if_pos rfl) (Ev.now _)
 | false =>
  refine Ev.congr (fun k => if_neg (by decide)) ?_;rw [Bool.false_or];exact Ev.or (is_ev 2 s) (Ev.or (is_ev 3 s) (Ev.pass (is_ev 12 s)))
theorem never_ev (s : ByteArray) : Ev (fun k => p_never.f k s) (neverS s) := by
 have hc : ∀ L : List UInt8, (s.data.toList == L) = (s.toList == L) := fun L => by rw [bytes_data]
 have e : neverS s = (s.toList == [109, 97, 116, 104] || (s.toList == [110, 111, 115, 99, 114, 105, 112, 116] || (s.toList == [112, 108, 97, 105, 110, 116, 101, 120, 116] || (s.toList == [115, 118, 103] || (s.toList == [116, 101, 109, 112, 108, 97, 116, 101]))))
   || (inK 2 s || (inK 3 s || inK 12 s))) := by
  unfold neverS hardN;simp only [List.contains_cons, List.contains_nil, Bool.or_false, hc]
 rw [e];unfold p_never.f
 by_cases h1 : s.toList = ([109, 97, 116, 104] : List UInt8)
 ·rw [h1];exact Ev.congr (fun k => if_pos rfl) (never_j0 s true)
 rw [beq_eq_false_iff_ne.mpr h1, Bool.false_or];refine Ev.congr (fun k => if_neg h1) ?_
 by_cases h2 : s.toList = ([110, 111, 115, 99, 114, 105, 112, 116] : List UInt8)
 ·rw [h2];exact Ev.congr (fun k => if_pos rfl) (never_j0 s true)
 rw [beq_eq_false_iff_ne.mpr h2, Bool.false_or];refine Ev.congr (fun k => if_neg h2) ?_
 by_cases h3 : s.toList = ([112, 108, 97, 105, 110, 116, 101, 120, 116] : List UInt8)
 ·rw [h3];exact Ev.congr (fun k => if_pos rfl) (never_j0 s true)
 rw [beq_eq_false_iff_ne.mpr h3, Bool.false_or];refine Ev.congr (fun k => if_neg h3) ?_
 by_cases h4 : s.toList = ([115, 118, 103] : List UInt8)
 ·rw [h4];exact Ev.congr (fun k => if_pos rfl) (never_j0 s true)
 rw [beq_eq_false_iff_ne.mpr h4, Bool.false_or];exact Ev.congr (fun k => if_neg h4) (never_j0 s _)
def restB (dr : List ByteArray) (x : S53) : Bool := !neverS x.f0 && (!memB dr x.f0 && (namesS x.f1 && !x.f1.any actsB))
def chkGo (dr : List ByteArray) : List ByteArray → List S53 → Bool
  | all, [] => namesS all
  | all, x :: r => restB dr x && chkGo dr (all ++ [x.f0]) r
theorem rdT_at (l : List S53) (i : Nat) (h : i < l.length) : rd_T53 l (i : Int) = l[i] := by
  simp [rd_T53, List.getD_eq_getElem?_getD, h]
def okE (b : Bool) : Int := if b = true then 0 else 1
theorem check_l0 (l : List S53) (l1 l2 l3 : List ByteArray) (d0 : Int) (hl : l.length ≤ 1000) (h3 : l3.length ≤ 1000) (ha : ∀ x ∈ l, x.f1.length ≤ 1000) : ∀ (d i : Nat) (all : List ByteArray), i + d = l.length → all.length = i →
  Ev (fun k => p_Check.l0 k all l (l.length : Int) (i : Int) l l1 l2 l3 d0) (okE (chkGo l3 all (l.drop i))) := by
 intro d
 induction d with
 | zero =>
  intro i all hi hall;refine Ev.step (f := fun k => (p_areNames.f k all).bind fun t => if t = true then some 0 else some 1) (fun k => ?_) ?_
  ·simp only [p_Check.l0];rw [if_neg (by omega)]
  rw [List.drop_of_length_le (by omega)];show Ev _ (okE (namesS all));refine Ev.way (areNames_ev all (by omega)) (fun h => ?_) (fun h => ?_)
  ·rw [h]; exact Ev.now _
  rw [h]; exact Ev.now _
 | succ d ih =>
  intro i all hi hall;have hlt : i < l.length := by omega
  rw [List.drop_eq_getElem_cons hlt];have hf1 : l[i].f1.length ≤ 1000 := ha _ (List.getElem_mem hlt);refine Ev.step (f := fun k => (p_never.f k l[i].f0).bind fun t => if t = true then some 1 else ((slC_.f k l3 l[i].f0).bind fun t => if t = true then some 1 else ((p_areNames.f k l[i].f1).bind fun t => if t = true then ((cf_acts.f l[i].f1).bind fun t => if t = true then some 1 else p_Check.l0 k (all ++ [l[i].f0]) l (l.length : Int) ((i + 1 : Nat) : Int) l l1 l2 l3 d0) else some 1))) (fun k => ?_) ?_
  ·simp only [p_Check.l0];rw [if_pos (by omega), if_pos (by omega), if_pos (by omega), rdT_at l i hlt, wrap_next (by omega), if_pos (show all.length < 8796093022208 by omega)]
  unfold chkGo restB;refine Ev.way (never_ev l[i].f0) (fun h => ?_) (fun h => ?_)
  ·rw [h]; exact Ev.now _
  rw [h];refine Ev.way (contains_ev l3 l[i].f0 (by omega)) (fun h => ?_) (fun h => ?_)
  ·rw [show memB l3 l[i].f0 = true from h]; exact Ev.now _
  rw [show memB l3 l[i].f0 = false from h];refine Ev.way (areNames_ev l[i].f1 (by omega)) (fun h => ?_) (fun h => ?_)
  ·rw [h];refine Ev.way (g := fun _ => cf_acts.f l[i].f1) (b := l[i].f1.any actsB) ⟨0, fun _ _ => by unfold cf_acts.f; rw [if_pos hf1]⟩ (fun h => ?_) (fun h => ?_)
   ·rw [h]; exact Ev.now _
   rw [h]; exact ih (i + 1) (all ++ [l[i].f0]) (by omega) (by simp; omega)
  rw [h]; exact Ev.now _
def headB (l1 l2 l3 : List ByteArray) (d : Int) : Bool := decide (1 ≤ d ∧ d ≤ 60) && (namesS l1 && (namesS l2 && (namesS l3 && !l2.any runsB)))
def checkS (l0 : List S53) (l1 l2 l3 : List ByteArray) (d : Int) : Int := if largeB l0 l1 l2 l3 = true then 4 else okE (headB l1 l2 l3 d && chkGo l3 [] l0)
structure SmallP (l0 : List S53) (l1 l2 l3 : List ByteArray) : Prop where
  b0 : l0.length ≤ 1000
  b1 : l1.length ≤ 1000
  b2 : l2.length ≤ 1000
  b3 : l3.length ≤ 1000
  ba : ∀ x ∈ l0, x.f1.length ≤ 1000
theorem check_ev (l0 : List S53) (l1 l2 l3 : List ByteArray) (d : Int) (hs : SmallP l0 l1 l2 l3) : Ev (fun k => p_Check.f k l0 l1 l2 l3 d) (checkS l0 l1 l2 l3 d) := by
 obtain ⟨h0, h1, h2, h3, ha⟩ := hs;have hj1 : Ev (fun k => p_Check.j0 k true l0 l1 l2 l3 d) 1 := Ev.step (f := fun _ => some 1) (fun k => by simp only [p_Check.j0]; rfl) (Ev.now _)
 have hj0 : Ev (fun k => p_Check.j0 k false l0 l1 l2 l3 d) (okE (chkGo l3 [] l0)) := by
  refine Ev.step (f := fun k => p_Check.l0 k [] l0 (l0.length : Int) 0 l0 l1 l2 l3 d) (fun k => by simp only [p_Check.j0]; rfl) ?_;have h := check_l0 l0 l1 l2 l3 d h0 h3 ha l0.length 0 [] (by omega) rfl;rw [List.drop_zero] at h;exact h
 unfold p_Check.f checkS;refine Ev.way (g := fun _ => p_large.f l0 l1 l2 l3 d) (b := largeB l0 l1 l2 l3) ⟨0, fun _ _ => rfl⟩ (fun h => ?_) (fun h => ?_)
 ·rw [if_pos h]; exact Ev.now _
 rw [if_neg (by rw [h]; decide)];unfold headB
 by_cases hd1 : d < 1
 ·rw [decide_eq_false (show ¬ (1 ≤ d ∧ d ≤ 60) by omega)];exact Ev.congr (fun k => if_pos hd1) hj1
 by_cases hd2 : d > 60
 ·rw [decide_eq_false (show ¬ (1 ≤ d ∧ d ≤ 60) by omega)];exact Ev.congr (fun k => by rw [if_neg hd1, if_pos hd2]) hj1
 rw [decide_eq_true (show 1 ≤ d ∧ d ≤ 60 by omega)];refine Ev.congr (fun k => by rw [if_neg hd1, if_neg hd2]) ?_;refine Ev.way (areNames_ev l1 (by omega)) (fun h => ?_) (fun h => ?_)
 ·rw [h];refine Ev.way (areNames_ev l2 (by omega)) (fun h => ?_) (fun h => ?_)
  ·rw [h];refine Ev.way (areNames_ev l3 (by omega)) (fun h => ?_) (fun h => ?_)
   ·rw [h];refine Ev.bind (g := fun _ => cf_runs.f l2) (f := fun k t => p_Check.j0 k t l0 l1 l2 l3 d) (a := l2.any runsB) ⟨0, fun _ _ => by unfold cf_runs.f; rw [if_pos h2]⟩ ?_
    cases h : l2.any runsB with
    | true => exact hj1
    | false => exact hj0
   rw [h]; exact hj1
  rw [h]; exact hj1
 rw [h]; exact hj1
end Go.Proofs.YtnbghhddmlohoaaDoor.Pure

end

section
namespace Go.Proofs.YtnbghhddmlohoaaDoor.Pure
open Go.RowKit Go.Proofs.YtnbghhddmlohoaaDoor.PAll Go.Proofs.YtnbghhddmlohoaaDoorW.PrintWords Go.Proofs.YtnbghhddmlohoaaDoorW.PrintLast
set_option linter.unusedSimpArgs false
set_option linter.unusedVariables false

def ruleS (x : S53) : Bool := nameB x.f0 && (namesS x.f1 && (!(inK 2 x.f0 || (inK 3 x.f0 || inK 12 x.f0)) && (!x.f1.any actsB && !hardN.contains x.f0.data.toList)))
theorem hard_is : splitB (⟨#[109, 97, 116, 104, 32, 110, 111, 115, 99, 114, 105, 112, 116, 32, 112, 108, 97, 105, 110, 116, 101, 120, 116, 32, 115, 118, 103, 32, 116, 101, 109, 112, 108, 97, 116, 101]⟩ : ByteArray) = hardN := by decide +kernel
theorem rule_l0 (a : ByteArray) (l : List ByteArray) (hl : l.length ≤ 1000) : ∀ (d i : Nat), i + d = l.length → Ev (fun k => r11_rule.l0 k (i : Int) a l) (!(l.drop i).any actsB && !hardN.contains a.data.toList) := by
 intro d
 induction d with
 | zero =>
  intro i hi;refine Ev.step (f := fun k => (r02_In.f k (⟨#[109, 97, 116, 104, 32, 110, 111, 115, 99, 114, 105, 112, 116, 32, 112, 108, 97, 105, 110, 116, 101, 120, 116, 32, 115, 118, 103, 32, 116, 101, 109, 112, 108, 97, 116, 101]⟩ : ByteArray) a).bind fun t => some (!t)) (fun k => ?_) ?_
  ·simp only [r11_rule.l0];rw [if_neg (by omega)]
  rw [List.drop_of_length_le (by omega)];have h := in_ev (⟨#[109, 97, 116, 104, 32, 110, 111, 115, 99, 114, 105, 112, 116, 32, 112, 108, 97, 105, 110, 116, 101, 120, 116, 32, 115, 118, 103, 32, 116, 101, 109, 112, 108, 97, 116, 101]⟩ : ByteArray) a (by decide);rw [hard_is] at h;exact Ev.bind (f := fun _ t => some (!t)) h (Ev.now _)
 | succ d ih =>
  intro i hi;have hlt : i < l.length := by omega
  have ih' := ih (i + 1) (by omega);rw [List.drop_eq_getElem_cons hlt, List.any_cons];obtain ⟨y, hy⟩ : ∃ y, y = l[i] := ⟨_, rfl⟩;rw [← hy];have hrd : rdOf ByteArray.empty l (i : Int) = y := by rw [hy]; exact rd_at l i hlt
  have hex : (y.extract 0 2).toList = y.toList.take 2 := by rw [bytes_data, bytes_data, ext_take]; rfl
  have hlen : y.toList.length = y.size := size_toList y;have hfalse : actsB y = true → Ev (fun _ => (some false : Option Bool)) (!(actsB y || (l.drop (i + 1)).any actsB) && !hardN.contains a.data.toList) := fun h => by rw [h]; exact Ev.now _
  have hnext : actsB y = false → Ev (fun k => r11_rule.l0 k ((i + 1 : Nat) : Int) a l) (!(actsB y || (l.drop (i + 1)).any actsB) && !hardN.contains a.data.toList) := fun h => by rw [h, Bool.false_or]; exact ih'
  have hunf : ∀ k, r11_rule.l0 (k + 1) (i : Int) a l = if y.toList = ([115, 116, 121, 108, 101] : List UInt8) then some false else if y.toList = ([115, 114, 99, 100, 111, 99] : List UInt8) then some false else if (y.size : Int) ≥ 2 then (if (y.extract 0 2).toList = ([111, 110] : List UInt8) then some false else r11_rule.l0 k ((i + 1 : Nat) : Int) a l) else r11_rule.l0 k ((i + 1 : Nat) : Int) a l := fun k => by
   simp only [r11_rule.l0];rw [if_pos (by omega), if_pos (by omega), hrd, wrap_next (by omega)]
   by_cases h2 : (y.size : Int) ≥ 2
   ·simp only [if_pos h2, show ((0 : Int) ≤ 2) = True from eq_true (by decide), show ((0 : Nat) ≤ 2) = True from eq_true (by decide), if_true, if_pos (show (2 : Int) ≤ (y.size : Int) from h2)]
   simp only [if_neg h2]
  by_cases h1 : y.toList = ([115, 116, 121, 108, 101] : List UInt8)
  ·exact Ev.step (f := fun _ => some false) (fun k => by rw [hunf, if_pos h1]) (hfalse (by unfold actsB; rw [h1]; decide))
  by_cases h2 : y.toList = ([115, 114, 99, 100, 111, 99] : List UInt8)
  ·exact Ev.step (f := fun _ => some false) (fun k => by rw [hunf, if_neg h1, if_pos h2]) (hfalse (by unfold actsB; rw [h2]; decide))
  by_cases h3 : (y.size : Int) ≥ 2
  ·by_cases h4 : y.toList.take 2 = ([111, 110] : List UInt8)
   ·exact Ev.step (f := fun _ => some false) (fun k => by rw [hunf, if_neg h1, if_neg h2, if_pos h3, hex, if_pos h4]) (hfalse (by unfold actsB; rw [h4]; rfl))
   exact Ev.step (f := fun k => r11_rule.l0 k ((i + 1 : Nat) : Int) a l) (fun k => by rw [hunf, if_neg h1, if_neg h2, if_pos h3, hex, if_neg h4]) (hnext (by unfold actsB; rw [beq_eq_false_iff_ne.mpr h1, beq_eq_false_iff_ne.mpr h2, beq_eq_false_iff_ne.mpr h4]; rfl))
  have h4 : y.toList.take 2 ≠ ([111, 110] : List UInt8) := fun he => by
   have := congrArg List.length he;rw [List.length_take, hlen] at this
   simp at this
   omega
  exact Ev.step (f := fun k => r11_rule.l0 k ((i + 1 : Nat) : Int) a l) (fun k => by rw [hunf, if_neg h1, if_neg h2, if_neg h3]) (hnext (by unfold actsB; rw [beq_eq_false_iff_ne.mpr h1, beq_eq_false_iff_ne.mpr h2, beq_eq_false_iff_ne.mpr h4]; rfl))
theorem rule_ev (x : S53) (hl : x.f1.length ≤ 1000) : Ev (fun k => r11_rule.f k x.f0 x.f1) (ruleS x) := by
 have hjt : Ev (fun k => r11_rule.j0 k true x.f0 x.f1) false := Ev.step (f := fun _ => some false) (fun k => by simp only [r11_rule.j0]; rfl) (Ev.now _)
 have hjf : Ev (fun k => r11_rule.j0 k false x.f0 x.f1) (!x.f1.any actsB && !hardN.contains x.f0.data.toList) := by
  refine Ev.step (f := fun k => r11_rule.l0 k 0 x.f0 x.f1) (fun k => by simp only [r11_rule.j0]; rfl) ?_;have h := rule_l0 x.f0 x.f1 hl x.f1.length 0 (by omega);rw [List.drop_zero] at h;exact h
 unfold r11_rule.f ruleS;refine Ev.way (refName_ev x.f0) (fun h => ?_) (fun h => ?_)
 ·rw [h];refine Ev.way (refnames_ev x.f1 (by omega)) (fun h => ?_) (fun h => ?_)
  ·rw [h];refine Ev.way (refIs_ev 2 x.f0) (fun h => ?_) (fun h => ?_)
   ·rw [h]; exact hjt
   rw [h];refine Ev.way (refIs_ev 3 x.f0) (fun h => ?_) (fun h => ?_)
   ·rw [h]; exact hjt
   rw [h];refine Ev.bind (f := fun k t => r11_rule.j0 k t x.f0 x.f1) (refIs_ev 12 x.f0) ?_
   cases inK 12 x.f0 with
   | true => exact hjt
   | false => exact hjf
  rw [h]; exact hjt
 rw [h]; exact hjt
def farB (pre : List S53) (x : S53) : Bool := pre.all fun y => y.f0.toList != x.f0.toList
def refGo (dr : List ByteArray) : List S53 → List S53 → Bool
  | _, [] => true
  | pre, x :: r => (farB pre x && (ruleS x && !memB dr x.f0)) && refGo dr (pre ++ [x]) r
def runM (l2 : List ByteArray) : Bool := memB l2 ⟨#[100, 97, 116, 97]⟩ || (memB l2 ⟨#[106, 97, 118, 97, 115, 99, 114, 105, 112, 116]⟩ || memB l2 ⟨#[118, 98, 115, 99, 114, 105, 112, 116]⟩)
def finS (l2 : List ByteArray) (b : Bool) : Int := okE (b && !runM l2)
section
variable (l : List S53) (l1 l2 l3 : List ByteArray) (d0 : Int) (hs : SmallP l l1 l2 l3)
include hs
theorem ref_l2 (i : Nat) (hlt : i < l.length) (H1 : ∀ b, Ev (fun k => r11_Check.l1 k b ((i + 1 : Nat) : Int) l l1 l2 l3 d0) (finS l2 (b && refGo l3 (l.take (i + 1)) (l.drop (i + 1))))) :
  ∀ (e j : Nat) (ok : Bool), j + e = i → Ev (fun k => r11_Check.l2 k ok (i : Int) (j : Int) l l1 l2 l3 d0) (finS l2 ((ok && (farB ((l.take i).drop j) l[i] && (ruleS l[i] && !memB l3 l[i].f0))) && refGo l3 (l.take (i + 1)) (l.drop (i + 1)))) := by
 obtain ⟨h0, h1, h2, h3, ha⟩ := hs;intro e
 induction e with
 | zero =>
  intro j ok hj;have hjl : (l.take i).drop j = [] := List.drop_of_length_le (by rw [List.length_take]; omega);rw [hjl];refine Ev.step (f := fun k => if ok = true then ((r11_rule.f k l[i].f0 l[i].f1).bind fun t => if t = true then ((r11_in.f k l3 l[i].f0).bind fun t2 => r11_Check.l1 k (!t2) ((i + 1 : Nat) : Int) l l1 l2 l3 d0) else r11_Check.l1 k false ((i + 1 : Nat) : Int) l l1 l2 l3 d0) else r11_Check.l1 k false ((i + 1 : Nat) : Int) l l1 l2 l3 d0) (fun k => ?_) ?_
  ·simp only [r11_Check.l2];rw [if_neg (show ¬ ((j : Int) < (i : Int)) by omega), if_pos (show (0 : Int) ≤ (i : Int) by omega), if_pos (show (i : Int) < (l.length : Int) by omega), rdT_at l i hlt, wrap_next (by omega)]
  cases ok with
  | false => exact Ev.congr (fun k => if_neg (by decide)) (H1 false)
  | true =>
   refine Ev.congr (fun k => if_pos rfl) ?_;refine Ev.way (rule_ev l[i] (ha _ (List.getElem_mem hlt))) (fun h => ?_) (fun h => ?_)
   ·rw [h];refine Ev.bind (f := fun k t2 => r11_Check.l1 k (!t2) ((i + 1 : Nat) : Int) l l1 l2 l3 d0) (refin_ev l3 l[i].f0 (by omega)) ?_;exact H1 _
   rw [h]; exact H1 false
 | succ e ih =>
  intro j ok hj;have hjl : j < l.length := by omega
  have hd : (l.take i).drop j = l[j] :: (l.take i).drop (j + 1) := by
   rw [List.drop_eq_getElem_cons (by rw [List.length_take]; omega)]
   simp
  rw [hd];unfold farB;rw [List.all_cons];refine Ev.step (f := fun k => if ok = true then r11_Check.l2 k (l[j].f0.toList != l[i].f0.toList) (i : Int) ((j + 1 : Nat) : Int) l l1 l2 l3 d0 else r11_Check.l2 k false (i : Int) ((j + 1 : Nat) : Int) l l1 l2 l3 d0) (fun k => ?_) ?_
  ·simp only [r11_Check.l2];rw [if_pos (show (j : Int) < (i : Int) by omega), if_pos (show (0 : Int) ≤ (j : Int) by omega), if_pos (show (j : Int) < (l.length : Int) by omega), if_pos (show (0 : Int) ≤ (i : Int) by omega), if_pos (show (i : Int) < (l.length : Int) by omega), rdT_at l i hlt, rdT_at l j hjl, wrap_next (by omega)]
  cases ok with
  | false => exact Ev.congr (fun k => if_neg (by decide)) (ih (j + 1) false (by omega))
  | true =>
   have h := ih (j + 1) (l[j].f0.toList != l[i].f0.toList) (by omega);unfold farB at h;refine Ev.congr (fun k => if_pos rfl) ?_;rw [Bool.true_and, Bool.and_assoc (l[j].f0.toList != l[i].f0.toList)];exact h
theorem ref_l1 : ∀ (e i : Nat) (ok : Bool), i + e = l.length → Ev (fun k => r11_Check.l1 k ok (i : Int) l l1 l2 l3 d0) (finS l2 (ok && refGo l3 (l.take i) (l.drop i))) := by
 intro e
 induction e with
 | zero =>
  intro i ok hi;rw [List.drop_of_length_le (by omega)];refine Ev.step (f := fun k => if ok = true then ((r11_in.f k l2 (⟨#[100, 97, 116, 97]⟩ : ByteArray)).bind fun t => if t = true then some 1 else ((r11_in.f k l2 (⟨#[106, 97, 118, 97, 115, 99, 114, 105, 112, 116]⟩ : ByteArray)).bind fun t => if t = true then some 1 else ((r11_in.f k l2 (⟨#[118, 98, 115, 99, 114, 105, 112, 116]⟩ : ByteArray)).bind fun t => if t = true then some 1 else some 0))) else some 1) (fun k => ?_) ?_
  ·simp only [r11_Check.l1];rw [if_neg (by omega)]
  unfold finS runM refGo
  cases ok with
  | false => exact Ev.congr (fun k => if_neg (by decide)) (Ev.now _)
  | true =>
   refine Ev.congr (fun k => if_pos rfl) ?_;have hb2 := hs.b2;refine Ev.way (refin_ev l2 _ (by omega)) (fun h => ?_) (fun h => ?_)
   ·rw [h]; exact Ev.now _
   rw [h];refine Ev.way (refin_ev l2 _ (by omega)) (fun h => ?_) (fun h => ?_)
   ·rw [h]; exact Ev.now _
   rw [h];refine Ev.way (refin_ev l2 _ (by omega)) (fun h => ?_) (fun h => ?_)
   ·rw [h]; exact Ev.now _
   rw [h]; exact Ev.now _
 | succ e ih =>
  intro i ok hi;have hlt : i < l.length := by omega
  have hb0 := hs.b0;rw [List.drop_eq_getElem_cons hlt];refine Ev.step (f := fun k => r11_Check.l2 k ok (i : Int) 0 l l1 l2 l3 d0) (fun k => ?_) ?_
  ·simp only [r11_Check.l1];rw [if_pos (by omega)]
  have h := ref_l2 l l1 l2 l3 d0 hs i hlt (fun b => ih (i + 1) b (by omega)) i 0 ok (by omega);rw [List.drop_zero] at h;unfold refGo;have ht : l.take i ++ [l[i]] = l.take (i + 1) := by rw [List.take_add_one, List.getElem?_eq_getElem hlt]; rfl
  rw [ht, ← Bool.and_assoc ok];exact h
end
end Go.Proofs.YtnbghhddmlohoaaDoor.Pure

end

section
namespace Go.Proofs.YtnbghhddmlohoaaDoor.Pure
open Go.RowKit Go.Proofs.YtnbghhddmlohoaaDoor.PAll Go.Proofs.YtnbghhddmlohoaaDoorW.PrintWords Go.Proofs.YtnbghhddmlohoaaDoorW.PrintLast
set_option linter.unusedSimpArgs false
set_option linter.unusedVariables false

def headR (l1 l2 l3 : List ByteArray) (d : Int) : Bool := decide (1 ≤ d ∧ d ≤ 60) && (namesS l1 && (namesS l2 && namesS l3))
section
variable (l : List S53) (l1 l2 l3 : List ByteArray) (d0 : Int) (hs : SmallP l l1 l2 l3)
include hs
theorem ref_j3 (ok : Bool) : Ev (fun k => r11_Check.j3 k ok l l1 l2 l3 d0) (finS l2 (ok && refGo l3 [] l)) := by
  refine Ev.step (f := fun k => r11_Check.l1 k ok 0 l l1 l2 l3 d0) (fun k => by simp only [r11_Check.j3]) ?_
  have h := ref_l1 l l1 l2 l3 d0 hs l.length 0 ok (by omega)
  rw [List.take_zero, List.drop_zero] at h
  exact h
def refX (b : Bool) : Int := if b = true then 4 else finS l2 (headR l1 l2 l3 d0 && refGo l3 [] l)
theorem ref_j2 (b : Bool) : Ev (fun k => r11_Check.j2 k b l l1 l2 l3 d0) (refX l l1 l2 l3 d0 b) := by
 have hj := ref_j3 l l1 l2 l3 d0 hs;obtain ⟨h0, h1, h2, h3, ha⟩ := hs;refine Ev.step (f := fun k => if b = true then some 4 else (if d0 ≥ 1 then (if d0 ≤ 60 then ((r11_names.f k l1).bind fun t => if t = true then ((r11_names.f k l2).bind fun t => if t = true then ((r11_names.f k l3).bind fun t => r11_Check.j3 k t l l1 l2 l3 d0) else r11_Check.j3 k false l l1 l2 l3 d0) else r11_Check.j3 k false l l1 l2 l3 d0) else r11_Check.j3 k false l l1 l2 l3 d0) else r11_Check.j3 k false l l1 l2 l3 d0)) (fun k => by simp only [r11_Check.j2]) ?_;unfold refX headR
 cases b with
 | true => exact Ev.congr (fun k => if_pos rfl) (Ev.now _)
 | false =>
  refine Ev.congr (fun k => if_neg (by decide)) ?_;rw [if_neg (by decide)]
  by_cases hd1 : d0 ≥ 1
  ·by_cases hd2 : d0 ≤ 60
   ·rw [decide_eq_true (show 1 ≤ d0 ∧ d0 ≤ 60 from ⟨hd1, hd2⟩)];refine Ev.congr (fun k => by rw [if_pos hd1, if_pos hd2]) ?_;refine Ev.way (refnames_ev l1 (by omega)) (fun h => ?_) (fun h => ?_)
    ·rw [h];refine Ev.way (refnames_ev l2 (by omega)) (fun h => ?_) (fun h => ?_)
     ·rw [h];refine Ev.bind (f := fun k t => r11_Check.j3 k t l l1 l2 l3 d0) (refnames_ev l3 (by omega)) ?_;exact hj _
     rw [h]; exact hj false
    rw [h]; exact hj false
   rw [decide_eq_false (show ¬ (1 ≤ d0 ∧ d0 ≤ 60) from fun h => hd2 h.2)];exact Ev.congr (fun k => by rw [if_pos hd1, if_neg hd2]) (hj false)
  rw [decide_eq_false (show ¬ (1 ≤ d0 ∧ d0 ≤ 60) from fun h => hd1 h.1)];exact Ev.congr (fun k => by rw [if_neg hd1]) (hj false)
theorem ref_l0 : ∀ (e i : Nat) (b : Bool), i + e = l.length → Ev (fun k => r11_Check.l0 k b (i : Int) l l1 l2 l3 d0) (refX l l1 l2 l3 d0 (b || (l.drop i).any bigR)) := by
 have hj := ref_j2 l l1 l2 l3 d0 hs;have hb0 := hs.b0;intro e
 induction e with
 | zero =>
  intro i b hi;rw [List.drop_of_length_le (by omega)];refine Ev.step (f := fun k => r11_Check.j2 k b l l1 l2 l3 d0) (fun k => ?_) ?_
  ·simp only [r11_Check.l0];rw [if_neg (show ¬ ((i : Int) < (l.length : Int)) by omega)]
  have h := hj b;rw [show (b || ([] : List S53).any bigR) = b by simp];exact h
 | succ e ih =>
  intro i b hi;have hlt : i < l.length := by omega
  rw [List.drop_eq_getElem_cons hlt, List.any_cons];refine Ev.step (f := fun k => if b = true then r11_Check.j2 k b l l1 l2 l3 d0 else r11_Check.l0 k (bigR l[i]) ((i + 1 : Nat) : Int) l l1 l2 l3 d0) (fun k => ?_) ?_
  ·simp only [r11_Check.l0];rw [if_pos (show (i : Int) < (l.length : Int) by omega), if_pos (show (0 : Int) ≤ (i : Int) by omega), rdT_at l i hlt, wrap_next (by omega)];rfl
  cases b with
  | true => exact Ev.congr (fun k => if_pos rfl) (hj true)
  | false =>
   rw [Bool.false_or];exact Ev.congr (fun k => if_neg (by decide)) (ih (i + 1) (bigR l[i]) (by omega))
theorem refcheck_raw : Ev (fun k => r11_Check.f k l l1 l2 l3 d0) (refX l l1 l2 l3 d0 (largeB l l1 l2 l3)) := by
 have hj : ∀ b, Ev (fun k => r11_Check.j0 k b l l1 l2 l3 d0) (refX l l1 l2 l3 d0 (b || l.any bigR)) := fun b => by
  refine Ev.step (f := fun k => r11_Check.l0 k b 0 l l1 l2 l3 d0) (fun k => by simp only [r11_Check.j0]) ?_;have h := ref_l0 l l1 l2 l3 d0 hs l.length 0 b (by omega);rw [List.drop_zero] at h;exact h
 unfold r11_Check.f largeB
 by_cases a0 : (l.length : Int) > 40
 ·rw [decide_eq_true (show 40 < (l.length : Int) from a0)];exact Ev.congr (fun k => if_pos a0) (hj true)
 rw [decide_eq_false (show ¬ 40 < (l.length : Int) from a0)];refine Ev.congr (fun k => if_neg a0) ?_
 by_cases a1 : (l1.length : Int) > 20
 ·rw [decide_eq_true (show 20 < (l1.length : Int) from a1)];exact Ev.congr (fun k => if_pos a1) (hj true)
 rw [decide_eq_false (show ¬ 20 < (l1.length : Int) from a1)];refine Ev.congr (fun k => if_neg a1) ?_
 by_cases a2 : (l2.length : Int) > 20
 ·rw [decide_eq_true (show 20 < (l2.length : Int) from a2)];exact Ev.congr (fun k => if_pos a2) (hj true)
 rw [decide_eq_false (show ¬ 20 < (l2.length : Int) from a2)];exact Ev.congr (fun k => if_neg a2) (hj _)
end
theorem chk_eq (dr : List ByteArray) : ∀ (r : List S53) (all : List ByteArray), chkGo dr all r = (r.all (restB dr) && namesS (all ++ r.map S53.f0))
  | [], all => by simp [chkGo]
  | x :: r, all => by
    unfold chkGo
    rw [chk_eq dr r (all ++ [x.f0]), List.all_cons, List.map_cons, List.append_assoc, List.singleton_append, Bool.and_assoc]
theorem far_eq (pre : List S53) (x : S53) : farB pre x = !memB (pre.map S53.f0) x.f0 := by
  unfold farB memB
  induction pre with
  | nil => rfl
  | cons y pre ih =>
    rw [List.all_cons, List.map_cons, List.any_cons, ih, Bool.not_or]
    congr 1
    show (!(y.f0.toList == x.f0.toList)) = _
    rw [bytes_data, bytes_data]
theorem ref_eq (dr : List ByteArray) : ∀ (r : List S53) (pre : List S53), refGo dr pre r = (r.all (restB dr) && nmGo (pre.map S53.f0) (r.map S53.f0))
 | [], pre => by simp [refGo, nmGo]
 | x :: r, pre => by
  unfold refGo
  rw [ref_eq dr r (pre ++ [x]), List.all_cons, List.map_cons, far_eq, List.map_append]
  show _ = (restB dr x && r.all (restB dr) && (nameB x.f0 && (!memB (pre.map S53.f0) x.f0 && nmGo (pre.map S53.f0 ++ [x.f0]) (r.map S53.f0))))
  show (!memB (pre.map S53.f0) x.f0 && (ruleS x && !memB dr x.f0) && (r.all (restB dr) && nmGo (pre.map S53.f0 ++ [x.f0]) (r.map S53.f0))) = _
  unfold ruleS restB neverS
  generalize memB (pre.map S53.f0) x.f0 = a1
  generalize nameB x.f0 = a2
  generalize namesS x.f1 = a3
  generalize (inK 2 x.f0 || (inK 3 x.f0 || inK 12 x.f0)) = a4
  generalize x.f1.any actsB = a5
  generalize hardN.contains x.f0.data.toList = a6
  generalize memB dr x.f0 = a7
  generalize r.all _ = a8
  generalize nmGo _ _ = a9
  revert a1 a2 a3 a4 a5 a6 a7 a8 a9
  decide +kernel
theorem run_eq (l2 : List ByteArray) : runM l2 = l2.any runsB := by
 unfold runM memB
 induction l2 with
 | nil => rfl
 | cons y l ih =>
  simp only [List.any_cons];rw [← ih];unfold runsB;rw [bytes_data];show (_ == [100, 97, 116, 97] || _ || (_ == [106, 97, 118, 97, 115, 99, 114, 105, 112, 116] || _ || (_ == [118, 98, 115, 99, 114, 105, 112, 116] || _))) = _;generalize (y.data.toList == [100, 97, 116, 97]) = a1;generalize (y.data.toList == [106, 97, 118, 97, 115, 99, 114, 105, 112, 116]) = a2;generalize (y.data.toList == [118, 98, 115, 99, 114, 105, 112, 116]) = a3;generalize l.any _ = a4;generalize l.any _ = a5;generalize l.any _ = a6
  revert a1 a2 a3 a4 a5 a6
  decide +kernel
theorem refX_eq (l : List S53) (l1 l2 l3 : List ByteArray) (d : Int) : refX l l1 l2 l3 d (largeB l l1 l2 l3) = checkS l l1 l2 l3 d := by
 unfold refX checkS finS headR headB;rw [chk_eq, ref_eq, run_eq];show (if _ then 4 else okE ((_ && (_ && (_ && _)) && (_ && nmGo [] _)) && _)) = (if _ then 4 else okE (_ && (_ && nmGo [] _)))
 congr 2
 rw [List.nil_append];generalize decide (1 ≤ d ∧ d ≤ 60) = a1;generalize namesS l1 = a2;generalize namesS l2 = a3;generalize namesS l3 = a4;generalize l2.any runsB = a5;generalize l.all _ = a6;generalize nmGo _ _ = a7
 revert a1 a2 a3 a4 a5 a6 a7
 decide +kernel
theorem refcheck_ev (l : List S53) (l1 l2 l3 : List ByteArray) (d : Int) (hs : SmallP l l1 l2 l3) : Ev (fun k => r11_Check.f k l l1 l2 l3 d) (checkS l l1 l2 l3 d) := by
  rw [← refX_eq]
  exact refcheck_raw l l1 l2 l3 d hs
end Go.Proofs.YtnbghhddmlohoaaDoor.Pure

end

section
namespace Go.Proofs.YtnbghhddmlohoaaDoor.Pure
open Go.RowKit Go.Proofs.YtnbghhddmlohoaaDoor.PAll Go.Proofs.YtnbghhddmlohoaaDoorW.PrintWords Go.Proofs.YtnbghhddmlohoaaDoorW.PrintLast
theorem nodes_nil (l0 : List S53) (l1 l2 l3 : List ByteArray) (d n : Int) : p_nodes.f l0 l1 l2 l3 d [] n = some true := by
  first | rfl | (unfold p_nodes.f; rw [if_pos ⟨2, rfl⟩])
theorem al_zero : l11_alive0.f 100 = some true := by
  unfold l11_alive0.f p_Allowed.f
  simp only [nodes_nil]
  kernel_rfl
theorem alive_ev : Ev (fun k => l11_alive.f k) true := by
  refine Ev.of l11_alive.mono (k := 100) ?_
  unfold l11_alive.f
  rw [if_pos al_zero]
def textsS (l : List ByteArray) : Bool := decide (l.length ≤ 60) && l.all fun s => decide (s.size ≤ 60)
theorem texts_l0 (l : List ByteArray) (hl : l.length ≤ 1000) : ∀ (d i : Nat), i + d = l.length → Ev (fun k => r11_texts.l0 k l (i : Int)) ((l.drop i).all fun s => decide (s.size ≤ 60)) := by
 intro d
 induction d with
 | zero =>
  intro i hi;refine Ev.step (f := fun _ => some true) (fun k => ?_) ?_
  ·simp only [r11_texts.l0];rw [if_neg (show ¬ ((i : Int) < (l.length : Int)) by omega)]
  rw [List.drop_of_length_le (by omega)]; exact Ev.now _
 | succ d ih =>
  intro i hi;have hlt : i < l.length := by omega
  rw [List.drop_eq_getElem_cons hlt, List.all_cons]
  by_cases h : l[i].size ≤ 60
  ·refine Ev.step (f := fun k => r11_texts.l0 k l ((i + 1 : Nat) : Int)) (fun k => ?_) ?_
   ·simp only [r11_texts.l0];rw [if_pos (show (i : Int) < (l.length : Int) by omega), if_pos (show (0 : Int) ≤ (i : Int) by omega), rd_at l i hlt, if_neg (show ¬ ((l[i].size : Int) > 60) by omega), wrap_next (by omega)]
   rw [decide_eq_true h, Bool.true_and]; exact ih (i + 1) (by omega)
  refine Ev.step (f := fun _ => some false) (fun k => ?_) ?_
  ·simp only [r11_texts.l0];rw [if_pos (show (i : Int) < (l.length : Int) by omega), if_pos (show (0 : Int) ≤ (i : Int) by omega), rd_at l i hlt, if_pos (show (l[i].size : Int) > 60 by omega)]
  rw [decide_eq_false h, Bool.false_and]; exact Ev.now _
theorem texts_ev (l : List ByteArray) : Ev (fun k => r11_texts.f k l) (textsS l) := by
 unfold r11_texts.f textsS
 by_cases h : (l.length : Int) > 60
 ·rw [decide_eq_false (show ¬ l.length ≤ 60 by omega), Bool.false_and];exact Ev.congr (fun k => if_pos h) (Ev.now _)
 rw [decide_eq_true (show l.length ≤ 60 by omega), Bool.true_and];have h0 := texts_l0 l (by omega) l.length 0 (by omega);rw [List.drop_zero] at h0;exact Ev.congr (fun k => if_neg h) h0
def smallS (l0 : List S53) (l1 l2 l3 : List ByteArray) : Bool := decide (l0.length ≤ 60) && (textsS l1 && (textsS l2 && (textsS l3 && l0.all fun x => decide (x.f0.size ≤ 60) && textsS x.f1)))
theorem small_l0 (l : List S53) (l1 l2 l3 : List ByteArray) (d0 : Int) (hl : l.length ≤ 1000) : ∀ (d i : Nat), i + d = l.length → Ev (fun k => r11_Small.l0 k (i : Int) l l1 l2 l3 d0) ((l.drop i).all fun x => decide (x.f0.size ≤ 60) && textsS x.f1) := by
 intro d
 induction d with
 | zero =>
  intro i hi;refine Ev.step (f := fun _ => some true) (fun k => ?_) ?_
  ·simp only [r11_Small.l0];rw [if_neg (show ¬ ((i : Int) < (l.length : Int)) by omega)]
  rw [List.drop_of_length_le (by omega)]; exact Ev.now _
 | succ d ih =>
  intro i hi;have hlt : i < l.length := by omega
  rw [List.drop_eq_getElem_cons hlt, List.all_cons]
  by_cases h : l[i].f0.size ≤ 60
  ·refine Ev.step (f := fun k => (r11_texts.f k l[i].f1).bind fun t => if t = true then r11_Small.l0 k ((i + 1 : Nat) : Int) l l1 l2 l3 d0 else some false) (fun k => ?_) ?_
   ·simp only [r11_Small.l0];rw [if_pos (show (i : Int) < (l.length : Int) by omega), if_pos (show (0 : Int) ≤ (i : Int) by omega), rdT_at l i hlt, if_neg (show ¬ ((l[i].f0.size : Int) > 60) by omega), wrap_next (by omega)]
   rw [decide_eq_true h, Bool.true_and];refine Ev.way (texts_ev l[i].f1) (fun h => ?_) (fun h => ?_)
   ·rw [h]; exact ih (i + 1) (by omega)
   rw [h]; exact Ev.now _
  refine Ev.step (f := fun _ => some false) (fun k => ?_) ?_
  ·simp only [r11_Small.l0];rw [if_pos (show (i : Int) < (l.length : Int) by omega), if_pos (show (0 : Int) ≤ (i : Int) by omega), rdT_at l i hlt, if_pos (show (l[i].f0.size : Int) > 60 by omega)]
  rw [decide_eq_false h, Bool.false_and, Bool.false_and]; exact Ev.now _
theorem small_ev (l0 : List S53) (l1 l2 l3 : List ByteArray) (d : Int) : Ev (fun k => r11_Small.f k l0 l1 l2 l3 d) (smallS l0 l1 l2 l3) := by
 have hjt : Ev (fun k => r11_Small.j0 k true l0 l1 l2 l3 d) false := Ev.step (f := fun _ => some false) (fun k => by simp only [r11_Small.j0]; rfl) (Ev.now _);unfold r11_Small.f smallS
 by_cases h : (l0.length : Int) > 60
 ·rw [decide_eq_false (show ¬ l0.length ≤ 60 by omega), Bool.false_and];exact Ev.congr (fun k => if_pos h) hjt
 have hjf : Ev (fun k => r11_Small.j0 k false l0 l1 l2 l3 d) (l0.all fun x => decide (x.f0.size ≤ 60) && textsS x.f1) := by
  refine Ev.step (f := fun k => r11_Small.l0 k 0 l0 l1 l2 l3 d) (fun k => by simp only [r11_Small.j0]; rfl) ?_;have h0 := small_l0 l0 l1 l2 l3 d (by omega) l0.length 0 (by omega);rw [List.drop_zero] at h0;exact h0
 rw [decide_eq_true (show l0.length ≤ 60 by omega), Bool.true_and];refine Ev.congr (fun k => if_neg h) ?_;refine Ev.way (texts_ev l1) (fun h => ?_) (fun h => ?_)
 ·rw [h];refine Ev.way (texts_ev l2) (fun h => ?_) (fun h => ?_)
  ·rw [h];refine Ev.bind (f := fun k t => r11_Small.j0 k (!t) l0 l1 l2 l3 d) (texts_ev l3) ?_
   cases textsS l3 with
   | true => exact hjf
   | false => exact hjt
  rw [h]; exact hjt
 rw [h]; exact hjt
theorem small_is {l0 : List S53} {l1 l2 l3 : List ByteArray} (h : smallS l0 l1 l2 l3 = true) : SmallP l0 l1 l2 l3 := by
  unfold smallS textsS at h
  simp only [Bool.and_eq_true, decide_eq_true_eq, List.all_eq_true] at h
  obtain ⟨h0, ⟨h1, _⟩, ⟨h2, _⟩, ⟨h3, _⟩, ha⟩ := h
  exact ⟨by omega, by omega, by omega, by omega, fun x hx => by have := (ha x hx).2.1; omega⟩
end Go.Proofs.YtnbghhddmlohoaaDoor.Pure

end

section
namespace Go.Proofs.YtnbghhddmlohoaaDoor.Pure
open Go.RowKit Go.Proofs.YtnbghhddmlohoaaDoor.PAll Go.Proofs.YtnbghhddmlohoaaDoorW.PrintWords Go.Proofs.YtnbghhddmlohoaaDoorW.PrintLast
def fnd (l : List S53) (n : ByteArray) : Option S53 := l.find? fun x => x.f0.toList == n.toList
def fndR : Option S53 → ByteArray × List ByteArray × Bool
  | none => ((⟨#[]⟩ : ByteArray), [], false)
  | some x => (x.f0, x.f1, true)
theorem prule_l0 (l : List S53) (n : ByteArray) (hl : l.length ≤ 1000) : ∀ (d i : Nat), i + d = l.length → Ev (fun k => p_rule.l0 k n l (l.length : Int) (i : Int)) (fndR (fnd (l.drop i) n)) := by
 intro d
 induction d with
 | zero =>
  intro i hi;refine Ev.step (f := fun _ => some ((⟨#[]⟩ : ByteArray), ([] : List ByteArray), false)) (fun k => ?_) ?_
  ·simp only [p_rule.l0];rw [if_neg (show ¬ ((i : Int) < (l.length : Int)) by omega)]
  rw [List.drop_of_length_le (by omega)]; exact Ev.now _
 | succ d ih =>
  intro i hi;have hlt : i < l.length := by omega
  rw [List.drop_eq_getElem_cons hlt];unfold fnd;rw [List.find?_cons]
  by_cases h : l[i].f0.toList = n.toList
  ·refine Ev.step (f := fun _ => some (l[i].f0, l[i].f1, true)) (fun k => ?_) ?_
   ·simp only [p_rule.l0];rw [if_pos (show (i : Int) < (l.length : Int) by omega), if_pos (show (0 : Int) ≤ (i : Int) by omega), rdT_at l i hlt, if_pos (show (i : Int) < (l.length : Int) by omega), if_pos h]
   rw [beq_iff_eq.mpr h]; exact Ev.now _
  refine Ev.step (f := fun k => p_rule.l0 k n l (l.length : Int) ((i + 1 : Nat) : Int)) (fun k => ?_) ?_
  ·simp only [p_rule.l0];rw [if_pos (show (i : Int) < (l.length : Int) by omega), if_pos (show (0 : Int) ≤ (i : Int) by omega), rdT_at l i hlt, if_pos (show (i : Int) < (l.length : Int) by omega), if_neg h, wrap_next (by omega)]
  rw [beq_eq_false_iff_ne.mpr h]; exact ih (i + 1) (by omega)
theorem prule_ev (l : List S53) (l1 l2 l3 : List ByteArray) (d0 : Int) (n : ByteArray) (hl : l.length ≤ 1000) : Ev (fun k => p_rule.f k l l1 l2 l3 d0 n) (fndR (fnd l n)) := by
  have h := prule_l0 l n hl l.length 0 (by omega)
  rw [List.drop_zero] at h
  exact h
theorem fnd_mem {l : List S53} {n : ByteArray} {x : S53} (h : fnd l n = some x) : x ∈ l := List.mem_of_find?_eq_some h
section
variable (l : List S53) (l1 l2 l3 : List ByteArray) (d0 : Int)
def letS (x : S53) (an av : ByteArray) : Bool := memB x.f1 an && (!memB l1 an || safeS av l2)
def elemS (n : ByteArray) : Bool := (fnd l n).isSome && checkS l l1 l2 l3 d0 == 0
def attrS (n an av : ByteArray) : Bool := match fnd l n with
  | none => false
  | some x => checkS l l1 l2 l3 d0 == 0 && letS l1 l2 x an av
variable (hs : SmallP l l1 l2 l3)
include hs
theorem let_ev (nn : ByteArray) (x : S53) (an av : ByteArray) (hx : x.f1.length ≤ 1000) (hav : av.size ≤ 1000000) : Ev (fun k => p_let.f k l l1 l2 l3 d0 nn x.f1 an av) (letS l1 l2 x an av) := by
 have b1 := hs.b1;have b2 := hs.b2;unfold p_let.f letS;refine Ev.way (contains_ev x.f1 an (by omega)) (fun h => ?_) (fun h => ?_)
 ·rw [show memB x.f1 an = true from h, Bool.true_and];refine Ev.way (contains_ev l1 an (by omega)) (fun h => ?_) (fun h => ?_)
  ·rw [show memB l1 an = true from h, Bool.not_true, Bool.false_or];exact Ev.pass (safe_ev av l2 hav (by omega))
  rw [show memB l1 an = false from h]; exact Ev.now _
 rw [show memB x.f1 an = false from h]; exact Ev.now _
omit hs in
def findI (n : ByteArray) : Int := if checkS l l1 l2 l3 d0 = 0 then (match l.findIdx? fun x => x.f0.toList == n.toList with | none => -1 | some i => (i : Int)) else -1
theorem find_l0 (n : ByteArray) : ∀ (d i : Nat), i + d = l.length → Ev (fun k => r11_find.l0 k n (i : Int) l l1 l2 l3 d0) (match (l.drop i).findIdx? fun x => x.f0.toList == n.toList with | none => -1 | some j => ((i + j : Nat) : Int)) := by
 have b0 := hs.b0;intro d
 induction d with
 | zero =>
  intro i hi;refine Ev.step (f := fun _ => some (-1)) (fun k => ?_) ?_
  ·simp only [r11_find.l0];rw [if_neg (show ¬ ((i : Int) < (l.length : Int)) by omega)]
  rw [List.drop_of_length_le (by omega)]; exact Ev.now _
 | succ d ih =>
  intro i hi;have hlt : i < l.length := by omega
  rw [List.drop_eq_getElem_cons hlt, List.findIdx?_cons]
  by_cases h : l[i].f0.toList = n.toList
  ·refine Ev.step (f := fun _ => some (i : Int)) (fun k => ?_) ?_
   ·simp only [r11_find.l0];rw [if_pos (show (i : Int) < (l.length : Int) by omega), if_pos (show (0 : Int) ≤ (i : Int) by omega), rdT_at l i hlt, if_pos h]
   rw [beq_iff_eq.mpr h]; exact Ev.now _
  refine Ev.step (f := fun k => r11_find.l0 k n ((i + 1 : Nat) : Int) l l1 l2 l3 d0) (fun k => ?_) ?_
  ·simp only [r11_find.l0];rw [if_pos (show (i : Int) < (l.length : Int) by omega), if_pos (show (0 : Int) ≤ (i : Int) by omega), rdT_at l i hlt, if_neg h, wrap_next (by omega)]
  rw [beq_eq_false_iff_ne.mpr h];have hh := ih (i + 1) (by omega)
  cases hf : (l.drop (i + 1)).findIdx? (fun x => x.f0.toList == n.toList) with
  | none => rw [hf] at hh; exact hh
  | some j =>
   rw [hf] at hh;have e : ((i + 1 + j : Nat) : Int) = ((i + (j + 1) : Nat) : Int) := by omega
   simp only [e] at hh;exact hh
theorem find_ev (n : ByteArray) : Ev (fun k => r11_find.f k l l1 l2 l3 d0 n) (findI l l1 l2 l3 d0 n) := by
 unfold r11_find.f findI;refine Ev.bind (f := fun k t => if t = 0 then r11_find.l0 k n 0 l l1 l2 l3 d0 else some (-1)) (refcheck_ev l l1 l2 l3 d0 hs) ?_
 by_cases hc : checkS l l1 l2 l3 d0 = 0
 ·rw [if_pos hc];have h := find_l0 l l1 l2 l3 d0 hs n l.length 0 (by omega);rw [List.drop_zero] at h;refine Ev.congr (fun k => if_pos hc) ?_
  cases hf : l.findIdx? (fun x => x.f0.toList == n.toList) with
  | none => rw [hf] at h; exact h
  | some j =>
   rw [hf] at h;simp only [Nat.zero_add] at h;exact h
 rw [if_neg hc];exact Ev.congr (fun k => if_neg hc) (Ev.now _)
omit hs in
theorem find_is (n : ByteArray) : (fnd l n = none ∧ l.findIdx? (fun x => x.f0.toList == n.toList) = none) ∨ ∃ (i : Nat) (h : i < l.length), l.findIdx? (fun x => x.f0.toList == n.toList) = some i ∧ fnd l n = some l[i] := by
 unfold fnd
 cases hf : l.findIdx? (fun x => x.f0.toList == n.toList) with
 | none =>
  left
  refine ⟨?_, rfl⟩;rw [List.findIdx?_eq_none_iff] at hf;rw [List.find?_eq_none];intro x hx;rw [hf x hx]; decide
 | some i =>
  right
  obtain ⟨h, hp, hq⟩ := List.findIdx?_eq_some_iff_getElem.mp hf;refine ⟨i, h, rfl, ?_⟩;rw [List.find?_eq_some_iff_getElem];exact ⟨hp, i, h, rfl, fun j hj => by rw [bf (hq j hj)]; rfl⟩
theorem refelem_ev (n : ByteArray) : Ev (fun k => r11_Element.f k l l1 l2 l3 d0 n) (elemS l l1 l2 l3 d0 n) := by
 unfold r11_Element.f;refine Ev.bind (f := fun _ t => some (decide (t ≥ 0))) (find_ev l l1 l2 l3 d0 hs n) ?_;unfold elemS findI
 by_cases hc : checkS l l1 l2 l3 d0 = 0
 ·rw [if_pos hc, beq_iff_eq.mpr hc, Bool.and_true]
  rcases find_is l n with ⟨h1, h2⟩ | ⟨i, hi, h1, h2⟩
  ·rw [h1, h2]; exact Ev.now _
  rw [h1, h2];show Ev (fun _ => some (decide ((i : Int) ≥ 0))) true;rw [decide_eq_true (show (i : Int) ≥ 0 by omega)];exact Ev.now _
 rw [if_neg hc, beq_eq_false_iff_ne.mpr hc, Bool.and_false];exact Ev.now _
theorem refattr_ev (n an av : ByteArray) (hav : av.size ≤ 1000000) : Ev (fun k => r11_Attr.f k l l1 l2 l3 d0 n an av) (attrS l l1 l2 l3 d0 n an av) := by
 have b1 := hs.b1;have b2 := hs.b2;unfold r11_Attr.f;refine Ev.bind (f := fun k t476 => (if t476 ≥ 0 then (if 0 ≤ t476 then (if t476 < (l.length : Int) then ((r11_in.f k ((rd_T53 l t476).f1) an).bind fun t478 => (if t478 = true then ((r11_in.f k l1 an).bind fun t479 => (if t479 = true then ((r10_Safe.f k av l2).bind fun t480 => (some t480)) else (some true))) else (some false))) else (none)) else (none)) else (some false))) (find_ev l l1 l2 l3 d0 hs n) ?_;unfold attrS findI
 by_cases hc : checkS l l1 l2 l3 d0 = 0
 ·rw [if_pos hc, beq_iff_eq.mpr hc]
  rcases find_is l n with ⟨h1, h2⟩ | ⟨i, hi, h1, h2⟩
  ·rw [h1, h2]; exact Ev.now _
  rw [h1, h2];have hx := hs.ba l[i] (List.getElem_mem hi);show Ev _ (true && letS l1 l2 l[i] an av);rw [Bool.true_and];unfold letS;refine Ev.congr (f := fun k => (r11_in.f k l[i].f1 an).bind fun t478 => (if t478 = true then ((r11_in.f k l1 an).bind fun t479 => (if t479 = true then ((r10_Safe.f k av l2).bind fun t480 => (some t480)) else (some true))) else (some false))) (fun k => ?_) ?_
  ·show (if (i : Int) ≥ 0 then _ else _) = _;rw [if_pos (show (i : Int) ≥ 0 by omega), if_pos (show (0 : Int) ≤ (i : Int) by omega), if_pos (show (i : Int) < (l.length : Int) by omega), rdT_at l i hi]
  refine Ev.way (refin_ev l[i].f1 an (by omega)) (fun h => ?_) (fun h => ?_)
  ·rw [h, Bool.true_and];refine Ev.way (refin_ev l1 an (by omega)) (fun h => ?_) (fun h => ?_)
   ·rw [h, Bool.not_true, Bool.false_or];exact Ev.pass (rsafe_ev av l2 hav (by omega))
   rw [h]; exact Ev.now _
  rw [h]; exact Ev.now _
 rw [if_neg hc, beq_eq_false_iff_ne.mpr hc]
 cases fnd l n with
 | none => exact Ev.now _
 | some x => exact Ev.now _
end
end Go.Proofs.YtnbghhddmlohoaaDoor.Pure

end

section
namespace Go.Proofs.YtnbghhddmlohoaaDoor.Pure
open Go.RowKit Go.Proofs.YtnbghhddmlohoaaDoor.PAll Go.Proofs.YtnbghhddmlohoaaDoorW.PrintWords Go.Proofs.YtnbghhddmlohoaaDoorW.PrintLast
set_option linter.unusedSimpArgs false
set_option linter.unusedVariables false
theorem wr {n : Int} (h : -9223372036854775808 ≤ n) (h' : n ≤ 9223372036854775807) : wrap64 n = n := by unfold wrap64; omega
theorem rdN_at (l : List S49) (i : Nat) (h : i < l.length) : rd_T49 l (i : Int) = l[i] := by
  simp [rd_T49, List.getD_eq_getElem?_getD, h]
theorem rdA_at (l : List S35) (i : Nat) (h : i < l.length) : rd_T35 l (i : Int) = l[i] := by
  simp [rd_T35, List.getD_eq_getElem?_getD, h]
def NB : Nat → List S49 → Prop
  | 0, _ => False
  | e + 1, l => l.length ≤ 1000 ∧ ∀ x ∈ l, x.f3.length ≤ 1000 ∧ (∀ a ∈ x.f3, a.f1.size ≤ 1000) ∧ NB e x.f5
def WT (g : Nat → Option Int) (m : Nat) (P : Prop) : Prop := ∃ r : Nat, Ev g (r : Int) ∧ r ≤ m ∧ (r < m → P)
theorem WT.step {g f : Nat → Option Int} {m : Nat} {P : Prop} (h : ∀ k, g (k + 1) = f k) (w : WT f m P) : WT g m P := by
  obtain ⟨r, e, h1, h2⟩ := w
  exact ⟨r, Ev.step h e, h1, h2⟩
theorem WT.top {g : Nat → Option Int} {m : Nat} {P : Prop} (h : ∀ k, g (k + 1) = some (m : Int)) : WT g m P := ⟨m, Ev.step (f := fun _ => some (m : Int)) h (Ev.now _), Nat.le_refl _, fun hh => absurd hh (by omega)⟩
theorem WT.imp {g : Nat → Option Int} {m : Nat} {P Q : Prop} (h : P → Q) (w : WT g m P) : WT g m Q := by
  obtain ⟨r, e, h1, h2⟩ := w
  exact ⟨r, e, h1, fun hh => h (h2 hh)⟩
section
variable (l : List S49) (m : Nat) (deep : Int) (e : Nat) (hm : m ≤ 1000)
include hm
theorem weight_l1 (i : Nat) (hi : i < l.length) (hal : l[i].f3.length ≤ 1000) (P : Prop) (n0 : Nat) (K : ∀ n', n0 ≤ n' → n' < m → WT (fun k => (r09_Weight.f k l[i].f5 ((m : Int) - (n' : Int)) (wrap64 (deep - 1))).bind fun t => r09_Weight.l0 k l m deep (wrap64 ((n' : Int) + t)) (wrap64 ((i : Int) + 1))) m P) :
  ∀ (d j n : Nat), j + d = l[i].f3.length → n0 ≤ n → n ≤ 5000 → WT (fun k => r09_Weight.l1 k l m deep (n : Int) (i : Int) (j : Int)) m ((∀ a ∈ l[i].f3.drop j, a.f1.size ≤ 1000) ∧ P) := by
 intro d
 have h4f : ∀ (n : Nat) (j : Int) (Q : Prop), n0 ≤ n → n ≤ 5000 → (n < m → Q) → WT (fun k => r09_Weight.j4 k l m deep (n : Int) (i : Int) j false) m (Q ∧ P) := by
  intro n j Q hn h5 hQ
  by_cases hge : (n : Int) ≥ (m : Int)
  ·exact WT.top fun k => by simp only [r09_Weight.j4]; rw [if_neg (by decide), if_pos hge]
  refine WT.step (f := fun k => (r09_Weight.f k l[i].f5 ((m : Int) - (n : Int)) (wrap64 (deep - 1))).bind fun t => r09_Weight.l0 k l m deep (wrap64 ((n : Int) + t)) (wrap64 ((i : Int) + 1))) (fun k => ?_) (WT.imp (fun h => ⟨hQ (by omega), h⟩) (K n hn (by omega)));simp only [r09_Weight.j4];rw [if_neg (by decide), if_neg hge, if_pos (show (0 : Int) ≤ (i : Int) by omega), if_pos (show (i : Int) < (l.length : Int) by omega), rdN_at l i hi, wr (show (-9223372036854775808 : Int) ≤ (m : Int) - (n : Int) by omega) (by omega)]
 induction d with
 | zero =>
  intro j n hj hn h5;refine WT.step (f := fun k => r09_Weight.j4 k l m deep (n : Int) (i : Int) (j : Int) false) (fun k => ?_) (h4f n _ _ hn h5 (fun _ => ?_))
  ·simp only [r09_Weight.l1];rw [if_pos (show (0 : Int) ≤ (i : Int) by omega), if_pos (show (i : Int) < (l.length : Int) by omega), rdN_at l i hi, if_neg (show ¬ ((j : Int) < (l[i].f3.length : Int)) by omega)]
  rw [List.drop_of_length_le (by omega)]; simp
 | succ d ih =>
  intro j n hj hn h5;have hlt : j < l[i].f3.length := by omega
  refine WT.step (f := fun k => r09_Weight.j4 k l m deep (n : Int) (i : Int) (j : Int) (decide ((n : Int) < (m : Int)))) (fun k => ?_) ?_
  ·simp only [r09_Weight.l1];rw [if_pos (show (0 : Int) ≤ (i : Int) by omega), if_pos (show (i : Int) < (l.length : Int) by omega), rdN_at l i hi, if_pos (show (j : Int) < (l[i].f3.length : Int) by omega)]
  by_cases hlm : (n : Int) < (m : Int)
  ·rw [decide_eq_true hlm];have hrd : rd_T35 l[i].f3 (j : Int) = l[i].f3[j] := rdA_at _ j hlt
   by_cases ha : (l[i].f3[j].f0.size : Int) ≥ (m : Int)
   ·exact WT.top fun k => by
     simp only [r09_Weight.j4];rw [if_pos trivial, if_pos (show (0 : Int) ≤ (i : Int) by omega), if_pos (show (i : Int) < (l.length : Int) by omega), if_pos (show (0 : Int) ≤ (j : Int) by omega), rdN_at l i hi, if_pos (show (j : Int) < (l[i].f3.length : Int) by omega), hrd, if_pos ha]
   by_cases hb : (l[i].f3[j].f1.size : Int) ≥ (m : Int)
   ·exact WT.top fun k => by
     simp only [r09_Weight.j4];rw [if_pos trivial, if_pos (show (0 : Int) ≤ (i : Int) by omega), if_pos (show (i : Int) < (l.length : Int) by omega), if_pos (show (0 : Int) ≤ (j : Int) by omega), rdN_at l i hi, if_pos (show (j : Int) < (l[i].f3.length : Int) by omega), hrd, if_neg ha, if_pos hb]
   refine WT.imp ?_ (WT.step (f := fun k => r09_Weight.l1 k l m deep ((n + 1 + l[i].f3[j].f0.size + l[i].f3[j].f1.size : Nat) : Int) (i : Int) ((j + 1 : Nat) : Int)) (fun k => ?_) (ih (j + 1) (n + 1 + l[i].f3[j].f0.size + l[i].f3[j].f1.size) (by omega) (by omega) (by omega)))
   ·rintro ⟨h1, h2⟩;refine ⟨?_, h2⟩;rw [List.drop_eq_getElem_cons hlt];intro a haa
    rcases List.mem_cons.mp haa with rfl | haa
    ·omega
    exact h1 a haa
   simp only [r09_Weight.j4]
   rw [if_pos trivial, if_pos (show (0 : Int) ≤ (i : Int) by omega), if_pos (show (i : Int) < (l.length : Int) by omega), if_pos (show (0 : Int) ≤ (j : Int) by omega), rdN_at l i hi, if_pos (show (j : Int) < (l[i].f3.length : Int) by omega), hrd, if_neg ha, if_neg hb,
    wr (n := (n : Int) + 1) (by omega) (by omega), wr (n := (n : Int) + 1 + (l[i].f3[j].f0.size : Int)) (by omega) (by omega), wr (n := (n : Int) + 1 + (l[i].f3[j].f0.size : Int) + (l[i].f3[j].f1.size : Int)) (by omega) (by omega), wr (n := (j : Int) + 1) (by omega) (by omega)]
   congr 1
  rw [decide_eq_false hlm];obtain ⟨r, e, h1, h2⟩ := h4f n (j : Int) False hn h5 (fun h => absurd h (by omega));exact ⟨r, e, h1, fun hh => (h2 hh).1.elim⟩
end
theorem weight_wt : ∀ (e m : Nat) (l : List S49), m ≤ 1000 → e ≤ 1000 → WT (fun k => r09_Weight.f k l (m : Int) (e : Int)) m (NB e l)
 | 0, m, l, hm, he => WT.top fun k => by
   simp only [r09_Weight.f]
   rw [if_pos (by omega)]
 | e + 1, m, l, hm, he => by
  have IH := weight_wt e
  have hd : wrap64 (((e + 1 : Nat) : Int) - 1) = (e : Int) := by rw [wr (by omega) (by omega)]; omega
  have L0 : ∀ (d i n : Nat), i + d = l.length → i ≤ n → n ≤ m → WT (fun k => r09_Weight.l0 k l m ((e + 1 : Nat) : Int) (n : Int) (i : Int)) m (l.length ≤ 1000 ∧ ∀ x ∈ l.drop i, x.f3.length ≤ 1000 ∧ (∀ a ∈ x.f3, a.f1.size ≤ 1000) ∧ NB e x.f5) := by
   intro d
   induction d with
   | zero =>
    intro i n hi hin hn;refine WT.step (f := fun k => r09_Weight.j1 k l m ((e + 1 : Nat) : Int) (n : Int) (i : Int) false) (fun k => ?_) ⟨n, Ev.step (f := fun _ => some (n : Int)) (fun k => ?_) (Ev.now _), hn, fun hlt => ⟨by omega, ?_⟩⟩
    ·simp only [r09_Weight.l0];rw [if_neg (show ¬ ((i : Int) < (l.length : Int)) by omega)]
    ·simp only [r09_Weight.j1];rw [if_neg (by decide)]
    rw [List.drop_of_length_le (by omega)]; simp
   | succ d ih =>
    intro i n hi hin hn;have hlt : i < l.length := by omega
    refine WT.step (f := fun k => r09_Weight.j1 k l m ((e + 1 : Nat) : Int) (n : Int) (i : Int) (decide ((n : Int) < (m : Int)))) (fun k => ?_) ?_
    ·simp only [r09_Weight.l0];rw [if_pos (show (i : Int) < (l.length : Int) by omega)]
    by_cases hnm : (n : Int) < (m : Int)
    ·rw [decide_eq_true hnm]
     have hj2t : WT (fun k => r09_Weight.j2 k l m ((e + 1 : Nat) : Int) (wrap64 ((n : Int) + 1)) (i : Int) true) m (l.length ≤ 1000 ∧ ∀ x ∈ l.drop i, x.f3.length ≤ 1000 ∧ (∀ a ∈ x.f3, a.f1.size ≤ 1000) ∧ NB e x.f5) :=
      WT.top fun k => by simp only [r09_Weight.j2]; rfl
     by_cases h1 : (l[i].f2.size : Int) ≥ (m : Int)
     ·refine WT.step (fun k => ?_) hj2t;simp only [r09_Weight.j1];rw [if_pos trivial, if_pos (show (0 : Int) ≤ (i : Int) by omega), if_pos (show (i : Int) < (l.length : Int) by omega), rdN_at l i hlt, if_pos h1]
     by_cases h2 : (l[i].f4.size : Int) ≥ (m : Int)
     ·refine WT.step (fun k => ?_) hj2t;simp only [r09_Weight.j1];rw [if_pos trivial, if_pos (show (0 : Int) ≤ (i : Int) by omega), if_pos (show (i : Int) < (l.length : Int) by omega), rdN_at l i hlt, if_neg h1, if_pos h2]
     by_cases h3 : (l[i].f3.length : Int) ≥ (m : Int)
     ·refine WT.step (fun k => ?_) hj2t;simp only [r09_Weight.j1];rw [if_pos trivial, if_pos (show (0 : Int) ≤ (i : Int) by omega), if_pos (show (i : Int) < (l.length : Int) by omega), rdN_at l i hlt, if_neg h1, if_neg h2, decide_eq_true h3]
     refine WT.step (f := fun k => r09_Weight.j2 k l m ((e + 1 : Nat) : Int) (wrap64 ((n : Int) + 1)) (i : Int) false) (fun k => ?_) ?_
     ·simp only [r09_Weight.j1];rw [if_pos trivial, if_pos (show (0 : Int) ≤ (i : Int) by omega), if_pos (show (i : Int) < (l.length : Int) by omega), rdN_at l i hlt, if_neg h1, if_neg h2, decide_eq_false h3]
     refine WT.step (f := fun k => r09_Weight.l1 k l m ((e + 1 : Nat) : Int) ((n + 1 + l[i].f2.size + l[i].f4.size : Nat) : Int) (i : Int) ((0 : Nat) : Int)) (fun k => ?_) ?_
     ·simp only [r09_Weight.j2];rw [if_neg (by decide), if_pos (show (0 : Int) ≤ (i : Int) by omega), if_pos (show (i : Int) < (l.length : Int) by omega), rdN_at l i hlt, wr (n := (n : Int) + 1) (by omega) (by omega), wr (n := (n : Int) + 1 + (l[i].f2.size : Int)) (by omega) (by omega), wr (n := (n : Int) + 1 + (l[i].f2.size : Int) + (l[i].f4.size : Int)) (by omega) (by omega)]
      congr 1
     refine WT.imp ?_ (weight_l1 l m ((e + 1 : Nat) : Int) hm i hlt (by omega) (NB e l[i].f5 ∧ (l.length ≤ 1000 ∧ ∀ x ∈ l.drop (i + 1), x.f3.length ≤ 1000 ∧ (∀ a ∈ x.f3, a.f1.size ≤ 1000) ∧ NB e x.f5)) (n + 1 + l[i].f2.size + l[i].f4.size) (fun n' hn' hnm' => ?_) l[i].f3.length 0 _ (by omega) (Nat.le_refl _) (by omega))
     ·rintro ⟨ha, hk, hl, hr⟩;rw [List.drop_zero] at ha;refine ⟨hl, ?_⟩;rw [List.drop_eq_getElem_cons hlt];intro x hx
      rcases List.mem_cons.mp hx with rfl | hx
      ·exact ⟨by omega, ha, hk⟩
      exact hr x hx
     obtain ⟨r, hr, hrm, hnb⟩ := IH (m - n') l[i].f5 (by omega) (by omega);obtain ⟨r2, hr2, hrm2, hnb2⟩ := ih (i + 1) (n' + r) (by omega) (by omega) (by omega);refine ⟨r2, ?_, hrm2, fun hh => ⟨?_, hnb2 hh⟩⟩
     ·rw [hd, show (m : Int) - (n' : Int) = ((m - n' : Nat) : Int) by omega];refine Ev.bind (f := fun k t => r09_Weight.l0 k l m ((e + 1 : Nat) : Int) (wrap64 ((n' : Int) + t)) (wrap64 ((i : Int) + 1))) hr ?_;rw [wr (n := (n' : Int) + (r : Int)) (by omega) (by omega), wr (n := (i : Int) + 1) (by omega) (by omega)];exact hr2
     refine hnb ?_
     -- a full weight of the kids is a full weight of all
     rcases Nat.lt_or_ge r (m - n') with h | h
     ·exact h
     exfalso
     have hfull : WT (fun k => r09_Weight.l0 k l m ((e + 1 : Nat) : Int) ((n' + r : Nat) : Int) ((i + 1 : Nat) : Int)) m False := by
      have e1 : n' + r = m := by omega
      rw [e1];have hj : WT (fun k => r09_Weight.j1 k l m ((e + 1 : Nat) : Int) ((m : Nat) : Int) ((i + 1 : Nat) : Int) false) m False := WT.top fun k => by simp only [r09_Weight.j1]; rw [if_neg (by decide)]
      refine WT.step (fun k => ?_) hj;simp only [r09_Weight.l0];rw [decide_eq_false (show ¬ ((m : Int) < (m : Int)) by omega), ite_self]
     obtain ⟨r3, hr3, _, h3⟩ := hfull;obtain ⟨K1, hK1⟩ := hr3;obtain ⟨K2, hK2⟩ := hr2;have a1 := hK1 (max K1 K2) (Nat.le_max_left _ _);have a2 := hK2 (max K1 K2) (Nat.le_max_right _ _);have : (r3 : Int) = (r2 : Int) := Option.some.inj (a1.symm.trans a2);exact h3 (by omega)
    rw [decide_eq_false hnm];refine WT.top fun k => ?_
    simp only [r09_Weight.j1];rw [if_neg (by decide)]
    congr 1
    omega
  refine WT.imp ?_ (WT.step (f := fun k => r09_Weight.l0 k l m ((e + 1 : Nat) : Int) ((0 : Nat) : Int) ((0 : Nat) : Int)) (fun k => ?_) (L0 l.length 0 0 (by omega) (Nat.le_refl _) (by omega)))
  ·rintro ⟨h1, h2⟩;rw [List.drop_zero] at h2;exact ⟨h1, h2⟩
  simp only [r09_Weight.f];rw [if_neg (by omega)];rfl
end Go.Proofs.YtnbghhddmlohoaaDoor.Pure

end

section
namespace Go.Proofs.YtnbghhddmlohoaaDoor.Pure
open Go.RowKit Go.Proofs.YtnbghhddmlohoaaDoor.PAll Go.Proofs.YtnbghhddmlohoaaDoorW.PrintWords Go.Proofs.YtnbghhddmlohoaaDoorW.PrintLast
set_option linter.unusedSimpArgs false
set_option linter.unusedVariables false
def textB (x : S49) : Bool := x.f0 == 2 && (x.f1 == 0 && (!(x.f4.toList == []) && (x.f2.toList == [] && (x.f3.length == 0 && x.f5.length == 0))))
theorem text_is (x : S49) : p_text.f x.f0 x.f1 x.f2 x.f3 x.f4 x.f5 = some (textB x) := by
 unfold p_text.f textB
 by_cases h0 : x.f0 = 2
 ·by_cases h1 : x.f1 = 0
  ·by_cases h4 : x.f4.toList = ([] : List UInt8)
   ·simp [h0, h1, h4]
   by_cases h2 : x.f2.toList = ([] : List UInt8)
   ·by_cases h3 : x.f3.length = 0
    ·have e3 : (x.f3.length : Int) = 0 := by omega
     have e5 : ((x.f5.length : Int) == 0) = (x.f5.length == 0) := by
      by_cases h5 : x.f5.length = 0
      ·simp [h5]
      rw [beq_eq_false_iff_ne.mpr h5, beq_eq_false_iff_ne.mpr (by omega)]
     rw [if_pos h0, if_pos h1, if_neg h4, if_pos h2, if_pos e3, e5, beq_iff_eq.mpr h0, beq_iff_eq.mpr h1, beq_eq_false_iff_ne.mpr h4, beq_iff_eq.mpr h2, beq_iff_eq.mpr h3];rfl
    have e3 : ¬ (x.f3.length : Int) = 0 := by omega
    rw [if_pos h0, if_pos h1, if_neg h4, if_pos h2, if_neg e3, beq_iff_eq.mpr h0, beq_iff_eq.mpr h1, beq_eq_false_iff_ne.mpr h4, beq_iff_eq.mpr h2, beq_eq_false_iff_ne.mpr h3];rfl
   rw [if_pos h0, if_pos h1, if_neg h4, if_neg h2, beq_iff_eq.mpr h0, beq_iff_eq.mpr h1, beq_eq_false_iff_ne.mpr h4, beq_eq_false_iff_ne.mpr h2];rfl
  rw [if_pos h0, if_neg h1, beq_iff_eq.mpr h0, beq_eq_false_iff_ne.mpr h1]; rfl
 rw [if_neg h0, beq_eq_false_iff_ne.mpr h0]; rfl
def nodesG (one : S49 → Bool) : Bool → List S49 → Bool
  | _, [] => true
  | p, x :: r => if x.f0 = 2 then (textB x && !p) && nodesG one true r else one x && nodesG one false r
def prevB (ls : List S49) (i : Nat) : Bool := match i with
  | 0 => false
  | j + 1 => match ls[j]? with
    | none => false
    | some x => x.f0 == 2
theorem prev_next (ls : List S49) (i : Nat) (h : i < ls.length) : prevB ls (i + 1) = (ls[i].f0 == 2) := by
  unfold prevB
  simp [h]
section
variable (l : List S53) (l1 l2 l3 : List ByteArray) (d0 : Int)
def headEl (x : S49) (deep : Int) : Bool := match fnd l x.f2 with
  | none => false
  | some r => x.f0 == 1 && (x.f1 == 0 && (x.f4.toList == [] && (!decide (deep > d0) && x.f3.all fun a => letS l1 l2 r a.f0 a.f1)))
def nodesS : Nat → List S49 → Int → Bool
  | 0, _, _ => true
  | e + 1, ls, deep => nodesG (fun x => headEl l l1 l2 d0 x deep && nodesS e x.f5 (deep + 1)) false ls
abbrev OE := List S53 → List ByteArray → List ByteArray → List ByteArray → Int → Int → Int → ByteArray → List S35 → ByteArray → List S49 → Int → Option Bool
abbrev ON := List S53 → List ByteArray → List ByteArray → List ByteArray → Int → List S49 → Int → Option Bool
theorem nodes0_l0 (oE : OE) (one : S49 → Bool) (ls : List S49) (deep : Int) (hl : ls.length ≤ 1000) (H : ∀ x ∈ ls, oE l l1 l2 l3 d0 x.f0 x.f1 x.f2 x.f3 x.f4 x.f5 deep = some (one x)) :
  ∀ (d i : Nat), i + d = ls.length → Ev (fun k => pNo.l0 oE k ls deep ls (ls.length : Int) (i : Int) l l1 l2 l3 d0) (nodesG one (prevB ls i) (ls.drop i)) := by
 intro d
 induction d with
 | zero =>
  intro i hi;refine Ev.step (f := fun _ => some true) (fun k => ?_) ?_
  ·simp only [pNo.l0];rw [if_neg (show ¬ ((i : Int) < (ls.length : Int)) by omega)]
  rw [List.drop_of_length_le (by omega)]; exact Ev.now _
 | succ d ih =>
  intro i hi;have hlt : i < ls.length := by omega
  have hnext := ih (i + 1) (by omega);rw [prev_next ls i hlt] at hnext;rw [List.drop_eq_getElem_cons hlt];unfold nodesG;have hrd := rdN_at ls i hlt
  have hj : ∀ b : Bool, Ev (fun k => pNo.j1 oE k ls deep ls (ls.length : Int) (i : Int) b l l1 l2 l3 d0) (!b && nodesG one (ls[i].f0 == 2) (ls.drop (i + 1))) := fun b => by
   cases b with
   | true => exact Ev.step (f := fun _ => some false) (fun k => by simp only [pNo.j1]; rfl) (Ev.now _)
   | false =>
    refine Ev.step (f := fun k => pNo.l0 oE k ls deep ls (ls.length : Int) ((i + 1 : Nat) : Int) l l1 l2 l3 d0) (fun k => ?_) hnext;simp only [pNo.j1];rw [if_neg (by decide), wrap_next (by omega)]
  by_cases h2 : ls[i].f0 = 2
  ·rw [if_pos h2];rw [h2] at hj
   cases ht : textB ls[i] with
   | false =>
    refine Ev.step (f := fun k => pNo.j1 oE k ls deep ls (ls.length : Int) (i : Int) true l l1 l2 l3 d0) (fun k => ?_) (hj true);simp only [pNo.l0];rw [if_pos (show (i : Int) < (ls.length : Int) by omega), if_pos (show (0 : Int) ≤ (i : Int) by omega), hrd, if_pos (show (i : Int) < (ls.length : Int) by omega), if_pos h2, text_is, ht];rfl
   | true =>
    rw [Bool.true_and];refine Ev.step (f := fun k => pNo.j1 oE k ls deep ls (ls.length : Int) (i : Int) (prevB ls i) l l1 l2 l3 d0) (fun k => ?_) (hj _);simp only [pNo.l0];rw [if_pos (show (i : Int) < (ls.length : Int) by omega), if_pos (show (0 : Int) ≤ (i : Int) by omega), hrd, if_pos (show (i : Int) < (ls.length : Int) by omega), if_pos h2, text_is, ht];simp only [Option.bind_some, ↓reduceIte]
    match i, hlt with
    | 0, _ => rw [if_neg (by decide)]; rfl
    | j + 1, hlt =>
     have e : wrap64 (((j + 1 : Nat) : Int) - 1) = (j : Int) := by rw [wr (by omega) (by omega)]; omega
     rw [if_pos (by omega), e, if_pos (show (0 : Int) ≤ (j : Int) by omega), if_pos (show (j : Int) < (ls.length : Int) by omega), rdN_at ls j (by omega), prev_next ls j (by omega)]
  rw [if_neg h2];refine Ev.step (f := fun k => if one ls[i] = true then pNo.l0 oE k ls deep ls (ls.length : Int) ((i + 1 : Nat) : Int) l l1 l2 l3 d0 else some false) (fun k => ?_) ?_
  ·simp only [pNo.l0];rw [if_pos (show (i : Int) < (ls.length : Int) by omega), if_pos (show (0 : Int) ≤ (i : Int) by omega), hrd, if_pos (show (i : Int) < (ls.length : Int) by omega), if_neg h2, H _ (List.getElem_mem hlt), wrap_next (by omega)];rfl
  cases ho : one ls[i] with
  | false => exact Ev.congr (fun k => if_neg (by decide)) (Ev.now _)
  | true =>
   rw [Bool.true_and];refine Ev.congr (fun k => if_pos rfl) ?_;rw [beq_eq_false_iff_ne.mpr h2] at hnext;exact hnext
variable (hs : SmallP l l1 l2 l3)
include hs
theorem elem0_ev (oN : ON) (x : S49) (deep : Int) (b : Bool) (hd : -1000000 ≤ deep) (hd' : deep ≤ 1000000) (hx : x.f3.length ≤ 1000) (hv : ∀ a ∈ x.f3, a.f1.size ≤ 1000) (H : oN l l1 l2 l3 d0 x.f5 (deep + 1) = some b) :
  Ev (fun k => pEl.f oN k l l1 l2 l3 d0 x.f0 x.f1 x.f2 x.f3 x.f4 x.f5 deep) (headEl l l1 l2 d0 x deep && b) := by
 unfold pEl.f headEl
 have hjt : ∀ nn at_, Ev (fun k => pEl.j0 oN k deep true l l1 l2 l3 d0 x.f0 x.f1 x.f2 x.f3 x.f4 x.f5 nn at_) false := fun nn at_ =>
  Ev.step (f := fun _ => some false) (fun k => by simp only [pEl.j0]; rfl) (Ev.now _)
 refine Ev.bind (f := fun k bt269 => (if bt269.2.2 = true then (if x.f0 = 1 then (if x.f1 = 0 then (if x.f4.toList = ([] : List UInt8) then (pEl.j0 oN k deep (decide (deep > d0)) l l1 l2 l3 d0 x.f0 x.f1 x.f2 x.f3 x.f4 x.f5 bt269.1 bt269.2.1) else (pEl.j0 oN k deep true l l1 l2 l3 d0 x.f0 x.f1 x.f2 x.f3 x.f4 x.f5 bt269.1 bt269.2.1)) else (pEl.j0 oN k deep true l l1 l2 l3 d0 x.f0 x.f1 x.f2 x.f3 x.f4 x.f5 bt269.1 bt269.2.1)) else (pEl.j0 oN k deep true l l1 l2 l3 d0 x.f0 x.f1 x.f2 x.f3 x.f4 x.f5 bt269.1 bt269.2.1)) else (pEl.j0 oN k deep true l l1 l2 l3 d0 x.f0 x.f1 x.f2 x.f3 x.f4 x.f5 bt269.1 bt269.2.1))) (prule_ev l l1 l2 l3 d0 x.f2 hs.b0) ?_
 cases hf : fnd l x.f2 with
 | none => exact Ev.congr (fun k => if_neg (by decide)) (hjt _ _)
 | some r =>
  have hr := hs.ba r (fnd_mem hf);refine Ev.congr (fun k => if_pos rfl) ?_;show Ev _ ((x.f0 == 1 && (x.f1 == 0 && (x.f4.toList == [] && (!decide (deep > d0) && x.f3.all fun a => letS l1 l2 r a.f0 a.f1)))) && b)
  by_cases h0 : x.f0 = 1
  ·rw [beq_iff_eq.mpr h0, Bool.true_and];refine Ev.congr (fun k => if_pos h0) ?_
   by_cases h1 : x.f1 = 0
   ·rw [beq_iff_eq.mpr h1, Bool.true_and];refine Ev.congr (fun k => if_pos h1) ?_
    by_cases h4 : x.f4.toList = ([] : List UInt8)
    ·rw [beq_iff_eq.mpr h4, Bool.true_and];refine Ev.congr (fun k => if_pos h4) ?_
     by_cases hdp : deep > d0
     ·rw [decide_eq_true hdp]; exact hjt _ _
     rw [decide_eq_false hdp, Bool.not_false, Bool.true_and]
     have hl0 : ∀ (e i : Nat), i + e = x.f3.length → Ev (fun k => pEl.l0 oN k deep x.f3 (x.f3.length : Int) (i : Int) l l1 l2 l3 d0 x.f0 x.f1 x.f2 x.f3 x.f4 x.f5 r.f0 r.f1) (((x.f3.drop i).all fun a => letS l1 l2 r a.f0 a.f1) && b) := by
      intro e
      induction e with
      | zero =>
       intro i hi;refine Ev.step (f := fun _ => some b) (fun k => ?_) ?_
       ·simp only [pEl.l0];rw [if_neg (show ¬ ((i : Int) < (x.f3.length : Int)) by omega), wr (n := deep + 1) (by omega) (by omega), H];rfl
       rw [List.drop_of_length_le (by omega)]; exact Ev.now _
      | succ e ih =>
       intro i hi;have hlt : i < x.f3.length := by omega
       rw [List.drop_eq_getElem_cons hlt, List.all_cons];have hrd := rdA_at x.f3 i hlt;refine Ev.step (f := fun k => (p_let.f k l l1 l2 l3 d0 r.f0 r.f1 x.f3[i].f0 x.f3[i].f1).bind fun t277 => if t277 = true then pEl.l0 oN k deep x.f3 (x.f3.length : Int) ((i + 1 : Nat) : Int) l l1 l2 l3 d0 x.f0 x.f1 x.f2 x.f3 x.f4 x.f5 r.f0 r.f1 else some false) (fun k => ?_) ?_
       ·simp only [pEl.l0];rw [if_pos (show (i : Int) < (x.f3.length : Int) by omega), if_pos (show (0 : Int) ≤ (i : Int) by omega), hrd, wrap_next (by omega), if_pos (show (i : Int) < (x.f3.length : Int) by omega)]
       refine Ev.way (let_ev l l1 l2 l3 d0 hs r.f0 r _ _ hr (by have := hv _ (List.getElem_mem hlt); omega)) (fun h => ?_) (fun h => ?_)
       ·rw [h, Bool.true_and]; exact ih (i + 1) (by omega)
       rw [h]; exact Ev.now _
     have h0' := hl0 x.f3.length 0 (by omega);rw [List.drop_zero] at h0';exact Ev.step (f := fun k => pEl.l0 oN k deep x.f3 (x.f3.length : Int) 0 l l1 l2 l3 d0 x.f0 x.f1 x.f2 x.f3 x.f4 x.f5 r.f0 r.f1) (fun k => by simp only [pEl.j0]; rfl) h0'
    rw [beq_eq_false_iff_ne.mpr h4];exact Ev.congr (fun k => if_neg h4) (hjt _ _)
   rw [beq_eq_false_iff_ne.mpr h1];exact Ev.congr (fun k => if_neg h1) (hjt _ _)
  rw [beq_eq_false_iff_ne.mpr h0];exact Ev.congr (fun k => if_neg h0) (hjt _ _)
omit hs in
theorem leO_trans {α : Type} {a b c : Option α} (h : LeO a b) (k : LeO b c) : LeO a c := fun r hr => k r (h r hr)
omit hs in
theorem nodes0_mono_o (oE oE' : OE) (h : ∀ q0 q1 q2 q3 qd b0 b1 b2 b3 b4 b5 b6, LeO (oE q0 q1 q2 q3 qd b0 b1 b2 b3 b4 b5 b6) (oE' q0 q1 q2 q3 qd b0 b1 b2 b3 b4 b5 b6)) :
  ∀ k, (∀ y0 y1 y2 y3 y4 y5 y6 y7 y8 y9, LeO (pNo.l0 oE k y0 y1 y2 y3 y4 y5 y6 y7 y8 y9) (pNo.l0 oE' k y0 y1 y2 y3 y4 y5 y6 y7 y8 y9)) ∧ (∀ y0 y1 y2 y3 y4 y5 y6 y7 y8 y9 y10, LeO (pNo.j1 oE k y0 y1 y2 y3 y4 y5 y6 y7 y8 y9 y10) (pNo.j1 oE' k y0 y1 y2 y3 y4 y5 y6 y7 y8 y9 y10))
 | 0 => ⟨fun _ _ _ _ _ _ _ _ _ _ r h => by simp [pNo.l0] at h, fun _ _ _ _ _ _ _ _ _ _ _ r h => by simp [pNo.j1] at h⟩
 | k + 1 => by
  obtain ⟨ih0, ih1⟩ := nodes0_mono_o oE oE' h k
  refine ⟨?_, ?_⟩
  ·intro y0 y1 y2 y3 y4 y5 y6 y7 y8 y9
   unfold pNo.l0
   repeat' first
   | (with_reducible exact ih0 _ _ _ _ _ _ _ _ _ _)
   | (with_reducible exact ih1 _ _ _ _ _ _ _ _ _ _ _)
   | (with_reducible exact h _ _ _ _ _ _ _ _ _ _ _ _)
   | (with_reducible exact LeO.refl _)
   | (with_reducible exact LeO.none _)
   | (with_reducible refine LeO.ite ?_ ?_)
   | (with_reducible refine LeO.bind ?_ (fun _ => ?_))
  intro y0 y1 y2 y3 y4 y5 y6 y7 y8 y9 y10
  unfold pNo.j1
  repeat' first
  | (with_reducible exact ih0 _ _ _ _ _ _ _ _ _ _)
  | (with_reducible exact LeO.refl _)
  | (with_reducible exact LeO.none _)
  | (with_reducible refine LeO.ite ?_ ?_)
omit hs in
theorem elem0_mono_o (oN oN' : ON) (h : ∀ q0 q1 q2 q3 qd b0 b1, LeO (oN q0 q1 q2 q3 qd b0 b1) (oN' q0 q1 q2 q3 qd b0 b1)) :
  ∀ k, (∀ y0 y1 y2 y3 y4 y5 y6 y7 y8 y9 y10 y11 y12 y13 y14, LeO (pEl.j0 oN k y0 y1 y2 y3 y4 y5 y6 y7 y8 y9 y10 y11 y12 y13 y14) (pEl.j0 oN' k y0 y1 y2 y3 y4 y5 y6 y7 y8 y9 y10 y11 y12 y13 y14)) ∧ (∀ y0 y1 y2 y3 y4 y5 y6 y7 y8 y9 y10 y11 y12 y13 y14 y15 y16, LeO (pEl.l0 oN k y0 y1 y2 y3 y4 y5 y6 y7 y8 y9 y10 y11 y12 y13 y14 y15 y16) (pEl.l0 oN' k y0 y1 y2 y3 y4 y5 y6 y7 y8 y9 y10 y11 y12 y13 y14 y15 y16))
 | 0 => ⟨fun _ _ _ _ _ _ _ _ _ _ _ _ _ _ _ r h => by simp [pEl.j0] at h, fun _ _ _ _ _ _ _ _ _ _ _ _ _ _ _ _ _ r h => by simp [pEl.l0] at h⟩
 | k + 1 => by
  obtain ⟨ih0, ih1⟩ := elem0_mono_o oN oN' h k
  refine ⟨?_, ?_⟩
  ·intro y0 y1 y2 y3 y4 y5 y6 y7 y8 y9 y10 y11 y12 y13 y14
   unfold pEl.j0
   repeat' first
   | (with_reducible exact ih1 _ _ _ _ _ _ _ _ _ _ _ _ _ _ _ _ _)
   | (with_reducible exact LeO.refl _)
   | (with_reducible refine LeO.ite ?_ ?_)
  intro y0 y1 y2 y3 y4 y5 y6 y7 y8 y9 y10 y11 y12 y13 y14 y15 y16
  unfold pEl.l0
  repeat' first
  | (with_reducible exact ih1 _ _ _ _ _ _ _ _ _ _ _ _ _ _ _ _ _)
  | (with_reducible exact h _ _ _ _ _ _ _)
  | (with_reducible exact LeO.refl _)
  | (with_reducible exact LeO.none _)
  | (with_reducible refine LeO.ite ?_ ?_)
  | (with_reducible refine LeO.bind ?_ (fun _ => ?_))
def EK (K : Nat) : OE := fun q0 q1 q2 q3 qd b0 b1 b2 b3 b4 b5 b6 => pEl.f (p_nodes.F K) K q0 q1 q2 q3 qd b0 b1 b2 b3 b4 b5 b6
omit hs in
theorem ek_of {K : Nat} (h : ∀ q0 q1 q2 q3 qd b0 b1, LeO (p_nodes.F K q0 q1 q2 q3 qd b0 b1) (p_nodes.F (K + 1) q0 q1 q2 q3 qd b0 b1)) : ∀ q0 q1 q2 q3 qd b0 b1 b2 b3 b4 b5 b6, LeO (EK K q0 q1 q2 q3 qd b0 b1 b2 b3 b4 b5 b6) (EK (K + 1) q0 q1 q2 q3 qd b0 b1 b2 b3 b4 b5 b6) := by
 intro q0 q1 q2 q3 qd b0 b1 b2 b3 b4 b5 b6;refine leO_trans ?_ (pEl.mono (p_nodes.F (K + 1)) q0 q1 q2 q3 qd b0 b1 b2 b3 b4 b5 b6 K);have hm := (elem0_mono_o (p_nodes.F K) (p_nodes.F (K + 1)) h K).1;unfold EK pEl.f
 repeat' first
 | (with_reducible exact hm _ _ _ _ _ _ _ _ _ _ _ _ _ _ _)
 | (with_reducible exact LeO.refl _)
 | (with_reducible refine LeO.ite ?_ ?_)
 | (with_reducible refine LeO.bind ?_ (fun _ => ?_))
omit hs in
theorem F_le : ∀ K q0 q1 q2 q3 qd b0 b1, LeO (p_nodes.F K q0 q1 q2 q3 qd b0 b1) (p_nodes.F (K + 1) q0 q1 q2 q3 qd b0 b1)
 | 0, _, _, _, _, _, _, _ => fun r h => by simp [p_nodes.F] at h
 | K + 1, q0, q1, q2, q3, qd, b0, b1 => by
  have hE := ek_of (K := K) (F_le K)
  show LeO (pNo.f (EK K) K q0 q1 q2 q3 qd b0 b1) (pNo.f (EK (K + 1)) (K + 1) q0 q1 q2 q3 qd b0 b1)
  refine leO_trans ?_ (pNo.mono (EK (K + 1)) q0 q1 q2 q3 qd b0 b1 K)
  unfold pNo.f
  exact (nodes0_mono_o (EK K) (EK (K + 1)) hE K).1 _ _ _ _ _ _ _ _ _ _
omit hs in
theorem EK_le (K : Nat) : ∀ q0 q1 q2 q3 qd b0 b1 b2 b3 b4 b5 b6, LeO (EK K q0 q1 q2 q3 qd b0 b1 b2 b3 b4 b5 b6) (EK (K + 1) q0 q1 q2 q3 qd b0 b1 b2 b3 b4 b5 b6) := ek_of (F_le K)
omit hs in
theorem all_at {α : Type} (g : Nat → α → Option Bool) (v : α → Bool) (hg : ∀ k x, LeO (g k x) (g (k + 1) x)) : ∀ ls : List α, (∀ x ∈ ls, ∃ k, g k x = some (v x)) → ∃ k, ∀ x ∈ ls, g k x = some (v x)
 | [], _ => ⟨0, fun x hx => absurd hx (by simp)⟩
 | y :: r, h => by
  obtain ⟨k1, h1⟩ := h y (List.mem_cons_self ..)
  obtain ⟨k2, h2⟩ := all_at g v hg r (fun x hx => h x (List.mem_cons_of_mem _ hx))
  refine ⟨max k1 k2, fun x hx => ?_⟩
  rcases List.mem_cons.mp hx with rfl | hx
  ·exact at_rounds (fun k => hg k _) (Nat.le_max_left _ _) h1
  exact at_rounds (fun k => hg k _) (Nat.le_max_right _ _) (h2 x hx)
theorem nodes_F : ∀ (e : Nat) (ls : List S49) (deep : Int), NB e ls → -1000 ≤ deep → deep + (e : Int) ≤ 100000 → ∃ K, p_nodes.F K l l1 l2 l3 d0 ls deep = some (nodesS l l1 l2 d0 e ls deep)
 | 0, _, _, h, _, _ => h.elim
 | e + 1, ls, deep, hnb, h0, h1 => by
  obtain ⟨hlen, hx⟩ := hnb
  have hone : ∀ x ∈ ls, ∃ K, EK K l l1 l2 l3 d0 x.f0 x.f1 x.f2 x.f3 x.f4 x.f5 deep = some (headEl l l1 l2 d0 x deep && nodesS l l1 l2 d0 e x.f5 (deep + 1)) := fun x hxm => by
   obtain ⟨b1, b2, b3⟩ := hx x hxm
   obtain ⟨K1, hK1⟩ := nodes_F e x.f5 (deep + 1) b3 (by omega) (by omega)
   obtain ⟨K2, hK2⟩ := elem0_ev l l1 l2 l3 d0 hs (p_nodes.F K1) x deep _ (by omega) (by omega) b1 b2 hK1
   refine ⟨max K1 K2, ?_⟩
   have h2 := hK2 (max K1 K2) (Nat.le_max_right _ _)
   have hF : ∀ q0 q1 q2 q3 qd b0 b1, LeO (p_nodes.F K1 q0 q1 q2 q3 qd b0 b1) (p_nodes.F (max K1 K2) q0 q1 q2 q3 qd b0 b1) := fun q0 q1 q2 q3 qd b0 b1 r hr => at_rounds (g := fun k => p_nodes.F k q0 q1 q2 q3 qd b0 b1) (fun k => F_le k q0 q1 q2 q3 qd b0 b1) (Nat.le_max_left _ _) hr
   have hm := (elem0_mono_o _ _ hF (max K1 K2)).1
   have : LeO (pEl.f (p_nodes.F K1) (max K1 K2) l l1 l2 l3 d0 x.f0 x.f1 x.f2 x.f3 x.f4 x.f5 deep) (EK (max K1 K2) l l1 l2 l3 d0 x.f0 x.f1 x.f2 x.f3 x.f4 x.f5 deep) := by
    unfold EK pEl.f
    repeat' first
    | (with_reducible exact hm _ _ _ _ _ _ _ _ _ _ _ _ _ _ _)
    | (with_reducible exact LeO.refl _)
    | (with_reducible refine LeO.ite ?_ ?_)
    | (with_reducible refine LeO.bind ?_ (fun _ => ?_))
   exact this _ h2
  obtain ⟨K1, hK1⟩ := all_at (fun K x => EK K l l1 l2 l3 d0 x.f0 x.f1 x.f2 x.f3 x.f4 x.f5 deep) (fun x => headEl l l1 l2 d0 x deep && nodesS l l1 l2 d0 e x.f5 (deep + 1)) (fun k x => EK_le k _ _ _ _ _ _ _ _ _ _ _ _) ls hone;obtain ⟨K2, hK2⟩ := nodes0_l0 l l1 l2 l3 d0 (EK K1) (fun x => headEl l l1 l2 d0 x deep && nodesS l l1 l2 d0 e x.f5 (deep + 1)) ls deep hlen hK1 ls.length 0 (by omega);refine ⟨max K1 K2 + 1, ?_⟩;have h2 := hK2 (max K1 K2) (Nat.le_max_right _ _);have hE : ∀ q0 q1 q2 q3 qd b0 b1 b2 b3 b4 b5 b6, LeO (EK K1 q0 q1 q2 q3 qd b0 b1 b2 b3 b4 b5 b6) (EK (max K1 K2) q0 q1 q2 q3 qd b0 b1 b2 b3 b4 b5 b6) := fun q0 q1 q2 q3 qd b0 b1 b2 b3 b4 b5 b6 r hr => at_rounds (g := fun k => EK k q0 q1 q2 q3 qd b0 b1 b2 b3 b4 b5 b6) (fun k => EK_le k q0 q1 q2 q3 qd b0 b1 b2 b3 b4 b5 b6) (Nat.le_max_left _ _) hr
  exact (nodes0_mono_o _ _ hE (max K1 K2)).1 _ _ _ _ _ _ _ _ _ _ _ h2
theorem nodes_is (e : Nat) (ls : List S49) (deep : Int) (hnb : NB e ls) (h0 : -1000 ≤ deep) (h1 : deep + (e : Int) ≤ 100000) : p_nodes.f l l1 l2 l3 d0 ls deep = some (nodesS l l1 l2 d0 e ls deep) := by
 obtain ⟨K, hK⟩ := nodes_F l l1 l2 l3 d0 hs e ls deep hnb h0 h1
 have huniq : ∀ K' b, p_nodes.F K' l l1 l2 l3 d0 ls deep = some b → b = nodesS l l1 l2 d0 e ls deep := fun K' b hb => by
  have a1 := at_rounds (g := fun k => p_nodes.F k l l1 l2 l3 d0 ls deep) (fun k => F_le k _ _ _ _ _ _ _) (Nat.le_max_left K K') hK;have a2 := at_rounds (g := fun k => p_nodes.F k l l1 l2 l3 d0 ls deep) (fun k => F_le k _ _ _ _ _ _ _) (Nat.le_max_right K K') hb;exact Option.some.inj (a2.symm.trans a1)
 unfold p_nodes.f
 cases hb : nodesS l l1 l2 d0 e ls deep with
 | true =>
  rw [hb] at hK;rw [if_pos ⟨K, hK⟩]
 | false =>
  rw [hb] at hK;rw [if_neg (fun ⟨K', h'⟩ => by have := huniq K' true h'; rw [hb] at this; exact absurd this (by decide)), if_pos ⟨K, hK⟩]
theorem within_ev (hc : checkS l l1 l2 l3 d0 = 0) : ∀ (e : Nat) (ls : List S49) (deep : Int), NB e ls → -1000 ≤ deep → deep + (e : Int) ≤ 100000 → Ev (fun k => r11_within.f k l l1 l2 l3 d0 ls deep) (nodesS l l1 l2 d0 e ls deep)
 | 0, _, _, h, _, _ => h.elim
 | e + 1, ls, deep, hnb, h0, h1 => by
  obtain ⟨hlen, hx⟩ := hnb
  have IH := within_ev hc e
  have L0 : ∀ (d i : Nat), i + d = ls.length → Ev (fun k => r11_within.l0 k ls deep (i : Int) l l1 l2 l3 d0) (nodesG (fun x => headEl l l1 l2 d0 x deep && nodesS l l1 l2 d0 e x.f5 (deep + 1)) (prevB ls i) (ls.drop i)) := by
   intro d
   induction d with
   | zero =>
    intro i hi;refine Ev.step (f := fun _ => some true) (fun k => ?_) ?_
    ·simp only [r11_within.l0];rw [if_neg (show ¬ ((i : Int) < (ls.length : Int)) by omega)]
    rw [List.drop_of_length_le (by omega)]; exact Ev.now _
   | succ d ih =>
    intro i hi;have hlt : i < ls.length := by omega
    have hnext := ih (i + 1) (by omega);rw [prev_next ls i hlt] at hnext;rw [List.drop_eq_getElem_cons hlt];obtain ⟨b1, b2, b3⟩ := hx _ (List.getElem_mem hlt);have hrd := rdN_at ls i hlt;obtain ⟨x, hxe⟩ : ∃ x, x = ls[i] := ⟨_, rfl⟩;rw [← hxe] at hnext hrd b1 b2 b3 ⊢;unfold nodesG
    have hstep : ∀ k, r11_within.l0 (k + 1) ls deep (i : Int) l l1 l2 l3 d0 = (if x.f1 = 0 then (if x.f0 = 2 then (if x.f4.toList = ([] : List UInt8) then (some false) else (if x.f2.toList = ([] : List UInt8) then (if (x.f3.length : Int) > 0 then (some false) else (if (x.f5.length : Int) > 0 then (some false) else (if prevB ls i = true then (some false) else (r11_within.l0 k ls deep ((i + 1 : Nat) : Int) l l1 l2 l3 d0)))) else (some false))) else (if x.f0 = 1 then (if x.f4.toList = ([] : List UInt8) then (if deep > d0 then (r11_within.j1 k ls deep (i : Int) true l l1 l2 l3 d0 x.f0 x.f1 x.f2 x.f3 x.f4 x.f5) else ((r11_Element.f k l l1 l2 l3 d0 x.f2).bind fun t505 => (r11_within.j1 k ls deep (i : Int) (!t505) l l1 l2 l3 d0 x.f0 x.f1 x.f2 x.f3 x.f4 x.f5))) else (r11_within.j1 k ls deep (i : Int) true l l1 l2 l3 d0 x.f0 x.f1 x.f2 x.f3 x.f4 x.f5)) else (r11_within.j1 k ls deep (i : Int) true l l1 l2 l3 d0 x.f0 x.f1 x.f2 x.f3 x.f4 x.f5))) else (some false)) := fun k => by
     simp only [r11_within.l0];rw [if_pos (show (i : Int) < (ls.length : Int) by omega), if_pos (show (0 : Int) ≤ (i : Int) by omega), hrd, wrap_next (by omega)]
     have hp : (if (i : Int) > 0 then (if 0 ≤ wrap64 ((i : Int) - 1) then (if wrap64 ((i : Int) - 1) < (ls.length : Int) then (if ((rd_T49 ls (wrap64 ((i : Int) - 1))).f0) = 2 then (some false) else (r11_within.l0 k ls deep ((i + 1 : Nat) : Int) l l1 l2 l3 d0)) else (none)) else (none)) else (r11_within.l0 k ls deep ((i + 1 : Nat) : Int) l l1 l2 l3 d0)) = (if prevB ls i = true then (some false) else (r11_within.l0 k ls deep ((i + 1 : Nat) : Int) l l1 l2 l3 d0)) := by
      match i, hlt with
      | 0, _ => rw [if_neg (by decide)]; rfl
      | j + 1, hlt =>
       have e : wrap64 (((j + 1 : Nat) : Int) - 1) = (j : Int) := by rw [wr (by omega) (by omega)]; omega
       rw [if_pos (by omega), e, if_pos (show (0 : Int) ≤ (j : Int) by omega), if_pos (show (j : Int) < (ls.length : Int) by omega), rdN_at ls j (by omega), prev_next ls j (by omega)]
       by_cases h2 : ls[j].f0 = 2
       ·rw [if_pos h2, if_pos (beq_iff_eq.mpr h2)]
       rw [if_neg h2, if_neg (by rw [beq_eq_false_iff_ne.mpr h2]; decide)]
     rw [hp]
    have hjt : Ev (fun k => r11_within.j1 k ls deep (i : Int) true l l1 l2 l3 d0 x.f0 x.f1 x.f2 x.f3 x.f4 x.f5) false :=
     Ev.step (f := fun _ => some false) (fun k => by simp only [r11_within.j1]; rfl) (Ev.now _)
    refine Ev.step hstep ?_
    by_cases h2 : x.f0 = 2
    ·rw [if_pos h2];unfold textB;rw [beq_iff_eq.mpr h2, Bool.true_and]
     by_cases hs0 : x.f1 = 0
     ·rw [beq_iff_eq.mpr hs0, Bool.true_and];refine Ev.congr (fun k => by rw [if_pos hs0, if_pos h2]) ?_
      by_cases h4 : x.f4.toList = ([] : List UInt8)
      ·rw [beq_iff_eq.mpr h4]; exact Ev.congr (fun k => if_pos h4) (Ev.now _)
      rw [beq_eq_false_iff_ne.mpr h4, Bool.not_false, Bool.true_and];refine Ev.congr (fun k => if_neg h4) ?_
      by_cases hn : x.f2.toList = ([] : List UInt8)
      ·rw [beq_iff_eq.mpr hn, Bool.true_and];refine Ev.congr (fun k => if_pos hn) ?_
       by_cases h3 : (x.f3.length : Int) > 0
       ·rw [beq_eq_false_iff_ne.mpr (show x.f3.length ≠ 0 by omega)]; exact Ev.congr (fun k => if_pos h3) (Ev.now _)
       rw [beq_iff_eq.mpr (show x.f3.length = 0 by omega), Bool.true_and];refine Ev.congr (fun k => if_neg h3) ?_
       by_cases h5 : (x.f5.length : Int) > 0
       ·rw [beq_eq_false_iff_ne.mpr (show x.f5.length ≠ 0 by omega)]; exact Ev.congr (fun k => if_pos h5) (Ev.now _)
       rw [beq_iff_eq.mpr (show x.f5.length = 0 by omega), Bool.true_and];refine Ev.congr (fun k => if_neg h5) ?_
       cases hp : prevB ls i with
       | true => exact Ev.congr (fun k => if_pos rfl) (Ev.now _)
       | false =>
        rw [beq_iff_eq.mpr h2] at hnext;exact Ev.congr (fun k => if_neg (by decide)) hnext
      rw [beq_eq_false_iff_ne.mpr hn]; exact Ev.congr (fun k => if_neg hn) (Ev.now _)
     rw [beq_eq_false_iff_ne.mpr hs0];exact Ev.congr (fun k => if_neg hs0) (Ev.now _)
    rw [if_neg h2];have hfalse : headEl l l1 l2 d0 x deep = false → Ev (fun _ => some false) (headEl l l1 l2 d0 x deep && nodesS l l1 l2 d0 e x.f5 (deep + 1) && nodesG (fun x => headEl l l1 l2 d0 x deep && nodesS l l1 l2 d0 e x.f5 (deep + 1)) false (ls.drop (i + 1))) := fun h => by rw [h]; exact Ev.now _
    have hjt' : headEl l l1 l2 d0 x deep = false → Ev (fun k => r11_within.j1 k ls deep (i : Int) true l l1 l2 l3 d0 x.f0 x.f1 x.f2 x.f3 x.f4 x.f5) (headEl l l1 l2 d0 x deep && nodesS l l1 l2 d0 e x.f5 (deep + 1) && nodesG (fun x => headEl l l1 l2 d0 x deep && nodesS l l1 l2 d0 e x.f5 (deep + 1)) false (ls.drop (i + 1))) := fun h => by rw [h]; exact hjt
    by_cases hs0 : x.f1 = 0
    ·refine Ev.congr (fun k => by rw [if_pos hs0, if_neg h2]) ?_
     by_cases h10 : x.f0 = 1
     ·refine Ev.congr (fun k => if_pos h10) ?_
      by_cases h4 : x.f4.toList = ([] : List UInt8)
      ·refine Ev.congr (fun k => if_pos h4) ?_
       by_cases hdp : deep > d0
       ·refine Ev.congr (fun k => if_pos hdp) (hjt' ?_);unfold headEl
        cases fnd l x.f2 with
        | none => rfl
        | some r => simp [hdp]
       refine Ev.congr (fun k => if_neg hdp) ?_;refine Ev.bind (f := fun k t505 => r11_within.j1 k ls deep (i : Int) (!t505) l l1 l2 l3 d0 x.f0 x.f1 x.f2 x.f3 x.f4 x.f5) (refelem_ev l l1 l2 l3 d0 hs x.f2) ?_
       cases hf : fnd l x.f2 with
       | none =>
        have he : elemS l l1 l2 l3 d0 x.f2 = false := by unfold elemS; rw [hf]; rfl
        rw [he];exact hjt' (by unfold headEl; rw [hf])
       | some r =>
        have he : elemS l l1 l2 l3 d0 x.f2 = true := by unfold elemS; rw [hf, hc]; rfl
        rw [he]
        have hhead : headEl l l1 l2 d0 x deep = x.f3.all fun a => letS l1 l2 r a.f0 a.f1 := by
         unfold headEl;rw [hf];show (x.f0 == 1 && (x.f1 == 0 && (x.f4.toList == [] && (!decide (deep > d0) && x.f3.all fun a => letS l1 l2 r a.f0 a.f1)))) = _;rw [beq_iff_eq.mpr h10, beq_iff_eq.mpr hs0, beq_iff_eq.mpr h4, decide_eq_false hdp];rfl
        rw [hhead]
        have hl1 : ∀ (c j : Nat), j + c = x.f3.length → Ev (fun k => r11_within.l1 k ls deep (i : Int) (j : Int) l l1 l2 l3 d0 x.f0 x.f1 x.f2 x.f3 x.f4 x.f5) (((x.f3.drop j).all fun a => letS l1 l2 r a.f0 a.f1) && nodesS l l1 l2 d0 e x.f5 (deep + 1) && nodesG (fun x => headEl l l1 l2 d0 x deep && nodesS l l1 l2 d0 e x.f5 (deep + 1)) false (ls.drop (i + 1))) := by
         intro c
         induction c with
         | zero =>
          intro j hj;rw [List.drop_of_length_le (by omega), List.all_nil, Bool.true_and];refine Ev.step (f := fun k => (r11_within.f k l l1 l2 l3 d0 x.f5 (deep + 1)).bind fun t508 => if t508 = true then r11_within.l0 k ls deep ((i + 1 : Nat) : Int) l l1 l2 l3 d0 else some false) (fun k => ?_) ?_
          ·simp only [r11_within.l1];rw [if_neg (show ¬ ((j : Int) < (x.f3.length : Int)) by omega), wr (n := deep + 1) (by omega) (by omega), wrap_next (by omega)]
          refine Ev.way (IH x.f5 (deep + 1) b3 (by omega) (by omega)) (fun h => ?_) (fun h => ?_)
          ·rw [h, Bool.true_and];rw [beq_eq_false_iff_ne.mpr h2] at hnext;exact hnext
          rw [h]; exact Ev.now _
         | succ c ihc =>
          intro j hj;have hjl : j < x.f3.length := by omega
          rw [List.drop_eq_getElem_cons hjl, List.all_cons];have hra := rdA_at x.f3 j hjl;refine Ev.step (f := fun k => (r11_Attr.f k l l1 l2 l3 d0 x.f2 x.f3[j].f0 x.f3[j].f1).bind fun t507 => if t507 = true then r11_within.l1 k ls deep (i : Int) ((j + 1 : Nat) : Int) l l1 l2 l3 d0 x.f0 x.f1 x.f2 x.f3 x.f4 x.f5 else some false) (fun k => ?_) ?_
          ·simp only [r11_within.l1];rw [if_pos (show (j : Int) < (x.f3.length : Int) by omega), if_pos (show (0 : Int) ≤ (j : Int) by omega), hra, wrap_next (by omega)]
          have hat : attrS l l1 l2 l3 d0 x.f2 x.f3[j].f0 x.f3[j].f1 = letS l1 l2 r x.f3[j].f0 x.f3[j].f1 := by unfold attrS; rw [hf, hc]; rfl
          have hev := refattr_ev l l1 l2 l3 d0 hs x.f2 x.f3[j].f0 x.f3[j].f1 (by have := b2 _ (List.getElem_mem hjl); omega);rw [hat] at hev;refine Ev.way hev (fun h => ?_) (fun h => ?_)
          ·rw [h, Bool.true_and]; exact ihc (j + 1) (by omega)
          rw [h]; exact Ev.now _
        have hz := hl1 x.f3.length 0 (by omega);rw [List.drop_zero] at hz;exact Ev.step (f := fun k => r11_within.l1 k ls deep (i : Int) 0 l l1 l2 l3 d0 x.f0 x.f1 x.f2 x.f3 x.f4 x.f5) (fun k => by simp only [r11_within.j1]; rfl) hz
      refine Ev.congr (fun k => if_neg h4) (hjt' ?_);unfold headEl
      cases fnd l x.f2 with
      | none => rfl
      | some r => simp [h4]
     refine Ev.congr (fun k => if_neg h10) (hjt' ?_);unfold headEl
     cases fnd l x.f2 with
     | none => rfl
     | some r => simp [h10]
    refine Ev.congr (fun k => if_neg hs0) (hfalse ?_);unfold headEl
    cases fnd l x.f2 with
    | none => rfl
    | some r => simp [hs0]
  have hz := L0 ls.length 0 (by omega);rw [List.drop_zero] at hz;exact Ev.step (f := fun k => r11_within.l0 k ls deep 0 l l1 l2 l3 d0) (fun k => by simp only [r11_within.f]) hz
end
end Go.Proofs.YtnbghhddmlohoaaDoor.Pure

end

section
namespace Go.Proofs.YtnbghhddmlohoaaDoor.Pure
open Go.RowKit Go.Proofs.YtnbghhddmlohoaaDoor.PAll Go.Proofs.YtnbghhddmlohoaaDoorW.PrintWords Go.Proofs.YtnbghhddmlohoaaDoorW.PrintLast
section
variable (l : List S53) (l1 l2 l3 : List ByteArray) (d0 : Int)
def allowS (e : Nat) (ls : List S49) : Bool := checkS l l1 l2 l3 d0 == 0 && nodesS l l1 l2 d0 e ls 1
variable (hs : SmallP l l1 l2 l3)
include hs
theorem allow_ev (e : Nat) (ls : List S49) (he : e ≤ 1000) (hnb : NB e ls) : Ev (fun k => p_Allowed.f k l l1 l2 l3 d0 ls) (allowS l l1 l2 l3 d0 e ls) := by
 unfold p_Allowed.f allowS;refine Ev.bind (f := fun k t265 => (if t265 = 0 then ((p_nodes.f l l1 l2 l3 d0 ls 1).bind fun t266 => (some t266)) else (some false))) (check_ev l l1 l2 l3 d0 hs) ?_
 by_cases hc : checkS l l1 l2 l3 d0 = 0
 ·rw [beq_iff_eq.mpr hc, Bool.true_and];refine Ev.congr (fun k => if_pos hc) ?_;rw [nodes_is l l1 l2 l3 d0 hs e ls 1 hnb (by omega) (by omega)];exact Ev.now _
 rw [beq_eq_false_iff_ne.mpr hc];exact Ev.congr (fun k => if_neg hc) (Ev.now _)
theorem refallow_ev (e : Nat) (ls : List S49) (he : e ≤ 1000) (hnb : NB e ls) : Ev (fun k => r11_Allowed.f k l l1 l2 l3 d0 ls) (allowS l l1 l2 l3 d0 e ls) := by
 unfold r11_Allowed.f allowS;refine Ev.bind (f := fun k t510 => (if t510 = 0 then ((r11_within.f k l l1 l2 l3 d0 ls 1).bind fun t511 => (some t511)) else (some false))) (refcheck_ev l l1 l2 l3 d0 hs) ?_
 by_cases hc : checkS l l1 l2 l3 d0 = 0
 ·rw [beq_iff_eq.mpr hc, Bool.true_and];exact Ev.congr (fun k => if_pos hc) (Ev.pass (within_ev l l1 l2 l3 d0 hs hc e ls 1 hnb (by omega) (by omega)))
 rw [beq_eq_false_iff_ne.mpr hc];exact Ev.congr (fun k => if_neg hc) (Ev.now _)
end
end Go.Proofs.YtnbghhddmlohoaaDoor.Pure

end

section
namespace Go.Proofs.YtnbghhddmlohoaaDoor.Pure
open Go.RowKit Go.Proofs.YtnbghhddmlohoaaDoor.PAll Go.Proofs.YtnbghhddmlohoaaDoorW.PrintWords Go.Proofs.YtnbghhddmlohoaaDoorW.PrintLast
theorem PolicyAllowed : policyAllowedOp.Plain := by
 intro x0 ls hg hls
 apply Ev.rounds
 unfold l11_PolicyAllowed.f
 have hp : Ev (fun k => l11_PolicyAllowed.j0 k ls true x0.f0 x0.f1 x0.f2 x0.f3 x0.f4) true :=
  Ev.step (f := fun k => (l11_alive.f k).bind fun t => some t) (fun k => by simp only [l11_PolicyAllowed.j0]; rfl) (Ev.bind (f := fun _ t => some t) alive_ev (Ev.now _))
 refine Ev.way (small_ev x0.f0 x0.f1 x0.f2 x0.f3 x0.f4) (fun h => ?_) (fun h => hp);have hs := small_is h;obtain ⟨r, hr, hrm, hnb⟩ := weight_wt 60 1000 ls (by omega) (by omega);refine Ev.bind (f := fun k t514 => l11_PolicyAllowed.j0 k ls (decide (t514 ≥ 1000)) x0.f0 x0.f1 x0.f2 x0.f3 x0.f4) hr ?_
 by_cases hge : (r : Int) ≥ 1000
 ·rw [decide_eq_true hge]; exact hp
 rw [decide_eq_false hge];have hn := hnb (by omega);refine Ev.step (f := fun k => ((l11_alive.f k).bind fun t516 => (if t516 = true then ((p_Allowed.f k x0.f0 x0.f1 x0.f2 x0.f3 x0.f4 ls).bind fun t517 => ((r11_Allowed.f k x0.f0 x0.f1 x0.f2 x0.f3 x0.f4 ls).bind fun t518 => (some (t517 == t518)))) else (some false)))) (fun k => by simp only [l11_PolicyAllowed.j0]; rfl) ?_;refine Ev.way alive_ev (fun _ => ?_) (fun h => absurd h (by decide));refine Ev.bind (f := fun k t517 => ((r11_Allowed.f k x0.f0 x0.f1 x0.f2 x0.f3 x0.f4 ls).bind fun t518 => (some (t517 == t518)))) (allow_ev x0.f0 x0.f1 x0.f2 x0.f3 x0.f4 hs 60 ls (by omega) hn) ?_;refine Ev.bind (f := fun k t518 => some (allowS x0.f0 x0.f1 x0.f2 x0.f3 x0.f4 60 ls == t518)) (refallow_ev x0.f0 x0.f1 x0.f2 x0.f3 x0.f4 hs 60 ls (by omega) hn) ?_;exact ⟨0, fun _ _ => by rw [beq_self_eq_true]⟩
end Go.Proofs.YtnbghhddmlohoaaDoor.Pure

end
