import Derived.Test.YthomonglhieifaaPAllx0
import Derived.Test.YthomonglhieifaaPAllx3
import Derived.Test.YthomonglhieifaaPAllx5
import Derived.Test.YthomonglhieifaaPAllx6
import Derived.Test.YthomonglhieifaaPAllx7
import Derived.Test.YthomonglhieifaaPAllx8
import Derived.Test.YthomonglhieifaaPAllx9
import Derived.Test.YthomonglhieifaaSchSpec
namespace Go.Proofs.Ythomonglhieifaa.Pure
open Go.RowKit Go.Proofs.Ythomonglhieifaa.PAll Go.Proofs.YthomonglhieifaaW.PrintWords Go.Proofs.YthomonglhieifaaW.PrintLast

/-! What the reference's functions come to. -/
theorem drop_get (s : ByteArray) (i : Nat) (h : i < s.size) : ∃ c, s.data.toList[i]? = some c ∧ s.data.toList.drop i = c :: s.data.toList.drop (i + 1) := by
  have h' : i < s.data.toList.length := by rw [data_len]; exact h
  exact ⟨s.data.toList[i], List.getElem?_eq_getElem h', List.drop_eq_getElem_cons h'⟩
theorem append_data (a b : ByteArray) : (a ++ b).data.toList = a.data.toList ++ b.data.toList := by simp
theorem rtidy_l1 (x : ByteArray) (hs : x.size ≤ 1000000) : ∀ (d i : Nat) (acc : ByteArray), i + d = x.size → acc.size ≤ i →
    Ev (fun k => marginaliaref10_tidy.l1 k x acc (i : Int)) ⟨(acc.data.toList ++ (x.data.toList.drop i).filter keepC).toArray⟩ := by
  intro d
  induction d with
  | zero =>
    intro i acc hi ha
    refine Ev.step (f := fun _ => some acc) (fun k => ?_) ?_
    · simp only [marginaliaref10_tidy.l1]
      rw [if_neg (by omega)]
    · rw [List.drop_of_length_le (by rw [data_len]; omega)]
      have : (⟨(acc.data.toList ++ List.filter keepC []).toArray⟩ : ByteArray) = acc := ba_ext (by simp)
      rw [this]
      exact Ev.now _
  | succ d ih =>
    intro i acc hi ha
    obtain ⟨c, hc, hd⟩ := drop_get x i (by omega)
    have hb := bt_get x i c hc
    rw [hd, List.filter_cons]
    by_cases h9 : (c.toNat : Int) = 9
    · refine Ev.step (f := fun k => marginaliaref10_tidy.l1 k x acc ((i + 1 : Nat) : Int)) (fun k => ?_) ?_
      · simp only [marginaliaref10_tidy.l1]
        rw [if_pos (by omega), if_pos (by omega), hb, if_pos h9, wrap_next (by omega)]
      · rw [if_neg (by simp [keepC]; omega)]
        exact ih (i + 1) acc (by omega) (by omega)
    by_cases h10 : (c.toNat : Int) = 10
    · refine Ev.step (f := fun k => marginaliaref10_tidy.l1 k x acc ((i + 1 : Nat) : Int)) (fun k => ?_) ?_
      · simp only [marginaliaref10_tidy.l1]
        rw [if_pos (by omega), if_pos (by omega), hb, if_neg h9, if_pos h10, wrap_next (by omega)]
      · rw [if_neg (by simp [keepC]; omega)]
        exact ih (i + 1) acc (by omega) (by omega)
    by_cases h13 : (c.toNat : Int) = 13
    · refine Ev.step (f := fun k => marginaliaref10_tidy.l1 k x acc ((i + 1 : Nat) : Int)) (fun k => ?_) ?_
      · simp only [marginaliaref10_tidy.l1]
        rw [if_pos (by omega), if_pos (by omega), hb, if_neg h9, if_neg h10, if_pos h13, wrap_next (by omega)]
      · rw [if_neg (by simp [keepC]; omega)]
        exact ih (i + 1) acc (by omega) (by omega)
    have he : (x.extract (i : Int).toNat ((i + 1 : Nat) : Int).toNat).data.toList = [c] := by
      rw [ext_take, Int.toNat_natCast, Int.toNat_natCast, hd, show i + 1 - i = 1 by omega]
      rfl
    have hes : (x.extract (i : Int).toNat ((i + 1 : Nat) : Int).toNat).size = 1 := by
      rw [← data_len, he]; rfl
    refine Ev.step (f := fun k => marginaliaref10_tidy.l1 k x (acc ++ x.extract (i : Int).toNat ((i + 1 : Nat) : Int).toNat) ((i + 1 : Nat) : Int)) (fun k => ?_) ?_
    · simp only [marginaliaref10_tidy.l1]
      rw [if_pos (by omega), if_pos (by omega), hb, if_neg h9, if_neg h10, if_neg h13, wrap_next (by omega)]
      rw [if_pos (by omega), if_pos (by omega), if_pos (by rw [hes]; omega)]
    · rw [if_pos (by simp [keepC]; omega)]
      have h := ih (i + 1) (acc ++ x.extract (i : Int).toNat ((i + 1 : Nat) : Int).toNat) (by omega) (by rw [ByteArray.size_append, hes]; omega)
      rw [append_data, he, List.append_assoc] at h
      exact h
theorem rtidy_l0 : ∀ (d : Nat) (x : ByteArray), x.size = d → d ≤ 1000000 → Ev (fun k => marginaliaref10_tidy.l0 k x) ⟨(tidyL x.data.toList).toArray⟩ := by
  have hend : ∀ (x : ByteArray), x.size ≤ 1000000 → Ev (fun k => marginaliaref10_tidy.j1 k x) ⟨(x.data.toList.filter keepC).toArray⟩ := by
    intro x hx
    refine Ev.step (f := fun k => marginaliaref10_tidy.l1 k x ⟨#[]⟩ ((0 : Nat) : Int)) (fun k => by simp only [marginaliaref10_tidy.j1]; rfl) ?_
    have := rtidy_l1 x hx x.size 0 ⟨#[]⟩ (by omega) (Nat.le_refl _)
    exact this
  intro d
  induction d with
  | zero =>
    intro x hx hd
    have hn : x.data.toList = [] := List.eq_nil_of_length_eq_zero (by rw [data_len]; exact hx)
    refine Ev.step (f := fun k => marginaliaref10_tidy.j1 k x) (fun k => ?_) ?_
    · simp only [marginaliaref10_tidy.l0]
      rw [if_pos (by rw [bytes_data, hn])]
    · have := hend x (by omega)
      rw [hn] at this ⊢
      exact this
  | succ d ih =>
    intro x hx hd
    obtain ⟨c, hc, hdr⟩ := drop_get x 0 (by omega)
    rw [List.drop_zero] at hdr
    have hb : bt x 0 = (c.toNat : Int) := bt_get x 0 c hc
    by_cases hl : (c.toNat : Int) ≤ 32
    · refine Ev.step (f := fun k => marginaliaref10_tidy.l0 k (x.extract 1 x.size)) (fun k => ?_) ?_
      · simp only [marginaliaref10_tidy.l0]
        rw [if_neg (by rw [bytes_data, hdr]; simp), if_pos (by omega), hb, if_pos hl, if_pos (by omega)]
      · have he : (x.extract 1 x.size).data.toList = x.data.toList.drop 1 := Lib.extract_to_end x 1
        have h := ih (x.extract 1 x.size) (by rw [← data_len, he, List.length_drop, data_len]; omega) (by omega)
        rw [he] at h
        have e2 : tidyL x.data.toList = tidyL (x.data.toList.drop 1) := by
          unfold tidyL
          rw [hdr, List.dropWhile_cons_of_pos (by simp [lowC]; omega)]
          rfl
        rw [e2]
        exact h
    · refine Ev.step (f := fun k => marginaliaref10_tidy.j1 k x) (fun k => ?_) ?_
      · simp only [marginaliaref10_tidy.l0]
        rw [if_neg (by rw [bytes_data, hdr]; simp), if_pos (by omega), hb, if_neg hl]
      · have e2 : tidyL x.data.toList = x.data.toList.filter keepC := by
          unfold tidyL
          rw [hdr, List.dropWhile_cons_of_neg (by simp [lowC]; omega)]
        rw [e2]
        exact hend x (by omega)
theorem low_num (c : UInt8) : (65 ≤ (c.toNat : Int) → (c.toNat : Int) ≤ 90 → ((lowB c).toNat : Int) = ((c.toNat : Int) + 32) % 256) ∧ (¬ (65 ≤ (c.toNat : Int) ∧ (c.toNat : Int) ≤ 90) → lowB c = c) := by
  revert c
  apply u8_all
  decide +kernel
def numsOf (l : List UInt8) : List Int := l.map fun c => (c.toNat : Int)
theorem strOf_nums (l : List UInt8) : strOfNums (numsOf l) = ⟨l.toArray⟩ := by
  unfold strOfNums numsOf
  congr 1
  rw [List.map_map]
  congr 1
  conv => rhs; rw [← List.map_id l]
  apply List.map_congr_left
  intro c _
  simp
theorem rlower_l0 (x : ByteArray) (hs : x.size ≤ 1000000) : ∀ (d i : Nat), i + d = x.size →
    Ev (fun k => marginaliaref02_Lower.l0 k x (numsOf ((x.data.toList.take i).map lowB)) (i : Int)) ⟨(x.data.toList.map lowB).toArray⟩ := by
  intro d
  induction d with
  | zero =>
    intro i hi
    refine Ev.step (f := fun _ => some ⟨(x.data.toList.map lowB).toArray⟩) (fun k => ?_) (Ev.now _)
    simp only [marginaliaref02_Lower.l0]
    rw [if_neg (by omega), strOf_nums, List.take_of_length_le (by rw [data_len]; omega)]
  | succ d ih =>
    intro i hi
    obtain ⟨c, hc, hd⟩ := drop_get x i (by omega)
    have hb := bt_get x i c hc
    have hlen : (numsOf ((x.data.toList.take i).map lowB)).length ≤ i := by
      unfold numsOf
      rw [List.length_map, List.length_map, List.length_take]
      omega
    have hsn : ∀ n : Int, ((lowB c).toNat : Int) = n → numsOf ((x.data.toList.take i).map lowB) ++ [n] = numsOf ((x.data.toList.take (i + 1)).map lowB) := by
      intro n hn
      rw [List.take_add_one, hc]
      simp [numsOf, hn]
    have hl := low_num c
    refine Ev.step (f := fun k => marginaliaref02_Lower.l0 k x (numsOf ((x.data.toList.take (i + 1)).map lowB)) ((i + 1 : Nat) : Int)) (fun k => ?_) (ih (i + 1) (by omega))
    simp only [marginaliaref02_Lower.l0]
    rw [if_pos (by omega), if_pos (by omega), hb, wrap_next (by omega)]
    by_cases h1 : (c.toNat : Int) ≥ 65
    · by_cases h2 : (c.toNat : Int) ≤ 90
      · rw [if_pos h1, if_pos h2, if_pos (by omega), hsn _ (hl.1 h1 h2)]
      · rw [if_pos h1, if_neg h2, if_pos (by omega), hsn _ (by rw [hl.2 (fun e => h2 e.2)])]
    · rw [if_neg h1, if_pos (by omega), hsn _ (by rw [hl.2 (fun e => h1 e.1)])]
theorem rlower_ev (x : ByteArray) (hs : x.size ≤ 1000000) : Ev (fun k => marginaliaref02_Lower.f k x) ⟨(x.data.toList.map lowB).toArray⟩ := by
  have := rlower_l0 x hs x.size 0 (by omega)
  rw [List.take_zero] at this
  exact this
/-- The scheme, as the reference goes through a link. -/
def refN : List UInt8 → List UInt8 → Option (List UInt8)
  | _, [] => none
  | p, c :: r => if c = 58 then some (p.map lowB) else if sPart c = true then refN (p ++ [c]) r else none
theorem refN_eq (r : List UInt8) : ∀ p, refN p r = if (58 : UInt8) ∈ r ∧ (r.takeWhile (· != 58)).all sPart = true then some ((p ++ r.takeWhile (· != 58)).map lowB) else none := by
  induction r with
  | nil => intro p; simp [refN]
  | cons c r ih =>
    intro p
    rw [refN]
    by_cases h : c = 58
    · subst h; simp
    · rw [if_neg h, List.takeWhile_cons_of_pos (by simpa using h), List.all_cons]
      by_cases hp : sPart c = true
      · rw [if_pos hp, ih, hp, Bool.true_and]
        have e : (58 : UInt8) ∈ c :: r ↔ (58 : UInt8) ∈ r := by
          rw [List.mem_cons]; exact ⟨fun o => o.resolve_left (fun e => h e.symm), Or.inr⟩
        simp only [e, List.append_assoc, List.cons_append, List.nil_append]
      · rw [if_neg hp, if_neg]
        rintro ⟨_, h2⟩
        rw [Bool.and_eq_true] at h2
        exact hp h2.1
theorem schL_cons (c : UInt8) (r : List UInt8) : schL (c :: r) = if sLet c = true then refN [] (c :: r) else none := by
  unfold schL
  rw [refN_eq, List.nil_append]
  by_cases h : c = 58
  · subst h
    rw [if_pos (by simp), if_neg (by decide)]
    simp [schN]
  · rw [List.takeWhile_cons_of_pos (by simpa using h), schN]
    by_cases h1 : (58 : UInt8) ∈ c :: r
    · by_cases h2 : sLet c = true
      · rw [if_pos h1, if_pos h2]
        by_cases h3 : (c :: r.takeWhile (· != 58)).all sPart = true
        · rw [if_pos ⟨h2, h3⟩, if_pos ⟨h1, h3⟩]
        · rw [if_neg (fun e => h3 e.2), if_neg (fun e => h3 e.2)]
      · rw [if_pos h1, if_neg h2, if_neg (fun e => h2 e.1)]
    · rw [if_neg h1]
      split
      · rw [if_neg (fun e => h1 e.1)]
      · rfl
theorem rof_l0 (x : ByteArray) (hs : x.size ≤ 1000000) : ∀ (d i : Nat), i + d = x.size →
    Ev (fun k => marginaliaref10_Of.l0 k x (i : Int)) (ofR (refN (x.data.toList.take i) (x.data.toList.drop i))) := by
  intro d
  induction d with
  | zero =>
    intro i hi
    refine Ev.step (f := fun _ => some (⟨#[]⟩, false)) (fun k => ?_) ?_
    · simp only [marginaliaref10_Of.l0]
      rw [if_neg (by omega)]
    · rw [List.drop_of_length_le (by rw [data_len]; omega)]
      exact Ev.now _
  | succ d ih =>
    intro i hi
    obtain ⟨c, hc, hd⟩ := drop_get x i (by omega)
    have hb := bt_get x i c hc
    rw [hd, refN]
    by_cases h : c = 58
    · rw [if_pos h]
      refine Ev.step (f := fun k => (marginaliaref02_Lower.f k (x.extract 0 (i : Int).toNat)).bind fun t => some (t, true)) (fun k => ?_) ?_
      · simp only [marginaliaref10_Of.l0]
        rw [if_pos (by omega), if_pos (by omega), hb, if_pos (by rw [h]; rfl), if_pos (by omega)]
      · have he : (x.extract 0 (i : Int).toNat).data.toList = x.data.toList.take i := by
          rw [ext_take]; simp
        have hl := rlower_ev (x.extract 0 (i : Int).toNat) (by rw [← data_len, he, List.length_take, data_len]; omega)
        rw [he] at hl
        exact Ev.bind (f := fun _ t => some (t, true)) hl (Ev.now _)
    · have hn : ¬ (c.toNat : Int) = 58 := by
        intro e
        exact h (UInt8.toNat.inj (by rw [show (58 : UInt8).toNat = 58 from rfl]; omega))
      rw [if_neg h]
      have htk : x.data.toList.take i ++ [c] = x.data.toList.take (i + 1) := by rw [List.take_add_one, hc]; rfl
      rw [htk]
      by_cases hp : sPart c = true
      · rw [if_pos hp]
        refine Ev.step (f := fun k => marginaliaref10_Of.l0 k x ((i + 1 : Nat) : Int)) (fun k => ?_) (ih (i + 1) (by omega))
        simp only [marginaliaref10_Of.l0]
        rw [if_pos (by omega), if_pos (by omega), hb, if_neg hn, rletter_f, rfigure_f, wrap_next (by omega)]
        unfold sPart at hp
        simp only [Option.bind_some]
        by_cases q1 : sLet c = true
        · rw [if_pos q1]
        by_cases q2 : sFig c = true
        · rw [if_neg q1, if_pos q2]
        rw [if_neg q1, if_neg q2]
        simp [q1, q2] at hp
        rcases hp with rfl | rfl | rfl
        · rw [if_pos (by decide)]
        · rw [if_neg (by decide), if_pos (by decide)]
        · rw [if_neg (by decide), if_neg (by decide), if_pos (by decide)]
      · rw [if_neg hp]
        refine Ev.step (f := fun k => some (⟨#[]⟩, false)) (fun k => ?_) (Ev.now _)
        simp only [marginaliaref10_Of.l0]
        rw [if_pos (by omega), if_pos (by omega), hb, if_neg hn, rletter_f, rfigure_f]
        unfold sPart at hp
        simp at hp
        obtain ⟨p1, p2, p3, p4, p5⟩ := hp
        have u : ∀ (a : UInt8) (n : Nat), a.toNat = n → c ≠ a → ¬ (c.toNat : Int) = (n : Int) := fun a n ha hne e => hne (UInt8.toNat.inj (by omega))
        simp only [Option.bind_some]
        rw [if_neg (by rw [p1]; simp), if_neg (by rw [p2]; simp), if_neg (show ¬ (c.toNat : Int) = 43 from u 43 43 rfl p3), if_neg (show ¬ (c.toNat : Int) = 45 from u 45 45 rfl p4), if_neg (show ¬ (c.toNat : Int) = 46 from u 46 46 rfl p5)]
theorem rof_ev (s : ByteArray) (hs : s.size ≤ 1000000) : Ev (fun k => marginaliaref10_Of.f k s) (ofR (ofS s)) := by
  have ht : Ev (fun k => marginaliaref10_tidy.f k s) ⟨(tidyL s.data.toList).toArray⟩ := rtidy_l0 s.size s rfl hs
  have hlen := tidyL_len s.data.toList
  rw [data_len] at hlen
  unfold ofS
  generalize tidyL s.data.toList = t at ht hlen
  have hT : (⟨t.toArray⟩ : ByteArray).data.toList = t := rfl
  have hsz : (⟨t.toArray⟩ : ByteArray).size = t.length := rfl
  unfold marginaliaref10_Of.f
  refine Ev.bind (f := fun k t131 => if t131.toList = ([] : List UInt8) then marginaliaref10_Of.j0 k t131 true else if 0 < (t131.size : Int) then ((marginaliaref02_Letter.f (bt t131 0)).bind fun t132 => marginaliaref10_Of.j0 k t131 (!t132)) else none) ht ?_
  rw [bytes_data, hT]
  cases t with
  | nil =>
    refine Ev.step (f := fun _ => some (⟨#[]⟩, false)) (fun k => ?_) (Ev.now _)
    rw [if_pos rfl]
    rfl
  | cons c r =>
    have hb : bt ⟨(c :: r).toArray⟩ 0 = (c.toNat : Int) := bt_get ⟨(c :: r).toArray⟩ 0 c rfl
    refine Ev.congr (f := fun k => marginaliaref10_Of.j0 k ⟨(c :: r).toArray⟩ (!sLet c)) (fun k => ?_) ?_
    · rw [if_neg (by simp), if_pos (by rw [hsz, List.length_cons]; omega), hb, rletter_f]
      rfl
    · rw [schL_cons]
      by_cases hl1 : sLet c = true
      · rw [hl1, if_pos rfl]
        refine Ev.step (f := fun k => marginaliaref10_Of.l0 k ⟨(c :: r).toArray⟩ ((0 : Nat) : Int)) (fun k => ?_) ?_
        · simp [marginaliaref10_Of.j0]
        · exact rof_l0 ⟨(c :: r).toArray⟩ (by rw [hsz]; omega) (⟨(c :: r).toArray⟩ : ByteArray).size 0 (by omega)
      · rw [if_neg hl1]
        replace hl1 := Bool.eq_false_iff.mpr hl1
        rw [hl1]
        refine Ev.step (f := fun k => some (⟨#[]⟩, false)) (fun k => ?_) (Ev.now _)
        simp [marginaliaref10_Of.j0]
/-! ### whether a link has no other scheme -/
def safeS (s : ByteArray) (l : List ByteArray) : Bool := match ofS s with
  | none => true
  | some t => l.any fun x => x.data.toList == t
theorem rd_at (l : List ByteArray) (i : Nat) (h : i < l.length) : rdOf ByteArray.empty l (i : Int) = l[i] := by
  simp [rdOf, List.getD_eq_getElem?_getD, h]
theorem index_l0 (l : List ByteArray) (x : ByteArray) (hl : l.length ≤ 1000000) : ∀ (d i : Nat), i + d = l.length →
    ∃ n : Int, Ev (fun k => slices_Index_string_string.l0 k l x (l.length : Int) (i : Int)) n ∧ decide (n ≥ 0) = (l.drop i).any (fun y => y.data.toList == x.data.toList) := by
  intro d
  induction d with
  | zero =>
    intro i hi
    refine ⟨-1, Ev.step (f := fun _ => some (-1)) (fun k => ?_) (Ev.now _), ?_⟩
    · simp only [slices_Index_string_string.l0]
      rw [if_neg (by omega)]
    · rw [List.drop_of_length_le (by omega)]; rfl
  | succ d ih =>
    intro i hi
    have hlt : i < l.length := by omega
    rw [List.drop_eq_getElem_cons hlt, List.any_cons]
    by_cases h : l[i].data.toList = x.data.toList
    · refine ⟨(i : Int), Ev.step (f := fun _ => some (i : Int)) (fun k => ?_) (Ev.now _), ?_⟩
      · simp only [slices_Index_string_string.l0]
        rw [if_pos (by omega), if_pos (by omega), if_pos (by omega), rd_at l i hlt, bytes_data, bytes_data, if_pos h.symm]
      · rw [h, beq_self_eq_true, Bool.true_or, decide_eq_true (by omega)]
    · obtain ⟨n, h1, h2⟩ := ih (i + 1) (by omega)
      refine ⟨n, Ev.step (f := fun k => slices_Index_string_string.l0 k l x (l.length : Int) ((i + 1 : Nat) : Int)) (fun k => ?_) h1, ?_⟩
      · simp only [slices_Index_string_string.l0]
        rw [if_pos (by omega), if_pos (by omega), if_pos (by omega), rd_at l i hlt, bytes_data, bytes_data, if_neg (fun e => h e.symm), wrap_next (by omega)]
      · have e : (l[i].data.toList == x.data.toList) = false := beq_eq_false_iff_ne.mpr h
        rw [h2, e, Bool.false_or]
theorem contains_ev (l : List ByteArray) (x : ByteArray) (hl : l.length ≤ 1000000) : Ev (fun k => slices_Contains_string_string.f k l x) (l.any fun y => y.data.toList == x.data.toList) := by
  obtain ⟨n, h1, h2⟩ := index_l0 l x hl l.length 0 (by omega)
  rw [List.drop_zero] at h2
  rw [← h2]
  unfold slices_Contains_string_string.f
  exact Ev.bind (f := fun _ t => some (decide (t ≥ 0))) h1 (Ev.now _)
theorem safe_ev (s : ByteArray) (l : List ByteArray) (hs : s.size ≤ 1000000) (hl : l.length ≤ 1000000) : Ev (fun k => scheme_Safe.f k s l) (safeS s l) := by
  unfold scheme_Safe.f safeS
  have h := of_ev s hs
  cases ho : ofS s with
  | none =>
    rw [ho] at h
    refine Ev.bind (f := fun k bt => if bt.2 = true then ((slices_Contains_string_string.f k l bt.1).bind fun t118 => some t118) else some true) h ?_
    exact Ev.congr (f := fun _ => some true) (fun k => rfl) (Ev.now _)
  | some t =>
    rw [ho] at h
    refine Ev.bind (f := fun k bt => if bt.2 = true then ((slices_Contains_string_string.f k l bt.1).bind fun t118 => some t118) else some true) h ?_
    exact Ev.bind (f := fun _ t => some t) (contains_ev l ⟨t.toArray⟩ hl) (Ev.now _)
theorem rsafe_l0 (l : List ByteArray) (x : ByteArray) (hl : l.length ≤ 1000000) : ∀ (d i : Nat), i + d = l.length →
    Ev (fun k => marginaliaref10_Safe.l0 k l x (i : Int)) ((l.drop i).any (fun y => y.data.toList == x.data.toList)) := by
  intro d
  induction d with
  | zero =>
    intro i hi
    refine Ev.step (f := fun _ => some false) (fun k => ?_) ?_
    · simp only [marginaliaref10_Safe.l0]
      rw [if_neg (by omega)]
    · rw [List.drop_of_length_le (by omega)]; exact Ev.now _
  | succ d ih =>
    intro i hi
    have hlt : i < l.length := by omega
    rw [List.drop_eq_getElem_cons hlt, List.any_cons]
    by_cases h : l[i].data.toList = x.data.toList
    · refine Ev.step (f := fun _ => some true) (fun k => ?_) ?_
      · simp only [marginaliaref10_Safe.l0]
        rw [if_pos (by omega), if_pos (by omega), rd_at l i hlt, bytes_data, bytes_data, if_pos h]
      · rw [h, beq_self_eq_true, Bool.true_or]; exact Ev.now _
    · refine Ev.step (f := fun k => marginaliaref10_Safe.l0 k l x ((i + 1 : Nat) : Int)) (fun k => ?_) ?_
      · simp only [marginaliaref10_Safe.l0]
        rw [if_pos (by omega), if_pos (by omega), rd_at l i hlt, bytes_data, bytes_data, if_neg h, wrap_next (by omega)]
      · have e : (l[i].data.toList == x.data.toList) = false := beq_eq_false_iff_ne.mpr h
        rw [e, Bool.false_or]
        exact ih (i + 1) (by omega)
theorem rsafe_ev (s : ByteArray) (l : List ByteArray) (hs : s.size ≤ 1000000) (hl : l.length ≤ 1000000) : Ev (fun k => marginaliaref10_Safe.f k s l) (safeS s l) := by
  unfold marginaliaref10_Safe.f safeS
  have h := rof_ev s hs
  cases ho : ofS s with
  | none =>
    rw [ho] at h
    refine Ev.bind (f := fun k bt => if bt.2 = true then marginaliaref10_Safe.l0 k l bt.1 0 else some true) h ?_
    exact Ev.congr (f := fun _ => some true) (fun k => rfl) (Ev.now _)
  | some t =>
    rw [ho] at h
    refine Ev.bind (f := fun k bt => if bt.2 = true then marginaliaref10_Safe.l0 k l bt.1 0 else some true) h ?_
    have := rsafe_l0 l ⟨t.toArray⟩ hl l.length 0 (by omega)
    rw [List.drop_zero] at this
    exact this
theorem alive_ev : Ev (fun k => marginalialaw10_alive.f k) true := by
  refine Ev.of marginalialaw10_alive.mono (k := 30) ?_
  decide +kernel
end Go.Proofs.Ythomonglhieifaa.Pure
