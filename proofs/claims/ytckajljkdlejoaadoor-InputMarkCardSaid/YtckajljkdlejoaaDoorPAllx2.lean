-- Written by a program of this session (hprint.py: the kit's print over several laws at once, with functions proved by hand). Lean checks it.
import Derived.Test.YtckajljkdlejoaaDoorPAllx0
import Derived.Test.YtckajljkdlejoaaDoorPAllx1
namespace Go.Proofs.YtckajljkdlejoaaDoor.PAll
open Go.RowKit Go.Proofs.YtckajljkdlejoaaDoorW.PrintWords Go.Proofs.YtckajljkdlejoaaDoorW.PrintLast Go.Proofs.YtckajljkdlejoaaDoorW.PrintMore
attribute [local go_sem] max2_int min2_int max_two min_two max_three min_three max_four min_four   -- for this text's walks alone
set_option linter.unusedVariables false
set_option linter.unusedSimpArgs false

-- EXT marginalia/input.Decode ; rounds=0 ; making=1 ; uses=marginalia/input.piece|strings.TrimPrefix
/-! ### what input_piece comes to; input_Decode: function 11 -/
theorem in_u8_all {p : UInt8 → Prop} (h : ∀ n, n < 256 → p (UInt8.ofNat n)) (c : UInt8) : p c := by
  have := h c.toNat c.toNat_lt
  simpa using this
theorem in_data_len (s : ByteArray) : s.data.toList.length = s.size := by simp
theorem in_bt_get (s : ByteArray) (i : Nat) (c : UInt8) (h : s.data.toList[i]? = some c) : bt s (i : Int) = (c.toNat : Int) := by
  obtain ⟨h1, h2⟩ := List.getElem?_eq_some_iff.1 h
  have h3 : i < s.size := by simpa using h1
  unfold bt
  rw [dif_pos (by omega), ← h2]
  rfl
theorem in_first_f (c : UInt8) : input_first.f 8 (c.toNat : Int) = some (((inLead c).1 : Int), ((inLead c).2.1 : Int), ((inLead c).2.2 : Int)) := by
  revert c
  apply in_u8_all
  decide +kernel
theorem in_step (s : ByteArray) (m n lo hi k : Nat) (hk : k < 100) : input_piece.l0 (m + 1) s (n : Int) (lo : Int) (hi : Int) (k : Int) =
    if k < n then (if inIn s.data.toList k lo hi = true then input_piece.l0 m s (n : Int) 128 191 ((k + 1 : Nat) : Int) else some ((k : Int), false)) else some ((n : Int), true) := by
  have hw : wrap64 ((k : Int) + 1) = ((k + 1 : Nat) : Int) := by unfold wrap64; omega
  simp only [input_piece.l0]
  by_cases h1 : k < n
  · rw [if_pos (by omega), if_pos h1]
    by_cases h2 : k < s.size
    · have hg : s.data.toList[k]? = some (s.data.toList[k]'(by simpa using h2)) := List.getElem?_eq_getElem _
      generalize s.data.toList[k]'(by simpa using h2) = c at hg
      rw [if_neg (by omega), if_pos (by omega), if_pos (by omega), in_bt_get s k c hg, hw]
      unfold inIn
      rw [hg]
      simp only [decide_eq_true_eq]
      by_cases h3 : c.toNat < lo
      · rw [if_pos (by omega), if_neg (by omega)]
      · rw [if_neg (by omega)]
        by_cases h4 : hi < c.toNat
        · rw [if_pos (by omega), if_neg (by omega)]
        · rw [if_neg (by omega), if_pos (by omega)]
    · have hg : s.data.toList[k]? = none := List.getElem?_eq_none_iff.2 (by rw [in_data_len]; omega)
      rw [if_pos (by omega)]
      unfold inIn
      rw [hg]
      rfl
  · rw [if_neg (by omega), if_neg h1]
theorem in_piece_f (s : ByteArray) (h : s.data.toList ≠ []) : input_piece.f 8 s = some (((inPc s.data.toList).1 : Int), (inPc s.data.toList).2) := by
  cases hl : s.data.toList with
  | nil => exact absurd hl h
  | cons c r =>
    have hb : bt s 0 = (c.toNat : Int) := in_bt_get s 0 c (by rw [hl]; rfl)
    have hz : s.size = r.length + 1 := by rw [← in_data_len, hl]; rfl
    unfold input_piece.f
    rw [if_pos (by omega), hb, in_first_f]
    simp only [Option.bind_some]
    have l0 := in_step s 7 (inLead c).1 (inLead c).2.1 (inLead c).2.2 1 (by omega)
    have l1 := in_step s 6 (inLead c).1 128 191 2 (by omega)
    have l2 := in_step s 5 (inLead c).1 128 191 3 (by omega)
    have l3 := in_step s 4 (inLead c).1 128 191 4 (by omega)
    rw [hl] at l0 l1 l2 l3
    have hl1 := inLead_cases c
    rcases inPc_cases c r with ⟨a, e⟩ | ⟨a, h1, e⟩ | ⟨a, h1, e⟩ | ⟨a, h1, h2, e⟩ | ⟨a, h1, h2, e⟩ | ⟨a, h1, h2, h3, e⟩ | ⟨a, h1, h2, h3, e⟩ <;> rw [e]
    · rw [if_pos (by omega)]
      have e1 : decide ((c.toNat : Int) < 128) = decide (c.toNat < 128) := by rw [decide_eq_decide]; omega
      rw [e1]
      rfl
    · rw [if_neg (by omega)]
      refine l0.trans ?_
      rw [if_pos (by omega), if_neg (by rw [h1]; simp)]
    · rw [if_neg (by omega)]
      refine l0.trans ?_
      rw [if_pos (by omega), if_pos h1]
      refine l1.trans ?_
      rw [if_neg (by omega), a]
    · rw [if_neg (by omega)]
      refine l0.trans ?_
      rw [if_pos (by omega), if_pos h1]
      refine l1.trans ?_
      rw [if_pos (by omega), if_neg (by rw [h2]; simp)]
    · rw [if_neg (by omega)]
      refine l0.trans ?_
      rw [if_pos (by omega), if_pos h1]
      refine l1.trans ?_
      rw [if_pos (by omega), if_pos h2]
      refine l2.trans ?_
      rw [if_neg (by omega), a]
    · rw [if_neg (by omega)]
      refine l0.trans ?_
      rw [if_pos (by omega), if_pos h1]
      refine l1.trans ?_
      rw [if_pos (by omega), if_pos h2]
      refine l2.trans ?_
      rw [if_pos (by omega), if_neg (by rw [h3]; simp)]
    · rw [if_neg (by omega)]
      refine l0.trans ?_
      rw [if_pos (by omega), if_pos h1]
      refine l1.trans ?_
      rw [if_pos (by omega), if_pos h2]
      refine l2.trans ?_
      rw [if_pos (by omega), if_pos h3]
      refine l3.trans ?_
      rw [if_neg (by omega), a]
theorem in_ext_take (s : ByteArray) (a b : Nat) : (s.extract a b).data.toList = (s.data.toList.drop a).take (b - a) := by
  have e : (s.extract a b).data = s.data.extract a b := by simp
  rw [e, Array.toList_extract, List.extract_eq_take_drop]
theorem in_ba_ext {a b : ByteArray} (h : a.data.toList = b.data.toList) : a = b := by
  obtain ⟨⟨a⟩⟩ := a
  obtain ⟨⟨b⟩⟩ := b
  simp at h
  rw [h]
theorem in_bytes_data (s : ByteArray) : s.toList = s.data.toList := ByteArray.toList_eq s
theorem in_trim_f (s : ByteArray) : strings_TrimPrefix.f s ⟨#[239, 187, 191]⟩ = some ⟨(if inMarked s.data.toList = true then s.data.toList.drop 3 else s.data.toList).toArray⟩ := by
  have e3 : (⟨#[239, 187, 191]⟩ : ByteArray).size = 3 := rfl
  unfold strings_TrimPrefix.f stringslite_TrimPrefix.f stringslite_HasPrefix.f
  rw [e3]
  by_cases h : (s.size : Int) ≥ 3
  · rw [if_pos (by omega), if_pos (by omega), if_pos (by omega)]
    have hm : ((s.extract 0 (((3 : Nat) : Int) : Int).toNat).toList == (⟨#[239, 187, 191]⟩ : ByteArray).toList) = inMarked s.data.toList := by
      rw [in_bytes_data, in_bytes_data, in_ext_take]
      show ((s.data.toList.drop 0).take (3 - 0) == [239, 187, 191]) = _
      unfold inMarked
      rw [List.drop_zero]
      have : 3 ≤ s.data.toList.length := by rw [in_data_len]; omega
      match hl : s.data.toList, this with
      | a :: b :: c :: r, _ =>
        simp only [List.isPrefixOf, List.take_succ_cons, List.take_zero, Bool.and_true]
        rw [Bool.eq_iff_iff]
        simp
        constructor
        · rintro ⟨rfl, rfl, rfl⟩; simp
        · rintro ⟨rfl, rfl, rfl⟩; simp
    rw [hm]
    simp only [Option.bind_some]
    by_cases h2 : inMarked s.data.toList = true
    · rw [if_pos h2, if_pos (by omega), if_pos (by omega), if_pos h2]
      simp only [Option.bind_some]
      congr 1
      apply in_ba_ext
      exact Lib.extract_to_end s 3
    · rw [if_neg h2, if_neg h2]
      simp only [Option.bind_some]
  · rw [if_neg (by omega)]
    have hm : inMarked s.data.toList = false := by
      unfold inMarked
      have : s.data.toList.length < 3 := by rw [in_data_len]; omega
      match hl : s.data.toList, this with
      | [], _ => rfl
      | [a], _ => simp [List.isPrefixOf]
      | [a, b], _ => simp [List.isPrefixOf]
    simp only [Option.bind_some, Bool.false_eq_true, if_false]
    rw [hm]
    simp
def input_Decode.f (l : List Int) : Option ByteArray := if l.length ≤ 1000000 then some ⟨(inDecode (strOfNums l).data.toList).toArray⟩ else none
theorem inDec_len (l : List UInt8) : (inDec l).length ≤ 3 * l.length := by
  induction l using in_ind with
  | h0 => rw [inDec_nil]; exact Nat.le_refl _
  | h1 l hl ih =>
    rw [inDec_cons hl]
    have h1 := inPc_pos l
    have h2 := inPc_len l hl
    split
    · rw [List.length_append, List.length_take]
      rw [List.length_drop] at ih
      omega
    · rw [List.length_append]
      rw [List.length_drop] at ih
      have : inBad.length = 3 := rfl
      omega
theorem dec_step (x : ByteArray) (acc d : List UInt8) (h : x.data.toList ≠ []) (ha : acc ++ inDec x.data.toList = d) :
    ((inPc x.data.toList).2 = true → (acc ++ (x.extract 0 (inPc x.data.toList).1).data.toList) ++ inDec (x.extract (inPc x.data.toList).1 x.size).data.toList = d) ∧
    ((inPc x.data.toList).2 = false → (acc ++ inBad) ++ inDec (x.extract (inPc x.data.toList).1 x.size).data.toList = d) := by
  rw [inDec_cons h] at ha
  rw [Lib.extract_to_end, in_ext_take, List.drop_zero, Nat.sub_zero]
  constructor
  · intro hg
    rw [if_pos hg] at ha
    rw [← ha, List.append_assoc]
  · intro hg
    rw [if_neg (by rw [hg]; simp)] at ha
    rw [← ha, List.append_assoc]
theorem dec_acc (acc d u : List UInt8) (h : acc ++ u = inDec d) (hd : d.length ≤ 1000000) : acc.length ≤ 3000000 := by
  have h1 := inDec_len d
  have h2 := congrArg List.length h
  rw [List.length_append] at h2
  omega
theorem bldF_drewN {B b : Nat} {bs : List Value} {w : World} (h : Lib.IsBuilderF 33 5 B b bs w) (n : Nat) : Lib.IsBuilderF 33 5 B b bs (w.drewN n) := by
  induction n generalizing w with
  | zero => exact h
  | succ n ih => rw [← World.drew_drewN]; exact ih (h.elim (fun x => .inl x.drew) (fun x => .inr x.drew))
theorem in_bad_bytes : Lib.encodeRune 65533 = inBad := by decide
theorem in_str_ne (t : List UInt8) (h : t ≠ []) : (⟨t.toArray⟩ : ByteArray).data.toList ≠ [] := h
set_option maxHeartbeats 8000000 in
set_option maxRecDepth 100000 in
theorem input_Decode.runs (v : Value) (s : ByteArray) (w : World) (hs : s.size ≤ 1000000) (hcv : (convert 22 9 v).run Tryd.prog w = .ok (.string s) w) :
    Calls Tryd.prog 11 #[v] w fun e w' => e = .returned (.string ⟨(inDecode s.data.toList).toArray⟩) ∧ Below w.heap.size w w' := by
  have hT := Aside0.mk (in_trim_f s)
  obtain ⟨t, ht⟩ : ∃ t, t = (if inMarked s.data.toList = true then s.data.toList.drop 3 else s.data.toList) := ⟨_, rfl⟩
  have hD : inDecode s.data.toList = inDec t := by unfold inDecode; rw [ht]
  rw [hD]
  have htl : t.length ≤ 1000000 := by
    rw [ht]
    have := in_data_len s
    split
    · rw [List.length_drop]; omega
    · omega
  have hT' : strings_TrimPrefix.f s ⟨#[239, 187, 191]⟩ = some ⟨t.toArray⟩ := by rw [hT.out, ht]
  have HT := Aside0.mk hT'
  clear hT hT' hD ht
  go_enter Tryd.func11, Tryd.ntmps11
  go_wp2_with (go_at_call 22; (with_reducible refine (strings_TrimPrefix.calls s (⟨#[239, 187, 191]⟩ : ByteArray) ⟨t.toArray⟩ _ HT.out).mono ?_); rintro e w' ⟨rfl, ⟨nd, rfl⟩⟩)
  go_loopw [3] (fun v wr => ∃ (x : ByteArray) (acc : List UInt8), v = .string x ∧ Aside0 (Lib.IsBuilderF 33 5 w.heap.size w.heap.size (Lib.byteCells acc) wr) ∧ Aside0 (Below w.heap.size w wr) ∧ Aside0 (acc ++ inDec x.data.toList = inDec t) ∧ x.size ≤ 1000000) (fun v _ => (match v with | .string b => b.size | _ => 0))
  case atStart =>
    exact ⟨⟨t.toArray⟩, [], rfl, ⟨by have := Lib.IsBuilderF.of (Lib.fresh_isBuilder 33 5 (w.drewN nd)); have e : (w.drewN nd).heap.size = w.heap.size := (by simp); rw [e] at this; exact this⟩, ⟨by repeat (first | exact Below.refl _ _ | apply below_alloc | apply pw_below_drewN)⟩, ⟨rfl⟩, htl⟩
  case round =>
    obtain ⟨x, acc, rfl, HI, HB, HA, hxl⟩ := hrel
    by_cases c2 : x.toList = ([] : List UInt8)
    · have c2b0 : (x.toList == ([] : List UInt8)) = true := beq_iff_eq.mpr c2
      have c2b1 : (x.toList != ([] : List UInt8)) = false := bne_eq_false_iff_eq.mpr c2
      have hx0 : x.data.toList = [] := by rw [← in_bytes_data]; exact c2
      have HE := Aside0.mk (show acc = inDec t by have := HA.out; rw [hx0, inDec_nil, List.append_nil] at this; exact this)
      clear c2 hx0 HA
      go_wp2_with (go_at_call 26; (with_reducible refine (bldStr w.heap.size w.heap.size acc _ HI.out (below_size HB.out)).mono ?_); rintro e w1 ⟨rfl, hb⟩; have HX := Aside0.mk hb; clear hb)
      go_ret
      exact ⟨by first | rfl | (rw [HE.out]; done) | (rw [HE.out]; rfl), HB.out.trans HX.out⟩
    · have c2b0 : (x.toList == ([] : List UInt8)) = false := beq_eq_false_iff_ne.mpr c2
      have c2b1 : (x.toList != ([] : List UInt8)) = true := bne_iff_ne.mpr c2
      have hx0 : x.data.toList ≠ [] := by rw [← in_bytes_data]; exact c2
      clear c2
      have h1 := inPc_pos x.data.toList
      have h2 := inPc_len x.data.toList hx0
      have hst := dec_step x acc (inDec t) hx0 HA.out
      rw [in_data_len] at h2
      have hp := in_piece_f x hx0
      have hal := dec_acc acc t _ HA.out htl
      clear hx0 HA
      generalize hq : inPc x.data.toList = q at h1 h2 hst hp
      obtain ⟨n, g⟩ := q
      simp only at h1 h2 hst hp
      clear hq
      obtain ⟨tn, htn⟩ : ∃ tn : Int, tn = (n : Int) := ⟨_, rfl⟩
      have hnn : n = tn.toNat := by omega
      subst hnn
      rw [show ((tn.toNat : Nat) : Int) = tn by omega] at hp
      have c4 : 0 ≤ tn := by omega
      have c5 : tn ≤ (x.size : Int) := by omega
      have c4b0 := eq_true c4
      have c4b1 : decide (0 ≤ tn) = true := decide_eq_true c4
      have c5b0 := eq_true c5
      have c5b1 : decide (tn ≤ (x.size : Int)) = true := decide_eq_true c5
      have HP := Aside0.mk hp
      have HST := Aside0.mk hst
      have hz2 : (x.extract tn.toNat x.size).size < x.size := by rw [ByteArray.size_extract]; omega
      have HZ2 := Aside0.mk hz2
      have hz1 : (x.extract 0 tn.toNat).size ≤ 1000000 := by rw [ByteArray.size_extract]; omega
      have HZ1 := Aside0.mk hz1
      clear htn hp hst hz2 hz1 h1 h2 c4 c5
      cases g with
      | true =>
        go_wp2_with (first | (go_at_call 23; (with_reducible refine (input_piece.calls 8 x tn true _ HP.out).mono ?_); rintro e w' ⟨rfl, ⟨nd1, rfl⟩⟩; have n0_ := Aside0.mk (pw_below_drewN HB.out nd1); clear HB; have HB := n0_; clear n0_; have n0_ := Aside0.mk (bldF_drewN HI.out nd1); clear HI; have HI := n0_; clear n0_) | (go_at_call 24; (with_reducible refine (bldS w.heap.size w.heap.size acc (x.extract 0 tn.toNat) _ HI.out ?side1 ?side2).mono ?_); (case side1 => have := HZ1.out; omega); (case side2 => exact below_size HB.out); rintro e w1 ⟨rfl, hI, hb, hk⟩; have n0_ := Aside0.mk (HB.out.trans hb); have n1_ := Aside0.mk hI; clear HB HI hb hI hk; have HB := n0_; have HI := n1_; clear n0_ n1_))
        go_roundw
        case rel => exact ⟨x.extract tn.toNat x.size, _, rfl, HI, HB, ⟨HST.out.1 trivial⟩, by have := HZ2.out; omega⟩
        case measure => have := HZ2.out; simpa using this
      | false =>
        go_wp2_with (first | (go_at_call 23; (with_reducible refine (input_piece.calls 8 x tn false _ HP.out).mono ?_); rintro e w' ⟨rfl, ⟨nd1, rfl⟩⟩; have n0_ := Aside0.mk (pw_below_drewN HB.out nd1); clear HB; have HB := n0_; clear n0_; have n0_ := Aside0.mk (bldF_drewN HI.out nd1); clear HI; have HI := n0_; clear n0_) | (go_at_call 25; (with_reducible refine (bldR w.heap.size w.heap.size acc 65533 (by omega) (by omega) _ HI.out ?side1 ?side2).mono ?_); (case side1 => omega); (case side2 => exact below_size HB.out); rintro e w1 ⟨rfl, hI, hb, hk⟩; have n0_ := Aside0.mk (HB.out.trans hb); have n1_ := Aside0.mk hI; clear HB HI hb hI hk; have HB := n0_; have HI := n1_; clear n0_ n1_))
        go_roundw
        case rel => exact ⟨x.extract tn.toNat x.size, _, rfl, HI, HB, ⟨by rw [in_bad_bytes]; exact HST.out.2 trivial⟩, by have := HZ2.out; omega⟩
        case measure => have := HZ2.out; simpa using this
theorem strOf_size (l : List Int) : (strOfNums l).size = l.length := by
  show (strOfNums l).data.size = _
  simp [strOfNums]
theorem input_Decode.calls (A0 : Option Addr) (c0 : Nat) (l0 : List Int) (r : ByteArray) (w : World) (hr0 : Kd.C (Kd.int .u8) w A0 l0.length l0) (hc0 : l0.length ≤ c0) (h : input_Decode.f l0 = some r) :
    Calls Tryd.prog 11 #[.slice A0 l0.length c0] w fun e w' => e = .returned (.string r) ∧ Below w.heap.size w w' := by
  unfold input_Decode.f at h
  split at h
  · next hs =>
    obtain rfl := Option.some.inj h
    exact input_Decode.runs _ (strOfNums l0) w (by rw [strOf_size]; exact hs) (Kd.C_string Tryd.underlying22 Tryd.underlying5 Tryd.underlying9 hr0)
  · exact absurd h (by simp)


end Go.Proofs.YtckajljkdlejoaaDoor.PAll
