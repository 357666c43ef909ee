-- Written by a program of this session (hprint.py: the kit's print over several laws at once, with functions proved by hand). Lean checks it.
import Derived.Test.YtckajljkdlejoaaDoorPAllx0
import Derived.Test.YtckajljkdlejoaaDoorPAllx2
import Derived.Test.YtckajljkdlejoaaDoorPAllx3
namespace Go.Proofs.YtckajljkdlejoaaDoor.PAll
open Go.RowKit Go.Proofs.YtckajljkdlejoaaDoorW.PrintWords Go.Proofs.YtckajljkdlejoaaDoorW.PrintLast Go.Proofs.YtckajljkdlejoaaDoorW.PrintMore
attribute [local go_sem] max2_int min2_int max_two min_two max_three min_three max_four min_four   -- for this text's walks alone
set_option linter.unusedVariables false
set_option linter.unusedSimpArgs false

-- EXT marginalia/input.Text ; rounds=0 ; making=1 ; uses=marginalia/input.Decode|marginalia/input.Lines
/-! ### input_Text: function 15 -/
def input_Text.f (l : List Int) : Option ByteArray := if l.length ≤ 1000000 then some ⟨(inText (strOfNums l).data.toList).toArray⟩ else none
/-- A round of a range over a right text. -/
theorem tx_step (L : ByteArray) (pos : Nat) (hp : pos < L.size) (hv : inVal (L.data.toList.drop pos) = true) :
    ∃ (rn n : Nat), Go.Utf8.decode L pos = (rn, n) ∧ 1 ≤ n ∧ pos + n ≤ L.size ∧ rn ≤ 1114111 ∧ inVal (L.data.toList.drop (pos + n)) = true ∧
      (rn = 0 → inNz (L.data.toList.drop pos) = inNz (L.data.toList.drop (pos + n))) ∧ (rn ≠ 0 → inNz (L.data.toList.drop pos) = Lib.encodeRune (rn : Int) ++ inNz (L.data.toList.drop (pos + n))) ∧ (Lib.encodeRune (rn : Int)).length ≤ 4 := by
  have hlen : L.data.toList.length = L.size := by simp
  have hd : ∃ c r, L.data.toList.drop pos = c :: r := by
    have : 0 < (L.data.toList.drop pos).length := by rw [List.length_drop]; omega
    match hq : L.data.toList.drop pos, this with
    | c :: r, _ => exact ⟨c, r, rfl⟩
  obtain ⟨c, r, hd⟩ := hd
  have hne : L.data.toList.drop pos ≠ [] := by rw [hd]; simp
  rw [inVal_cons hne, Bool.and_eq_true] at hv
  have he := inPc_eta _ hv.1
  have h1 := inPc_pos (L.data.toList.drop pos)
  have h2 := inPc_len _ hne
  rw [List.length_drop, hlen] at h2
  have hdec := (inPc_decode L pos c r hd).1
  rw [← hd] at hdec
  have hdec := hdec _ he
  obtain ⟨hb1, hb2, hb3, _⟩ := inRune_bytes he
  have hrest : inVal (L.data.toList.drop (pos + (inPc (L.data.toList.drop pos)).1)) = true := by
    rw [← List.drop_drop]; exact hv.2
  have hbytes := inPc_bytes he
  have hfit : pos + (inPc (L.data.toList.drop pos)).1 ≤ L.size := by omega
  generalize (inPc (L.data.toList.drop pos)).1 = n at *
  generalize inRune ((L.data.toList.drop pos).take n) = rn at *
  have hsplit : inNz (L.data.toList.drop pos) = inNz ((L.data.toList.drop pos).take n) ++ inNz (L.data.toList.drop (pos + n)) := by
    unfold inNz
    rw [← List.filter_append, ← List.drop_drop, List.take_append_drop]
  refine ⟨rn, n, hdec, h1.1, hfit, hb2, hrest, fun h0 => ?_, fun h0 => ?_, ?_⟩
  · rw [hsplit, hb3.1 h0]
    rfl
  · rw [hsplit, hb1]
    congr 1
    refine List.filter_eq_self.2 fun d hdm => ?_
    rcases hbytes with ⟨rfl, c', r', hc', _⟩ | ⟨_, hall⟩
    · rw [hc'] at hdm hb3
      simp at hdm hb3
      subst hdm
      simpa using fun e => h0 (hb3.2 e)
    · have := hall d hdm
      simp only [bne_iff_ne, ne_eq]
      rintro rfl
      simp at this
  · rw [hb1, List.length_take]; exact Nat.le_trans (Nat.min_le_left _ _) h1.2
/-- A builder stays one where all below the present heap stays. -/
theorem bldF_below {B b : Nat} {bs : List Value} {w w' : World} (h : Lib.IsBuilderF 33 5 B b bs w) (hb : Below w.heap.size w w') (_ : b < w.heap.size) : Lib.IsBuilderF 33 5 B b bs w' := by
  have key : ∀ p, Lib.BuilderAtF 33 5 B b p bs w → Lib.BuilderAtF 33 5 B b p bs w' := by
    rintro p ⟨h1, v, h2, h3, h4⟩
    refine ⟨h1, v, ?_, ⟨h3.1, ?_⟩, h4⟩
    · rw [hb.block b (blk_lt h2)]; exact h2
    · rcases h3.2 with hn | ⟨g, cap, cur, fz, e1, e2, e3, e4⟩
      · exact .inl hn
      · exact .inr ⟨g, cap, cur, fz, e1, e2, by rw [hb.block g (blk_lt e3)]; exact e3, e4⟩
  exact h.elim (fun x => .inl (key _ x)) (fun x => .inr (key _ x))
theorem tx_iter_below {w w2 : World} (h : Below w.heap.size w w2) (hs : w.heap.size ≤ w2.heap.size) (L : ByteArray) : Below w.heap.size w (w2.iter L 0) :=
  h.alloc hs _
theorem tx_iter_bld {B b : Nat} {bs : List Value} {w2 : World} (h : Lib.IsBuilderF 33 5 B b bs w2) (L : ByteArray) : Lib.IsBuilderF 33 5 B b bs (w2.iter L 0) :=
  h.alloc _
set_option maxHeartbeats 8000000 in
set_option maxRecDepth 100000 in
theorem input_Text.runs (v : Value) (s : ByteArray) (m : Int) (w : World) (hs : s.size ≤ 1000000) (hm : w.cell? ⟨0, 0, none⟩ = some (.int .i64 m)) (hcv : ∀ W, Below w.heap.size w W → (convert 22 9 v).run Tryd.prog W = .ok (.string s) W) :
    Calls Tryd.prog 15 #[v] w fun e w' => e = .returned (.string ⟨(inText s.data.toList).toArray⟩) ∧ Below w.heap.size w w' := by
  have HM := Aside0.mk hm
  have HC := Aside0.mk hcv
  obtain ⟨L, hL⟩ : ∃ L : ByteArray, L = ⟨(inLn (inDecode s.data.toList)).toArray⟩ := ⟨_, rfl⟩
  have hz : (⟨(inDecode s.data.toList).toArray⟩ : ByteArray).size ≤ 4000000 := by
    show (inDecode s.data.toList).length ≤ 4000000
    have h1 := inDec_len (if inMarked s.data.toList = true then s.data.toList.drop 3 else s.data.toList)
    have h2 : (if inMarked s.data.toList = true then s.data.toList.drop 3 else s.data.toList).length ≤ s.size := by
      have := in_data_len s
      split
      · rw [List.length_drop]; omega
      · omega
    unfold inDecode
    omega
  have hLz : L.size ≤ 4000000 := by
    rw [hL]
    show (inLn (inDecode s.data.toList)).length ≤ 4000000
    have h1 := inLn_len (inDecode s.data.toList)
    have h2 : (inDecode s.data.toList).length ≤ 4000000 := hz
    omega
  have hval : inVal L.data.toList = true := by rw [hL]; exact inVal_lines _ (inVal_dec _).1
  have hres : inText s.data.toList = inNz L.data.toList := by rw [hL]; rfl
  rw [hres]
  have HLL := Aside0.mk hL
  have HV := Aside0.mk hval
  have HZ := Aside0.mk hz
  have HLs := Aside0.mk (show (⟨(inDecode s.data.toList).toArray⟩ : ByteArray).data.toList = inDecode s.data.toList from rfl)
  clear hm hcv hL hval hz hres
  have HB0 : Below w.heap.size w (w.alloc (.cells #[.pointer none, .slice none 0 0] 33)) := below_alloc (Below.refl _ _) _
  have HB := Aside0.mk HB0
  have HI := Aside0.mk (Lib.IsBuilderF.of (Lib.fresh_isBuilder 33 5 w))
  clear HB0
  go_enter Tryd.func15, Tryd.ntmps15
  go_wp2_with (first | (go_at_call 11; (with_reducible refine (input_Decode.runs v s _ hs (HC.out _ HB.out)).mono ?_); rintro e w1 ⟨rfl, hb⟩; have n0_ := Aside0.mk (bldF_below HI.out hb (by simp)); have n1_ := Aside0.mk (hb.size); have n2_ := Aside0.mk (below_step HB.out hb); clear HB HI hb; have HI := n0_; have HS1 := n1_; have HB := n2_; clear n0_ n1_ n2_) | (go_at_call 13; (with_reducible refine (input_Lines.runs _ m _ HZ.out (pw_cell_below HB.out HM.out)).mono ?_); rintro e w2 ⟨rfl, hb⟩; have n0_ := Aside0.mk (bldF_below HI.out hb (by have := HS1.out; simp at this; omega)); have n1_ := Aside0.mk (hb.size); have n2_ := Aside0.mk (below_step HB.out hb); clear HB HI hb; have HI := n0_; have HS2 := n1_; have HB := n2_; clear n0_ n1_ n2_))
  have hK1 := below_size HB.out
  have hK2 : w.heap.size < w2.heap.size := by have h1 := HS1.out; have h2 := HS2.out; simp at h1; omega
  have HK := Aside0.mk hK2
  have HK1 := Aside0.mk hK1
  clear hK1 hK2
  have hLe : ({ data := (inLn (inDecode s.data.toList)).toArray } : ByteArray) = L := HLL.out.symm
  have HB2 := Aside0.mk (tx_iter_below HB.out HK1.out L)
  have HI2 := Aside0.mk (tx_iter_bld (show Lib.IsBuilderF 33 5 w.heap.size w.heap.size (Lib.byteCells []) w2 from HI.out) L)
  have HH2 := Aside0.mk (World.iter_heap w2 L 0)
  rw [hLe]
  clear hLe
  go_loopw [] (fun wr => ∃ (pos : Nat) (acc : List UInt8), pos ≤ L.size ∧ Aside0 (Lib.IsBuilderF 33 5 w.heap.size w.heap.size (Lib.byteCells acc) wr) ∧ Aside0 (wr.heap[w2.heap.size]? = some (.stringIter L pos)) ∧ Aside0 (Below w.heap.size w wr) ∧ Aside0 (acc ++ inNz (L.data.toList.drop pos) = inNz L.data.toList) ∧ Aside0 (inVal (L.data.toList.drop pos) = true) ∧ acc.length ≤ 4 * pos) (fun wr => L.size - wr.iterPos w2.heap.size)
  case atStart => exact ⟨0, [], Nat.zero_le _, HI2, HH2, HB2, ⟨rfl⟩, HV, by simp⟩
  case round =>
    clear HI HB HI2 HB2 HH2
    obtain ⟨pos, acc, hpl, HI, HH, HB, HA, HW, hal⟩ := hrel
    by_cases hp : pos < L.size
    · obtain ⟨rn, n, hde, h1, h2, h3, hv2, hz0, hz1, h4⟩ := tx_step L pos hp HW.out
      have hnx : ∀ ty, (Instr.next (.pointer (some ⟨w2.heap.size, 0, none⟩)) true ty).run Tryd.prog wr = .ok (.tuple #[.bool true, .int .i64 pos, .int .i32 (rn : Int)]) (wr.iterAt w2.heap.size L (pos + n)) := fun ty => by
        have := Lib.run_next_any_at (P := Tryd.prog) wr w2.heap.size L pos ty HH.out hp
        rw [hde] at this
        exact this
      have HI2 := Aside0.mk (HI.out.iterAt HH.out (pos + n))
      have HH2 := Aside0.mk (Lib.iterAt_heap wr w2.heap.size L pos (pos + n) HH.out)
      have HB2 := Aside0.mk (Lib.below_iterAt HB.out (k := w2.heap.size) HK1.out L (pos + n))
      have HP := Aside0.mk (show wr.iterPos w2.heap.size = pos by simp only [World.iterPos, HH.out])
      have HV2 := Aside0.mk hv2
      have HZ0 := Aside0.mk hz0
      have HZ1 := Aside0.mk hz1
      have H4 := Aside0.mk h4
      clear hde hv2 hz0 hz1 h4 HI HB HW
      obtain ⟨q, hq⟩ : ∃ q : Int, q = (rn : Int) := ⟨_, rfl⟩
      rw [← hq] at hnx
      have HQ := Aside0.mk hq
      have hq0 : 0 ≤ q := by omega
      have hq1 : q ≤ 1114111 := by omega
      clear hq
      by_cases h0 : q = 0
      · have b0 : (q != 0) = false := bne_eq_false_iff_eq.mpr h0
        have H0 := Aside0.mk h0
        clear h0
        go_wp2
        go_roundw
        case rel => exact ⟨pos + n, acc, h2, HI2, HH2, HB2, ⟨by rw [← HZ0.out (by have := HQ.out; have := H0.out; omega)]; exact HA.out⟩, HV2, by omega⟩
        case measure => rw [HP.out]; simp only [World.iterPos, HH2.out]; omega
      · have b0 : (q != 0) = true := bne_iff_ne.mpr h0
        have H0 := Aside0.mk h0
        clear h0
        go_wp2_with (go_at_call 25; (with_reducible refine (bldR w.heap.size w.heap.size acc q (by omega) (by omega) _ HI2.out ?side1 ?side2).mono ?_); (case side1 => omega); (case side2 => exact below_size HB2.out); rintro e w3 ⟨rfl, hI, hb, hk⟩; have n0_ := Aside0.mk hI; have n1_ := Aside0.mk (HB2.out.trans hb); have n2_ := Aside0.mk (hk.iter HH2.out (by have := HK.out; omega)); clear HI2 HB2 HH2 hI hb hk; have HI2 := n0_; have HB2 := n1_; have HH2 := n2_; clear n0_ n1_ n2_)
        go_roundw
        case rel => exact ⟨pos + n, _, h2, HI2, HH2, HB2, ⟨by rw [HQ.out, List.append_assoc, ← HZ1.out (by have := HQ.out; have := H0.out; omega)]; exact HA.out⟩, HV2, by have := H4.out; rw [HQ.out, List.length_append]; omega⟩
        case measure => rw [HP.out]; simp only [World.iterPos, HH2.out]; omega
    · have hnx : ∀ ty, (Instr.next (.pointer (some ⟨w2.heap.size, 0, none⟩)) true ty).run Tryd.prog wr = .ok (.tuple #[.bool false]) wr := fun ty => Lib.run_next_end_at wr w2.heap.size L pos ty HH.out hp
      have HE := Aside0.mk (show acc = inNz L.data.toList from by have h := HA.out; rw [List.drop_of_length_le (by rw [in_data_len]; omega)] at h; rw [← h]; exact (List.append_nil acc).symm)
      go_wp2_with (go_at_call 26; (with_reducible refine (bldStr w.heap.size w.heap.size acc _ HI.out (below_size HB.out)).mono ?_); rintro e w3 ⟨rfl, hb⟩; have HX := Aside0.mk hb; clear hb)
      go_ret
      exact ⟨by first | rfl | (rw [HE.out]; done) | (rw [HE.out]; rfl), HB.out.trans HX.out⟩
theorem input_Text.calls (A0 : Option Addr) (c0 : Nat) (l0 : List Int) (r : ByteArray) (w : World) (hr0 : Kd.C (Kd.int .u8) w A0 l0.length l0) (hc0 : l0.length ≤ c0) (m_ : Int) (hm_ : w.cell? ⟨0, 0, none⟩ = some (.int .i64 m_)) (h : input_Text.f l0 = some r) :
    Calls Tryd.prog 15 #[.slice A0 l0.length c0] w fun e w' => e = .returned (.string r) ∧ Below w.heap.size w w' := by
  unfold input_Text.f at h
  split at h
  · next hs =>
    obtain rfl := Option.some.inj h
    exact input_Text.runs _ (strOfNums l0) m_ w (by rw [strOf_size]; exact hs) hm_ (fun W hb => Kd.C_string Tryd.underlying22 Tryd.underlying5 Tryd.underlying9 (Kd.C_below hr0 hb))
  · exact absurd h (by simp)


end Go.Proofs.YtckajljkdlejoaaDoor.PAll
