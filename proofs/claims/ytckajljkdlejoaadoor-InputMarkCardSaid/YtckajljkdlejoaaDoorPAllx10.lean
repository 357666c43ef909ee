-- Written by a program of this session (hprint.py: the kit's print over several laws at once, with functions proved by hand). Lean checks it.
import Derived.Test.YtckajljkdlejoaaDoorPAllx0
import Derived.Test.YtckajljkdlejoaaDoorPAllx1
import Derived.Test.YtckajljkdlejoaaDoorPAllx2
import Derived.Test.YtckajljkdlejoaaDoorPAllx8
import Derived.Test.YtckajljkdlejoaaDoorPAllx9
namespace Go.Proofs.YtckajljkdlejoaaDoor.PAll
open Go.RowKit Go.Proofs.YtckajljkdlejoaaDoorW.PrintWords Go.Proofs.YtckajljkdlejoaaDoorW.PrintLast Go.Proofs.YtckajljkdlejoaaDoorW.PrintMore
attribute [local go_sem] max2_int min2_int max_two min_two max_three min_three max_four min_four   -- for this text's walks alone
set_option linter.unusedVariables false
set_option linter.unusedSimpArgs false

-- EXT marginalia/input.Valid ; rounds=0 ; making=1 ; uses=strings.HasPrefix|marginalia/input.Text
/-! ### input_Valid: function 18 -/
def input_Valid.f (s : ByteArray) : Option Bool := if s.size ≤ 4000000 then some (inVal s.data.toList) else none
theorem vd_pre (t : ByteArray) : strings_HasPrefix.f t ⟨#[239, 191, 189]⟩ = some (inBad.isPrefixOf t.data.toList) := by
  have e3 : (⟨#[239, 191, 189]⟩ : ByteArray).size = 3 := rfl
  unfold strings_HasPrefix.f stringslite_HasPrefix.f
  rw [e3]
  by_cases h : (t.size : Int) ≥ 3
  · rw [if_pos (by omega), if_pos (by omega), if_pos (by omega)]
    simp only [Option.bind_some]
    congr 1
    rw [in_bytes_data, in_bytes_data, in_ext_take]
    show ((t.data.toList.drop 0).take (3 - 0) == [239, 191, 189]) = _
    rw [List.drop_zero]
    have : 3 ≤ t.data.toList.length := by rw [in_data_len]; omega
    match hl : t.data.toList, this with
    | a :: b :: c :: r, _ =>
      simp only [inBad, List.isPrefixOf, List.take_succ_cons, List.take_zero, Bool.and_true]
      rw [Bool.eq_iff_iff]
      simp
      constructor
      · rintro ⟨rfl, rfl, rfl⟩; simp
      · rintro ⟨rfl, rfl, rfl⟩; simp
  · rw [if_neg (by omega)]
    have : t.data.toList.length < 3 := by rw [in_data_len]; omega
    match hl : t.data.toList, this with
    | [], _ => rfl
    | [a], _ => simp [inBad, List.isPrefixOf]
    | [a, b], _ => simp [inBad, List.isPrefixOf]
theorem vd_bad_pc {l : List UInt8} (h : inBad.isPrefixOf l = true) : inPc l = (3, true) := by
  obtain ⟨x, rfl⟩ := List.isPrefixOf_iff_prefix.1 h
  exact inPc_bad x
/-- A round of a range over any text: a good piece, or a bad one. -/
theorem vd_step (s : ByteArray) (pos : Nat) (hp : pos < s.size) :
    ∃ (rn n : Nat), Go.Utf8.decode s pos = (rn, n) ∧ 1 ≤ n ∧ pos + n ≤ s.size ∧ rn ≤ 1114111 ∧
      ((inVal (s.data.toList.drop pos) = inVal (s.data.toList.drop (pos + n)) ∧ (rn = 65533 → inBad.isPrefixOf (s.data.toList.drop pos) = true)) ∨
       (inVal (s.data.toList.drop pos) = false ∧ rn = 65533 ∧ inBad.isPrefixOf (s.data.toList.drop pos) = false)) := by
  have hlen : s.data.toList.length = s.size := by simp
  have hd : ∃ c r, s.data.toList.drop pos = c :: r := by
    have : 0 < (s.data.toList.drop pos).length := by rw [List.length_drop]; omega
    match hq : s.data.toList.drop pos, this with
    | c :: r, _ => exact ⟨c, r, rfl⟩
  obtain ⟨c, r, hd⟩ := hd
  have hne : s.data.toList.drop pos ≠ [] := by rw [hd]; simp
  have hdec := inPc_decode s pos c r hd
  rw [← hd] at hdec
  by_cases hg : (inPc (s.data.toList.drop pos)).2 = true
  · have he := inPc_eta _ hg
    have h1 := inPc_pos (s.data.toList.drop pos)
    have h2 := inPc_len _ hne
    rw [List.length_drop, hlen] at h2
    obtain ⟨_, hb2, _, hb4⟩ := inRune_bytes he
    refine ⟨_, _, hdec.1 _ he, h1.1, by omega, hb2, .inl ⟨?_, fun h0 => ?_⟩⟩
    · rw [inVal_cons hne, hg, Bool.true_and, List.drop_drop]
    · have := hb4.1 h0
      exact List.isPrefixOf_iff_prefix.2 (by rw [← this]; exact List.take_prefix _ _)
  · replace hg := Bool.eq_false_iff.mpr hg
    refine ⟨65533, 1, hdec.2 hg, Nat.le_refl _, by omega, by omega, .inr ⟨?_, rfl, ?_⟩⟩
    · rw [inVal_cons hne, hg, Bool.false_and]
    · rw [Bool.eq_false_iff]
      intro hb
      rw [vd_bad_pc hb] at hg
      exact absurd hg (by simp)
theorem tx_drewN {w : World} {k : Nat} {o : Obj} (h : w.heap[k]? = some o) (n : Nat) : (w.drewN n).heap[k]? = some o := by
  have e : (w.drewN n).heap = w.heap := by simp
  rw [e]; exact h
set_option maxHeartbeats 8000000 in
set_option maxRecDepth 100000 in
theorem input_Valid.calls (s : ByteArray) (r : Bool) (w : World) (h : input_Valid.f s = some r) :
    Calls Tryd.prog 18 #[.string s] w fun e w' => e = .returned (.bool r) ∧ Below w.heap.size w w' := by
  obtain ⟨hs, rfl⟩ : s.size ≤ 4000000 ∧ inVal s.data.toList = r := by
    unfold input_Valid.f at h
    split at h
    · next hs => exact ⟨hs, by simpa using h⟩
    · simp at h
  clear h
  have HB0 := Aside0.mk (tx_iter_below (Below.refl w.heap.size w) (Nat.le_refl _) s)
  have HH0 := Aside0.mk (World.iter_heap w s 0)
  go_enter Tryd.func18, Tryd.ntmps18
  go_wp2
  go_loopw [] (fun wr => ∃ (pos : Nat), pos ≤ s.size ∧ Aside0 (wr.heap[w.heap.size]? = some (.stringIter s pos)) ∧ Aside0 (Below w.heap.size w wr) ∧ Aside0 (inVal (s.data.toList.drop pos) = inVal s.data.toList)) (fun wr => s.size - wr.iterPos w.heap.size)
  case atStart => exact ⟨0, Nat.zero_le _, HH0, HB0, ⟨rfl⟩⟩
  case round =>
    clear HB0 HH0
    obtain ⟨pos, hpl, HH, HB, HA⟩ := hrel
    by_cases hp : pos < s.size
    · obtain ⟨rn, n, hde, h1, h2, h3, hc⟩ := vd_step s pos hp
      have hnx : ∀ ty, (Instr.next (.pointer (some ⟨w.heap.size, 0, none⟩)) true ty).run Tryd.prog wr = .ok (.tuple #[.bool true, .int .i64 pos, .int .i32 (rn : Int)]) (wr.iterAt w.heap.size s (pos + n)) := fun ty => by
        have := Lib.run_next_any_at (P := Tryd.prog) wr w.heap.size s pos ty HH.out hp
        rw [hde] at this
        exact this
      have HH2 := Aside0.mk (Lib.iterAt_heap wr w.heap.size s pos (pos + n) HH.out)
      have HB2 := Aside0.mk (Lib.below_iterAt HB.out (k := w.heap.size) (Nat.le_refl _) s (pos + n))
      have HP := Aside0.mk (show wr.iterPos w.heap.size = pos by simp only [World.iterPos, HH.out])
      have HC := Aside0.mk hc
      clear hde hc HB
      obtain ⟨q, hq⟩ : ∃ q : Int, q = (rn : Int) := ⟨_, rfl⟩
      rw [← hq] at hnx
      have HQ := Aside0.mk hq
      have hq0 : 0 ≤ q := by omega
      have hq1 : q ≤ 1114111 := by omega
      clear hq
      by_cases h0 : q = 65533
      · have b0 : (q == 65533) = true := beq_iff_eq.mpr h0
        have H0 := Aside0.mk h0
        clear h0
        have hpre := vd_pre (s.extract pos s.size)
        rw [Lib.extract_to_end] at hpre
        have c4b0 := eq_true (show (0 : Int) ≤ (pos : Int) by omega)
        by_cases hb : inBad.isPrefixOf (s.data.toList.drop pos) = true
        · rw [hb] at hpre
          have HPR := Aside0.mk hpre
          have HBB := Aside0.mk hb
          clear hpre hb
          go_wp2_with (go_at_call 30; (with_reducible refine (strings_HasPrefix.calls (s.extract pos s.size) (⟨#[239, 191, 189]⟩ : ByteArray) true _ HPR.out).mono ?_); rintro e w' ⟨rfl, ⟨nd1, rfl⟩⟩)
          go_roundw
          case rel => exact ⟨pos + n, h2, ⟨tx_drewN HH2.out nd1⟩, ⟨pw_below_drewN HB2.out nd1⟩, ⟨HC.out.elim (fun hc => hc.1.symm.trans HA.out) (fun hc => absurd hc.2.2 (by rw [HBB.out]; simp))⟩⟩
          case measure => rw [HP.out]; simp only [World.iterPos, tx_drewN HH2.out nd1]; omega
        · replace hb := Bool.eq_false_iff.mpr hb
          rw [hb] at hpre
          have HPR := Aside0.mk hpre
          have HBB := Aside0.mk hb
          clear hpre hb
          go_wp2_with (go_at_call 30; (with_reducible refine (strings_HasPrefix.calls (s.extract pos s.size) (⟨#[239, 191, 189]⟩ : ByteArray) false _ HPR.out).mono ?_); rintro e w' ⟨rfl, ⟨nd1, rfl⟩⟩)
          go_ret
          exact ⟨(show Ending.returned (.bool false) = Ending.returned (.bool (inVal s.data.toList)) from by rw [← HA.out]; exact HC.out.elim (fun hc => absurd (hc.2 (by have := HQ.out; have := H0.out; omega)) (by rw [HBB.out]; simp)) (fun hc => by rw [hc.1])), pw_below_drewN HB2.out nd1⟩
      · have b0 : (q == 65533) = false := beq_eq_false_iff_ne.mpr h0
        have H0 := Aside0.mk h0
        clear h0
        go_wp2
        go_roundw
        case rel => exact ⟨pos + n, h2, HH2, HB2, ⟨HC.out.elim (fun hc => hc.1.symm.trans HA.out) (fun hc => absurd hc.2.1 (by have := HQ.out; have := H0.out; omega))⟩⟩
        case measure => rw [HP.out]; simp only [World.iterPos, HH2.out]; omega
    · have hnx : ∀ ty, (Instr.next (.pointer (some ⟨w.heap.size, 0, none⟩)) true ty).run Tryd.prog wr = .ok (.tuple #[.bool false]) wr := fun ty => Lib.run_next_end_at wr w.heap.size s pos ty HH.out hp
      have HE := Aside0.mk (show inVal s.data.toList = true from by have h := HA.out; rw [List.drop_of_length_le (by rw [in_data_len]; omega), inVal_nil] at h; exact h.symm)
      go_wp2
      go_ret
      exact ⟨(show Ending.returned (.bool true) = Ending.returned (.bool (inVal s.data.toList)) from by rw [HE.out]), HB.out⟩


end Go.Proofs.YtckajljkdlejoaaDoor.PAll
