import Derived.Test.YtdbiobaccihpfaaPAllx0
import Derived.Test.YtdbiobaccihpfaaPAllx5
import Derived.Test.YtdbiobaccihpfaaPAllx8
import Derived.Test.YtdbiobaccihpfaaRecCode
namespace Go.Proofs.Ytdbiobaccihpfaa.Pure
open Go.RowKit Go.Proofs.Ytdbiobaccihpfaa.PAll Go.Proofs.YtdbiobaccihpfaaW.PrintWords Go.Proofs.YtdbiobaccihpfaaW.PrintLast Go.Proofs.YtdbiobaccihpfaaW.PrintMore

/-! Bytes that are a record's are what it is encoded as; the reference's Decode. -/
theorem cut_at (l : List Int) (a b : Nat) (h : a ≤ b) (hb : b ≤ l.length) : (l.take b).drop a ++ l.drop b = l.drop a := by
  conv => rhs; rw [← List.take_append_drop b l]
  rw [List.drop_append_of_le_length (by rw [List.length_take]; omega)]
theorem parts (l : List Int) (h : 19 ≤ l.length) : l = rd l 0 :: ((l.take 9).drop 1 ++ ((l.take 17).drop 9 ++ ((l.take 19).drop 17 ++ l.drop 19))) := by
  rw [cut_at l 17 19 (by omega) h, cut_at l 9 17 (by omega) (by omega), cut_at l 1 9 (by omega) (by omega)]
  have e : rd l 0 = l[0] := rd_at l 0 (by omega)
  rw [e]
  have := List.drop_eq_getElem_cons (show 0 < l.length by omega)
  rwa [List.drop_zero] at this
theorem encL_eq (l : List Int) (h : 19 ≤ l.length) (hb : Bytes l) (hl : l.length ≤ 65000) :
    encL (rd l 0) (valN ((l.take 9).drop 1)) (valN ((l.take 17).drop 9)) (strOfNums (l.drop 19)) = l ↔ valN ((l.take 19).drop 17) = l.length - 19 := by
  have l1 : ((l.take 19).drop 17).length = 2 := by rw [List.length_drop, List.length_take]; omega
  have l2 : ((l.take 9).drop 1).length = 8 := by rw [List.length_drop, List.length_take]; omega
  have l3 : ((l.take 17).drop 9).length = 8 := by rw [List.length_drop, List.length_take]; omega
  have b1 : Bytes ((l.take 19).drop 17) := bytes_sub hb (sub_mid _ _ _)
  have b2 : Bytes ((l.take 9).drop 1) := bytes_sub hb (sub_mid _ _ _)
  have b3 : Bytes ((l.take 17).drop 9) := bytes_sub hb (sub_mid _ _ _)
  have b4 : Bytes (l.drop 19) := bytes_sub hb (fun _ hx => List.mem_of_mem_drop hx)
  have e2 := be_valN' _ b2
  have e3 := be_valN' _ b3
  rw [l2] at e2
  rw [l3] at e3
  have e0 : rd l 0 = l[0] := rd_at l 0 (by omega)
  have h0 := hb _ (List.getElem_mem (show 0 < l.length by omega))
  have em : rd l 0 % 256 = rd l 0 := by rw [e0]; omega
  have hz : (strOfNums (l.drop 19)).size = l.length - 19 := by rw [strOfNums_size, List.length_drop]
  unfold encL
  rw [em, e2, e3, hz, bytesOf_str _ b4]
  have p := parts l h
  constructor
  · intro hq
    have hq2 := hq.trans p
    simp only [List.cons.injEq, true_and, List.append_cancel_left_eq, List.append_cancel_right_eq] at hq2
    rw [← hq2]
    exact valN_be 2 _ (by omega)
  · intro hv
    have e1 := be_valN' _ b1
    rw [l1, hv] at e1
    rw [e1]
    exact p.symm
theorem encL_bytes (a : Int) (x y : Nat) (s : ByteArray) : Bytes (encL a x y s) := by
  intro d hd
  unfold encL at hd
  rcases List.mem_cons.1 hd with rfl | hd
  · omega
  rcases List.mem_append.1 hd with hd | hd
  · exact be_byte _ _ d hd
  rcases List.mem_append.1 hd with hd | hd
  · exact be_byte _ _ d hd
  rcases List.mem_append.1 hd with hd | hd
  · exact be_byte _ _ d hd
  · unfold bytesOf at hd
    obtain ⟨c, _, rfl⟩ := List.mem_map.1 hd
    have := c.toNat_lt
    omega
theorem refDecode_is (k : Nat) (hk : 10 ≤ k) (l : List Int) (hb : Bytes l) (hl : l.length ≤ 65000) : marginaliaref22_Decode.f k l = some (decL l) := by
  unfold marginaliaref22_Decode.f decL
  by_cases h19 : l.length < 19
  · rw [if_pos (by omega), if_pos h19]
    rfl
  · rw [if_neg (by omega), if_pos (by omega), if_pos (by omega), if_pos (by omega), if_neg h19]
    have n2 := refNum_is ((l.take 9).drop 1) (bytes_sub hb (sub_mid _ _ _)) (by rw [List.length_drop, List.length_take]; omega)
    have n3 := refNum_is ((l.take 17).drop 9) (bytes_sub hb (sub_mid _ _ _)) (by rw [List.length_drop, List.length_take]; omega)
    have l2 : ((l.take 9).drop 1).length = 8 := by rw [List.length_drop, List.length_take]; omega
    have l3 : ((l.take 17).drop 9).length = 8 := by rw [List.length_drop, List.length_take]; omega
    have h0 : 0 < l.length := by omega
    have hr := hb _ (List.getElem_mem h0)
    have hrd : rd l 0 = l[0] := rd_at l 0 h0
    have hz : (strOfNums (l.drop 19)).size = l.length - 19 := by rw [strOfNums_size, List.length_drop]
    rw [n2 _ (by omega), Option.bind_some, if_pos (by omega), if_pos (by omega), n3 _ (by omega), Option.bind_some, if_pos (by omega), wrap_small (by rw [hrd]; omega) (by rw [hrd]; omega), refEncode_is _ (by omega), Option.bind_some, hz]
    have hiff := encL_eq l (by omega) hb hl
    by_cases hc : chk (rd l 0) (valN ((l.take 9).drop 1)) (valN ((l.take 17).drop 9)) (l.length - 19) = 0
    · simp only [hc, if_true]
      by_cases hv : valN ((l.take 19).drop 17) = l.length - 19
      · have e2 : ¬ (valN ((l.take 19).drop 17) ≠ l.length - 19) := fun q => q hv
        rw [if_pos ((strOf_inj (encL_bytes _ _ _ _) hb).2 (hiff.2 hv)), if_neg e2]
      · rw [if_neg (fun q => hv (hiff.1 ((strOf_inj (encL_bytes _ _ _ _) hb).1 q))), if_pos hv]
        rfl
    · simp only [hc, if_false]
      split <;> rfl
theorem alive_ok : marginalialaw22_alive.f 60 = some true := by decide +kernel
theorem bytes_of {l : List Int} (h : ∀ x ∈ l, (Lit.int .u8 x).wf = true) : Bytes l := fun d hd => Go.bounds_u8 (h d hd)
end Go.Proofs.Ytdbiobaccihpfaa.Pure
