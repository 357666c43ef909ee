/- The statement RecordBack: a record that may be is decoded as it was, from its bytes alone: not from a beginning of them, nor with one more behind
   (more than 4200 bytes of text: the live question alone). No condition: every record, every number. -/
import Derived.Test.YtdbiobaccihpfaaOpRecordBack
import Derived.Test.YtdbiobaccihpfaaPAllx0
import Derived.Test.YtdbiobaccihpfaaPAllx5
import Derived.Test.YtdbiobaccihpfaaPAllx9
import Derived.Test.YtdbiobaccihpfaaRecDec
namespace Go.Proofs.Ytdbiobaccihpfaa.Pure
open Go.RowKit Go.Proofs.Ytdbiobaccihpfaa.PAll Go.Proofs.YtdbiobaccihpfaaW.PrintWords Go.Proofs.YtdbiobaccihpfaaW.PrintLast Go.Proofs.YtdbiobaccihpfaaW.PrintMore
theorem parts_of {c : Int} {A B C D : List Int} (hA : A.length = 8) (hB : B.length = 8) (hC : C.length = 2) {l : List Int} (hl : l = c :: (A ++ (B ++ (C ++ D)))) :
    rd l 0 = c ∧ (l.take 9).drop 1 = A ∧ (l.take 17).drop 9 = B ∧ (l.take 19).drop 17 = C ∧ l.drop 19 = D ∧ l.length = 19 + D.length := by
  subst hl
  refine ⟨rfl, ?_, ?_, ?_, ?_, ?_⟩
  · simp [hA]
  · simp [List.take_append, hA, hB]
  · simp [List.take_append, List.drop_append, hA, hB, hC]
  · simp [List.drop_append, hA, hB, hC, List.drop_of_length_le (show A.length ≤ 18 by omega), List.drop_of_length_le (show B.length ≤ 10 by omega)]
  · simp [hA, hB, hC]; omega
theorem decL_of {c : Int} {A B C D : List Int} (hA : A.length = 8) (hB : B.length = 8) (hC : C.length = 2) {l : List Int} (hl : l = c :: (A ++ (B ++ (C ++ D)))) :
    decL l = if valN C ≠ D.length then failD else if chk c (valN A) (valN B) D.length = 0 then (c, (valN A : Nat), (valN B : Nat), strOfNums D, 0) else failD := by
  obtain ⟨h1, h2, h3, h4, h5, h6⟩ := parts_of hA hB hC hl
  unfold decL
  rw [if_neg (by omega), h1, h2, h3, h4, h5, h6, show 19 + D.length - 19 = D.length by omega]
theorem str_bytesOf (s : ByteArray) : strOfNums (bytesOf s) = s := by
  have e : (bytesOf s).map (fun n => UInt8.ofNat n.toNat) = s.data.toList := by
    unfold bytesOf
    rw [List.map_map]
    have : s.data.toList.map ((fun n : Int => UInt8.ofNat n.toNat) ∘ fun b : UInt8 => (b.toNat : Int)) = s.data.toList.map id := List.map_congr_left fun d _ => by simp
    rw [this, List.map_id]
  unfold strOfNums
  rw [e]
theorem back_is {a : Int} {x y : Nat} {s : ByteArray} (hx : x < 18446744073709551616) (hy : y < 18446744073709551616) (h : chk a x y s.size = 0) : decL (encL a x y s) = (a, (x : Int), (y : Int), s, 0) := by
  obtain ⟨h1, h4⟩ := ok_kind (chk_zero h)
  have hs := ok_size (chk_zero h)
  rw [decL_of (be_len 8 x) (be_len 8 y) (be_len 2 s.size) (show encL a x y s = _ from rfl)]
  rw [valN_be 2 _ (by omega), valN_be 8 _ (by omega), valN_be 8 _ (by omega), bytesOf_length, if_neg (by simp), show a % 256 = a by omega, if_pos h, str_bytesOf]
theorem more_is (a : Int) (x y : Nat) (s : ByteArray) (hs : s.size ≤ 4096) : decL (encL a x y s ++ [0]) = failD := by
  have e : encL a x y s ++ [0] = (a % 256) :: (be 8 x ++ (be 8 y ++ (be 2 s.size ++ (bytesOf s ++ [0])))) := by simp [encL]
  rw [decL_of (be_len 8 x) (be_len 8 y) (be_len 2 s.size) e, valN_be 2 _ (by omega), if_pos]
  rw [List.length_append, bytesOf_length]
  simp
theorem less_is (a : Int) (x y : Nat) (s : ByteArray) (hs : s.size ≤ 4096) (n : Nat) (hn : n < (encL a x y s).length) : decL ((encL a x y s).take n) = failD := by
  have hlen : (encL a x y s).length = 19 + s.size := by
    rw [(parts_of (be_len 8 x) (be_len 8 y) (be_len 2 s.size) (show encL a x y s = _ from rfl)).2.2.2.2.2, bytesOf_length]
  by_cases h : n < 19
  · unfold decL
    rw [if_pos (by rw [List.length_take]; omega)]
  · have e : (encL a x y s).take n = (a % 256) :: (be 8 x ++ (be 8 y ++ (be 2 s.size ++ (bytesOf s).take (n - 19)))) := by
      obtain ⟨m, rfl⟩ : ∃ m, n = m + 19 := ⟨n - 19, by omega⟩
      simp [encL, List.take_append, be_len, List.take_of_length_le (show (be 8 x).length ≤ m + 18 by rw [be_len]; omega), List.take_of_length_le (show (be 8 y).length ≤ m + 10 by rw [be_len]; omega), List.take_of_length_le (show (be 2 s.size).length ≤ m + 2 by rw [be_len]; omega)]
    rw [decL_of (be_len 8 x) (be_len 8 y) (be_len 2 s.size) e, valN_be 2 _ (by omega), if_pos]
    rw [List.length_take, bytesOf_length]
    omega
theorem enc_len (a : Int) (x y : Nat) (s : ByteArray) : (encL a x y s).length = 19 + s.size := by
  rw [(parts_of (be_len 8 x) (be_len 8 y) (be_len 2 s.size) (show encL a x y s = _ from rfl)).2.2.2.2.2, bytesOf_length]
theorem RecordBack : recordBackOp.Plain := by
  intro x0 a1 hg _
  obtain ⟨_, h1, h2, _⟩ := hg
  have b1 := Go.bounds_u64 h1
  have b2 := Go.bounds_u64 h2
  obtain ⟨x, hx⟩ : ∃ x : Nat, x0.f1 = (x : Int) := ⟨x0.f1.toNat, by omega⟩
  obtain ⟨y, hy⟩ : ∃ y : Nat, x0.f2 = (y : Int) := ⟨x0.f2.toNat, by omega⟩
  have alive61 : marginalialaw22_alive.f 61 = some true := at_rounds marginalialaw22_alive.mono (by omega) alive_ok
  refine ⟨61, ?_⟩
  unfold marginalialaw22_RecordBack.f
  by_cases hs : (x0.f3.size : Int) > 4200
  · rw [if_pos hs, alive61]; rfl
  · rw [if_neg hs, hx, hy, encode_is _ (by omega), Option.bind_some, check_is, Option.bind_some, if_pos rfl]
    by_cases hc : chk x0.f0 x y x0.f3.size = 0
    · have hz := ok_size (chk_zero hc)
      have hl := enc_len x0.f0 x y x0.f3
      have hb := encL_bytes x0.f0 x y x0.f3
      rw [if_pos hc]
      simp only [hc, reduceIte]
      rw [decode_is _ (by omega) _ hb (by omega), Option.bind_some, back_is (by omega) (by omega) hc, Option.bind_some, if_pos (by simp; omega), Option.bind_some, if_pos (by simp; omega)]
      rw [List.nil_append, decode_is _ (by omega) _ (fun d hd => (List.mem_append.1 hd).elim (hb d) (fun h => by rw [List.mem_singleton.1 h]; omega)) (by simp; omega), Option.bind_some, more_is _ _ _ _ hz]
      have fin : ∀ q : Bool, (q = true → 0 ≤ a1 ∧ a1 < ((encL x0.f0 x y x0.f3).length : Int)) → marginalialaw22_RecordBack.j0 61 a1 (encL x0.f0 x y x0.f3) 0 failD.2.2.2.2 q x0.f0 x y x0.f3 x0.f0 x y x0.f3 = some true := by
        intro q hq
        simp only [marginalialaw22_RecordBack.j0]
        cases q with
        | true =>
          obtain ⟨q1, q2⟩ := hq rfl
          rw [if_pos rfl, if_pos q1, if_pos (by omega), decode_is _ (by omega) _ (bytes_sub hb (fun _ h => List.mem_of_mem_take h)) (by rw [List.length_take]; omega), Option.bind_some, less_is _ _ _ _ hz _ (by omega), alive_ok]
          simp [failD]
        | false =>
          rw [if_neg (by simp), alive_ok]
          simp [failD]
      by_cases h0 : a1 ≥ 0
      · rw [if_pos h0]
        exact fin _ (fun h => ⟨h0, of_decide_eq_true h⟩)
      · rw [if_neg h0]
        exact fin _ (fun h => by cases h)
    · rw [if_neg hc, alive61]
      simp [hc]
end Go.Proofs.Ytdbiobaccihpfaa.Pure
