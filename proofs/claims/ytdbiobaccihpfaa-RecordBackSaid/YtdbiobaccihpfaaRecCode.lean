import Derived.Test.YtdbiobaccihpfaaPAllx0
import Derived.Test.YtdbiobaccihpfaaPAllx2
import Derived.Test.YtdbiobaccihpfaaPAllx4
import Derived.Test.YtdbiobaccihpfaaPAllx5
import Derived.Test.YtdbiobaccihpfaaRecSpec
namespace Go.Proofs.Ytdbiobaccihpfaa.Pure
open Go.RowKit Go.Proofs.Ytdbiobaccihpfaa.PAll Go.Proofs.YtdbiobaccihpfaaW.PrintWords Go.Proofs.YtdbiobaccihpfaaW.PrintLast Go.Proofs.YtdbiobaccihpfaaW.PrintMore

/-! What Check, Encode and Decode, and the reference's, come to. -/
def okR (k i v : Int) (n : Nat) : Prop := ((k = 1 ∨ k = 4) ∧ 0 < i ∧ 0 < v ∧ n ≤ 4096) ∨ (k = 2 ∧ 0 < i ∧ v = 0 ∧ n = 0) ∨ (k = 3 ∧ i = 0 ∧ 0 < v ∧ n ≤ 2000)
instance (k i v : Int) (n : Nat) : Decidable (okR k i v n) := by unfold okR; infer_instance
def chk (k i v : Int) (n : Nat) : Int := if okR k i v n then 0 else 1
theorem nil_size (s : ByteArray) : s.toList = ([] : List UInt8) ↔ s.size = 0 := by
  rw [ByteArray.toList_eq, ← List.length_eq_zero_iff, data_length]
theorem check_is (k : Nat) (a b c : Int) (s : ByteArray) : record_Check.f (k + 3) a b c s = some (chk a b c s.size) := by
  have hn := nil_size s
  have hbe : (s.toList == ([] : List UInt8)) = decide (s.size = 0) := by
    rw [Bool.eq_iff_iff, beq_iff_eq, decide_eq_true_eq]
    exact hn
  unfold chk okR
  simp only [record_Check.f, record_Check.j0, record_Check.j1, record_Check.j2, hbe]
  by_cases h1 : a = 1
  · subst h1
    by_cases h2 : b > 0 <;> by_cases h3 : c > 0 <;> by_cases h4 : (s.size : Int) ≤ 4096 <;> simp [h2, h3, h4] <;> omega
  by_cases h4 : a = 4
  · subst h4
    by_cases h2 : b > 0 <;> by_cases h3 : c > 0 <;> by_cases h4 : (s.size : Int) ≤ 4096 <;> simp [h2, h3, h4] <;> omega
  by_cases h2 : a = 2
  · subst h2
    by_cases h2 : b > 0 <;> by_cases h3 : c = 0 <;> by_cases h4 : s.size = 0 <;> simp [h2, h3, h4]
  by_cases h3 : a = 3
  · subst h3
    by_cases h2 : b = 0 <;> by_cases h3 : c > 0 <;> by_cases h4 : (s.size : Int) ≤ 2000 <;> simp [h2, h3, h4] <;> omega
  simp [h1, h2, h3, h4]
theorem refCheck_is (k : Nat) (a b c : Int) (s : ByteArray) : marginaliaref22_Check.f (k + 1) a b c s = some (chk a b c s.size) := by
  have hn := nil_size s
  unfold chk okR
  simp only [marginaliaref22_Check.f, marginaliaref22_Check.j0, hn]
  by_cases h1 : a = 1
  · subst h1
    by_cases h2 : b ≥ 1 <;> by_cases h3 : c ≥ 1 <;> by_cases h4 : (s.size : Int) ≤ 4096 <;> simp [h2, h3, h4] <;> omega
  by_cases h4 : a = 4
  · subst h4
    by_cases h2 : b ≥ 1 <;> by_cases h3 : c ≥ 1 <;> by_cases h4 : (s.size : Int) ≤ 4096 <;> simp [h2, h3, h4] <;> omega
  by_cases h2 : a = 2
  · subst h2
    by_cases h2 : b ≥ 1 <;> by_cases h3 : c = 0 <;> by_cases h4 : s.size = 0 <;> simp [h2, h3, h4] <;> omega
  by_cases h3 : a = 3
  · subst h3
    by_cases h2 : b = 0 <;> by_cases h3 : c ≥ 1 <;> by_cases h4 : (s.size : Int) ≤ 2000 <;> simp [h2, h3, h4] <;> omega
  simp [h1, h2, h3, h4]
def encL (k : Int) (x y : Nat) (s : ByteArray) : List Int := (k % 256) :: (be 8 x ++ (be 8 y ++ (be 2 s.size ++ bytesOf s)))
theorem chk_zero {k i v : Int} {n : Nat} (h : chk k i v n = 0) : okR k i v n := by
  unfold chk at h
  split at h
  · assumption
  · cases h
theorem ok_size {k i v : Int} {n : Nat} (h : okR k i v n) : n ≤ 4096 := by unfold okR at h; omega
theorem ok_kind {k i v : Int} {n : Nat} (h : okR k i v n) : 1 ≤ k ∧ k ≤ 4 := by unfold okR at h; omega
theorem encode_is (k : Nat) (hk : 9 ≤ k) (a : Int) (x y : Nat) (s : ByteArray) : record_Encode.f k a x y s = some (if chk a x y s.size = 0 then encL a x y s else [], chk a x y s.size) := by
  obtain ⟨k, rfl⟩ : ∃ m, k = m + 3 := ⟨k - 3, by omega⟩
  unfold record_Encode.f
  rw [check_is, Option.bind_some]
  by_cases h : chk a x y s.size = 0
  · have ho := chk_zero h
    have hs := ok_size ho
    obtain ⟨h1, h4⟩ := ok_kind ho
    obtain ⟨q, hq⟩ : ∃ q : Nat, a = (q : Int) := ⟨a.toNat, by omega⟩
    subst hq
    rw [if_pos h, u64_small (by omega) (by omega), u64_small (by omega) (by omega)]
    have p1 : record_put.f (k + 3) [] (q : Int) 1 = some ([] ++ be 1 q) := put_is q 1 (k + 3) [] (by omega) (by omega) (by simp)
    have p2 : record_put.f (k + 3) ([] ++ be 1 q) (x : Int) 8 = some ([] ++ be 1 q ++ be 8 x) := put_is x 8 (k + 3) ([] ++ be 1 q) (by omega) (by omega) (by simp [be_len])
    have p3 : record_put.f (k + 3) ([] ++ be 1 q ++ be 8 x) (y : Int) 8 = some ([] ++ be 1 q ++ be 8 x ++ be 8 y) := put_is y 8 (k + 3) ([] ++ be 1 q ++ be 8 x) (by omega) (by omega) (by simp [be_len])
    have p4 : record_put.f (k + 3) ([] ++ be 1 q ++ be 8 x ++ be 8 y) (s.size : Int) 2 = some ([] ++ be 1 q ++ be 8 x ++ be 8 y ++ be 2 s.size) := put_is s.size 2 (k + 3) ([] ++ be 1 q ++ be 8 x ++ be 8 y) (by omega) (by omega) (by simp [be_len])
    rw [p1, Option.bind_some, p2, Option.bind_some, p3, Option.bind_some, p4, Option.bind_some, if_pos (by simp [be_len]; omega), if_pos h, h]
    simp [encL, be]
  · rw [if_neg h, if_neg h]
theorem refEncode_is (k : Nat) (hk : 9 ≤ k) (a : Int) (x y : Nat) (s : ByteArray) : marginaliaref22_Encode.f k a x y s = some (if chk a x y s.size = 0 then encL a x y s else [], chk a x y s.size) := by
  obtain ⟨k, rfl⟩ : ∃ m, k = m + 1 := ⟨k - 1, by omega⟩
  unfold marginaliaref22_Encode.f
  rw [refCheck_is, Option.bind_some]
  by_cases h : chk a x y s.size = 0
  · have hs := ok_size (chk_zero h)
    rw [if_pos h, u64_small (by omega) (by omega)]
    have p2 : marginaliaref16_Put.f (k + 1) [a % 256] (x : Int) 8 = some ([a % 256] ++ be 8 x) := refPut_is x 8 (k + 1) [a % 256] (by omega) (by omega) (by simp)
    have p3 : marginaliaref16_Put.f (k + 1) ([a % 256] ++ be 8 x) (y : Int) 8 = some ([a % 256] ++ be 8 x ++ be 8 y) := refPut_is y 8 (k + 1) ([a % 256] ++ be 8 x) (by omega) (by omega) (by simp [be_len])
    have p4 : marginaliaref16_Put.f (k + 1) ([a % 256] ++ be 8 x ++ be 8 y) (s.size : Int) 2 = some ([a % 256] ++ be 8 x ++ be 8 y ++ be 2 s.size) := refPut_is s.size 2 (k + 1) ([a % 256] ++ be 8 x ++ be 8 y) (by omega) (by omega) (by simp [be_len])
    rw [p2, Option.bind_some, p3, Option.bind_some, p4, Option.bind_some, if_pos (by simp [be_len]; omega), if_pos h, h]
    simp [encL]
  · rw [if_neg h, if_neg h]

/-! Decode -/
def failD : Int × Int × Int × ByteArray × Int := (0, 0, 0, ⟨#[]⟩, 8)
def decL (l : List Int) : Int × Int × Int × ByteArray × Int :=
  if l.length < 19 then failD else if valN ((l.take 19).drop 17) ≠ l.length - 19 then failD
  else if chk (rd l 0) (valN ((l.take 9).drop 1)) (valN ((l.take 17).drop 9)) (l.length - 19) = 0 then (rd l 0, (valN ((l.take 9).drop 1) : Nat), (valN ((l.take 17).drop 9) : Nat), strOfNums (l.drop 19), 0) else failD
theorem bytes_sub {l l' : List Int} (h : Bytes l) (hs : ∀ x ∈ l', x ∈ l) : Bytes l' := fun x hx => h x (hs x hx)
theorem sub_mid (l : List Int) (a b : Nat) : ∀ x ∈ (l.take b).drop a, x ∈ l := fun _ hx => List.mem_of_mem_take (List.mem_of_mem_drop hx)
theorem decode_is (k : Nat) (hk : 10 ≤ k) (l : List Int) (hb : Bytes l) (hl : l.length ≤ 65000) : record_Decode.f k l = some (decL l) := by
  obtain ⟨k, rfl⟩ : ∃ m, k = m + 4 := ⟨k - 4, by omega⟩
  unfold record_Decode.f decL
  by_cases h19 : l.length < 19
  · rw [if_pos (by omega), if_pos h19]
    simp only [record_Decode.j0]
    rw [if_pos trivial]
    rfl
  · rw [if_neg (by omega), if_pos (by omega), if_pos (by omega), if_neg h19]
    have n1 := num_is ((l.take 19).drop 17) (bytes_sub hb (sub_mid _ _ _)) (by rw [List.length_drop, List.length_take]; omega)
    have n2 := num_is ((l.take 9).drop 1) (bytes_sub hb (sub_mid _ _ _)) (by rw [List.length_drop, List.length_take]; omega)
    have n3 := num_is ((l.take 17).drop 9) (bytes_sub hb (sub_mid _ _ _)) (by rw [List.length_drop, List.length_take]; omega)
    have l1 : ((l.take 19).drop 17).length = 2 := by rw [List.length_drop, List.length_take]; omega
    have l2 : ((l.take 9).drop 1).length = 8 := by rw [List.length_drop, List.length_take]; omega
    have l3 : ((l.take 17).drop 9).length = 8 := by rw [List.length_drop, List.length_take]; omega
    rw [n1 _ (by omega), Option.bind_some, wrap_small (by omega) (by omega), u64_small (by omega) (by omega)]
    simp only [record_Decode.j0]
    by_cases hv : valN ((l.take 19).drop 17) = l.length - 19
    · have e : (((valN ((l.take 19).drop 17) : Nat) : Int) != (l.length : Int) - 19) = false := by rw [bne_eq_false_iff_eq]; omega
      have e2 : ¬ (valN ((l.take 19).drop 17) ≠ l.length - 19) := fun q => q hv
      rw [if_neg e2, e, if_neg (by simp), if_pos (by omega), if_pos (by omega), if_pos (by omega), n2 _ (by omega), Option.bind_some, if_pos (by omega), if_pos (by omega), n3 _ (by omega), Option.bind_some, if_pos (by omega)]
      have hz : (strOfNums (l.drop 19)).size = l.length - 19 := by rw [strOfNums_size, List.length_drop]
      have h0 : 0 < l.length := by omega
      have hr := hb _ (List.getElem_mem h0)
      have hrd : rd l 0 = l[0] := rd_at l 0 h0
      rw [check_is, Option.bind_some, hz, hrd, wrap_small (by omega) (by omega)]
      split <;> rfl
    · have e : (((valN ((l.take 19).drop 17) : Nat) : Int) != (l.length : Int) - 19) = true := by rw [bne_iff_ne]; omega
      rw [e, if_pos rfl, if_pos hv]
      rfl
theorem bytesOf_str (ys : List Int) (h : Bytes ys) : bytesOf (strOfNums ys) = ys := by
  unfold bytesOf
  rw [strOfNums_data, List.map_map]
  have e : ys.map ((fun b : UInt8 => (b.toNat : Int)) ∘ fun n => UInt8.ofNat n.toNat) = ys.map id := List.map_congr_left fun d hd => by
    have := h d hd
    simp
    omega
  rw [e, List.map_id]
theorem strOf_inj {a b : List Int} (ha : Bytes a) (hb : Bytes b) : (strOfNums a).toList = (strOfNums b).toList ↔ a = b := by
  constructor
  · intro h
    rw [ByteArray.toList_eq, ByteArray.toList_eq] at h
    rw [← bytesOf_str a ha, ← bytesOf_str b hb]
    unfold bytesOf
    rw [h]
  · rintro rfl; rfl
end Go.Proofs.Ytdbiobaccihpfaa.Pure
