import Derived.Test.YtdbiobaccihpfaaPAllx0
import Derived.Test.YtdbiobaccihpfaaPAllx2
import Derived.Test.YtdbiobaccihpfaaPAllx3
import Derived.Test.YtdbiobaccihpfaaPAllx5
import Derived.Test.YtdbiobaccihpfaaPAllx7
import Derived.OpenShut
import Derived.Laws.Bits64b
namespace Go.Proofs.Ytdbiobaccihpfaa.Pure
open Go.RowKit Go.Proofs.Ytdbiobaccihpfaa.PAll Go.Proofs.YtdbiobaccihpfaaW.PrintWords Go.Proofs.YtdbiobaccihpfaaW.PrintLast Go.Proofs.YtdbiobaccihpfaaW.PrintMore

/-! Numbers as bytes, the highest first; what package record's functions and its reference's come to. -/
def be : Nat → Nat → List Int
  | 0, _ => []
  | n + 1, x => ((x / 256 ^ n % 256 : Nat) : Int) :: be n x
def valN (ds : List Int) : Nat := ds.foldl (fun a d => a * 256 + d.toNat) 0
theorem be_len : ∀ n x, (be n x).length = n
  | 0, _ => rfl
  | n + 1, x => by simp [be, be_len n x]
theorem be_byte : ∀ n x, ∀ d ∈ be n x, 0 ≤ d ∧ d ≤ 255
  | 0, _, d, h => by simp [be] at h
  | n + 1, x, d, h => by
    rcases List.mem_cons.1 h with rfl | h
    · omega
    · exact be_byte n x d h
theorem foldl_be : ∀ n x a, (be n x).foldl (fun a d => a * 256 + d.toNat) a = a * 256 ^ n + x % 256 ^ n
  | 0, x, a => by simp [be, Nat.mod_one]
  | n + 1, x, a => by
    simp only [be, List.foldl_cons, Int.toNat_natCast]
    rw [foldl_be n x]
    have h1 : x % 256 ^ (n + 1) = x / 256 ^ n % 256 * 256 ^ n + x % 256 ^ n := by
      rw [Nat.pow_succ, Nat.mod_mul, Nat.mul_comm (256 ^ n), Nat.add_comm]
    rw [h1, Nat.add_mul, Nat.pow_succ, Nat.mul_assoc, Nat.mul_comm 256 (256 ^ n), Nat.add_assoc]
theorem valN_be (n x : Nat) (h : x < 256 ^ n) : valN (be n x) = x := by
  unfold valN
  rw [foldl_be, Nat.zero_mul, Nat.zero_add, Nat.mod_eq_of_lt h]
theorem foldl_val : ∀ (ds : List Int) (a : Nat), ds.foldl (fun a d => a * 256 + d.toNat) a = a * 256 ^ ds.length + valN ds
  | [], a => by simp [valN]
  | d :: ds, a => by
    unfold valN
    rw [List.foldl_cons, List.foldl_cons, foldl_val ds, foldl_val ds, List.length_cons, Nat.pow_succ, Nat.zero_mul, Nat.zero_add, Nat.add_mul, Nat.mul_assoc, Nat.mul_comm 256, Nat.add_assoc]
theorem valN_cons (d : Int) (ds : List Int) : valN (d :: ds) = d.toNat * 256 ^ ds.length + valN ds := by
  show List.foldl _ _ _ = _
  rw [List.foldl_cons, foldl_val, Nat.zero_mul, Nat.zero_add]
def Bytes (l : List Int) : Prop := ∀ d ∈ l, 0 ≤ d ∧ d ≤ 255
theorem valN_lt : ∀ (ds : List Int), Bytes ds → valN ds < 256 ^ ds.length
  | [], _ => by simp [valN]
  | d :: ds, h => by
    rw [valN_cons, List.length_cons, Nat.pow_succ]
    have h1 := valN_lt ds (fun x hx => h x (List.mem_cons_of_mem _ hx))
    have h2 := h d (List.mem_cons_self ..)
    have h3 : d.toNat ≤ 255 := by omega
    have h4 : d.toNat * 256 ^ ds.length ≤ 255 * 256 ^ ds.length := Nat.mul_le_mul_right _ h3
    omega
theorem be_valN : ∀ (ds : List Int), Bytes ds → ∀ x, x % 256 ^ ds.length = valN ds → be ds.length x = ds
  | [], _, _, _ => rfl
  | d :: ds, h, x, hx => by
    have hb : Bytes ds := fun y hy => h y (List.mem_cons_of_mem _ hy)
    have h1 := valN_lt ds hb
    have h2 := h d (List.mem_cons_self ..)
    rw [List.length_cons, Nat.pow_succ, Nat.mod_mul, valN_cons] at hx
    have hm : x % 256 ^ ds.length < 256 ^ ds.length := Nat.mod_lt _ (by have := Nat.pow_pos (n := ds.length) (show 0 < 256 by omega); omega)
    have hpos : 0 < 256 ^ ds.length := by omega
    have e1 : x % 256 ^ ds.length = valN ds := by
      have := congrArg (· % 256 ^ ds.length) hx
      simp only [Nat.add_mul_mod_self_left, Nat.mul_comm d.toNat] at this
      rw [Nat.mod_mod, Nat.add_comm, Nat.add_mul_mod_self_left, Nat.mod_eq_of_lt h1] at this
      exact this
    have e2 : x / 256 ^ ds.length % 256 = d.toNat := by
      rw [e1, Nat.add_comm, Nat.mul_comm (256 ^ ds.length)] at hx
      exact Nat.eq_of_mul_eq_mul_right hpos (Nat.add_right_cancel hx)
    simp only [List.length_cons, be]
    rw [e2, be_valN ds hb x e1, Int.toNat_of_nonneg h2.1]
theorem be_valN' (ds : List Int) (h : Bytes ds) : be ds.length (valN ds) = ds := be_valN ds h _ (Nat.mod_eq_of_lt (valN_lt ds h))

/-! put -/
theorem wrap_small {n : Int} (h0 : -9223372036854775808 ≤ n) (h1 : n ≤ 9223372036854775807) : wrap64 n = n := by
  unfold wrap64
  omega
theorem u64_small {n : Int} (h0 : 0 ≤ n) (h1 : n < 18446744073709551616) : IntKind.u64.wrap n = n := by
  rw [IntKind.wrap_u64]
  omega
theorem shr_be (x i : Nat) (hi : i < 8) : shr .u64 (x : Int) (8 * (i : Int)) % 256 = ((x / 256 ^ i % 256 : Nat) : Int) := by
  have hk : IntKind.u64.bits = 64 := rfl
  have e : min (8 * (i : Int)).toNat IntKind.u64.bits = 8 * i := by rw [hk]; omega
  unfold shr
  rw [e]
  have p : (2 : Int) ^ (8 * i) = ((256 ^ i : Nat) : Int) := by
    rw [Int.pow_mul, Int.natCast_pow]
    rfl
  rw [p, Int.natCast_emod, Int.natCast_ediv]
  rfl
theorem put_l0 (x : Nat) : ∀ (n k : Nat) (xs : List Int), n ≤ 8 → n < k → xs.length + n < 140737488355328 →
    record_put.l0 k xs (x : Int) ((n : Int) - 1) = some (xs ++ be n x) := by
  intro n
  induction n with
  | zero =>
    intro k xs _ hk _
    obtain ⟨k, rfl⟩ : ∃ m, k = m + 1 := ⟨k - 1, by omega⟩
    simp only [record_put.l0]
    rw [if_neg (by omega)]
    simp [be]
  | succ n ih =>
    intro k xs hn hk hl
    obtain ⟨k, rfl⟩ : ∃ m, k = m + 1 := ⟨k - 1, by omega⟩
    simp only [record_put.l0]
    rw [if_pos (by omega), wrap_small (by omega) (by omega), if_pos (by omega), if_pos (by omega), wrap_small (by omega) (by omega)]
    rw [show ((n + 1 : Nat) : Int) - 1 = (n : Int) by omega, shr_be x n (by omega), ih k _ (by omega) (by omega) (by simp; omega)]
    simp [be]
theorem put_is (x n k : Nat) (xs : List Int) (hn : n ≤ 8) (hk : n < k) (hl : xs.length + n < 140737488355328) : record_put.f k xs (x : Int) (n : Int) = some (xs ++ be n x) := by
  unfold record_put.f
  rw [wrap_small (by omega) (by omega)]
  exact put_l0 x n k xs hn hk hl
theorem refPut_l0 (x : Nat) : ∀ (n k : Nat) (xs : List Int), n ≤ 8 → n < k → xs.length + n < 140737488355328 →
    marginaliaref16_Put.l0 k xs (x : Int) ((n : Int) - 1) = some (xs ++ be n x) := by
  intro n
  induction n with
  | zero =>
    intro k xs _ hk _
    obtain ⟨k, rfl⟩ : ∃ m, k = m + 1 := ⟨k - 1, by omega⟩
    simp only [marginaliaref16_Put.l0]
    rw [if_neg (by omega)]
    simp [be]
  | succ n ih =>
    intro k xs hn hk hl
    obtain ⟨k, rfl⟩ : ∃ m, k = m + 1 := ⟨k - 1, by omega⟩
    simp only [marginaliaref16_Put.l0]
    rw [if_pos (by omega), wrap_small (n := 8 * _) (by omega) (by omega), u64_small (by omega) (by omega), if_pos (by omega), if_pos (by omega), wrap_small (by omega) (by omega)]
    rw [show ((n + 1 : Nat) : Int) - 1 = (n : Int) by omega, shr_be x n (by omega), ih k _ (by omega) (by omega) (by simp; omega)]
    simp [be]
theorem refPut_is (x n k : Nat) (xs : List Int) (hn : n ≤ 8) (hk : n < k) (hl : xs.length + n < 140737488355328) : marginaliaref16_Put.f k xs (x : Int) (n : Int) = some (xs ++ be n x) := by
  unfold marginaliaref16_Put.f
  rw [wrap_small (by omega) (by omega)]
  exact refPut_l0 x n k xs hn hk hl

/-! number -/
theorem or_be (a d : Nat) (ha : a < 72057594037927936) (hd : d < 256) : Go.bits .or .u64 (IntKind.u64.wrap ((a : Int) * 256)) (IntKind.u64.wrap (d : Int)) = ((a * 256 + d : Nat) : Int) := by
  rw [u64_small (by omega) (by omega), u64_small (by omega) (by omega)]
  rw [show (a : Int) * 256 = ((a * 256 : Nat) : Int) by omega, bits_or_u64_nat _ _ (by omega) (by omega)]
  congr 1
  have := Nat.shiftLeft_add_eq_or_of_lt (b := d) (i := 8) (by omega) a
  rw [Nat.shiftLeft_eq, show (2 : Nat) ^ 8 = 256 from rfl] at this
  exact this.symm
theorem rd_at (xs : List Int) (i : Nat) (h : i < xs.length) : rd xs (i : Int) = xs[i] := by
  simp [rd, List.getD_eq_getElem?_getD, h]
theorem num_l0 (xs : List Int) (hb : Bytes xs) (h8 : xs.length ≤ 8) : ∀ (d i k a : Nat), i + d = xs.length → d < k → a = valN (xs.take i) →
    record_number.l0 k (a : Int) xs (xs.length : Int) (i : Int) = some ((valN xs : Nat) : Int) := by
  intro d
  induction d with
  | zero =>
    intro i k a hi hk ha
    obtain ⟨k, rfl⟩ : ∃ m, k = m + 1 := ⟨k - 1, by omega⟩
    simp only [record_number.l0]
    rw [if_neg (by omega), ha, List.take_of_length_le (by omega)]
  | succ d ih =>
    intro i k a hi hk ha
    obtain ⟨k, rfl⟩ : ∃ m, k = m + 1 := ⟨k - 1, by omega⟩
    have hlt : i < xs.length := by omega
    have hx := hb xs[i] (List.getElem_mem hlt)
    have hal : a < 256 ^ i := by
      have := valN_lt (xs.take i) (fun y hy => hb y (List.mem_of_mem_take hy))
      rw [List.length_take, Nat.min_eq_left (by omega)] at this
      omega
    have ha7 : a < 72057594037927936 := Nat.lt_of_lt_of_le hal (by have := Nat.pow_le_pow_right (n := 256) (by omega) (show i ≤ 7 by omega); simpa using this)
    simp only [record_number.l0]
    rw [if_pos (by omega), if_pos (by omega), if_pos (by omega), rd_at xs i hlt]
    obtain ⟨c, hc⟩ : ∃ c : Nat, xs[i] = (c : Int) := ⟨xs[i].toNat, by omega⟩
    rw [hc, or_be a c ha7 (by omega), wrap_small (by omega) (by omega), show (i : Int) + 1 = ((i + 1 : Nat) : Int) by omega]
    refine ih (i + 1) k _ (by omega) (by omega) ?_
    rw [List.take_add_one, List.getElem?_eq_getElem hlt, hc, Option.toList_some]
    unfold valN
    rw [List.foldl_append, List.foldl_cons, List.foldl_nil, Int.toNat_natCast]
    rw [ha]
    rfl
theorem num_is (xs : List Int) (hb : Bytes xs) (h8 : xs.length ≤ 8) (k : Nat) (hk : xs.length < k) : record_number.f k xs = some ((valN xs : Nat) : Int) := by
  unfold record_number.f
  exact num_l0 xs hb h8 xs.length 0 k 0 (by omega) hk rfl
theorem refNum_l0 (xs : List Int) (hb : Bytes xs) (h8 : xs.length ≤ 8) : ∀ (d i k a : Nat), i + d = xs.length → d < k → a = valN (xs.take i) →
    marginaliaref16_Number.l0 k xs (a : Int) (i : Int) = some ((valN xs : Nat) : Int) := by
  intro d
  induction d with
  | zero =>
    intro i k a hi hk ha
    obtain ⟨k, rfl⟩ : ∃ m, k = m + 1 := ⟨k - 1, by omega⟩
    simp only [marginaliaref16_Number.l0]
    rw [if_neg (by omega), ha, List.take_of_length_le (by omega)]
  | succ d ih =>
    intro i k a hi hk ha
    obtain ⟨k, rfl⟩ : ∃ m, k = m + 1 := ⟨k - 1, by omega⟩
    have hlt : i < xs.length := by omega
    have hx := hb xs[i] (List.getElem_mem hlt)
    have hal : a < 256 ^ i := by
      have := valN_lt (xs.take i) (fun y hy => hb y (List.mem_of_mem_take hy))
      rw [List.length_take, Nat.min_eq_left (by omega)] at this
      omega
    have ha7 : a < 72057594037927936 := Nat.lt_of_lt_of_le hal (by have := Nat.pow_le_pow_right (n := 256) (by omega) (show i ≤ 7 by omega); simpa using this)
    simp only [marginaliaref16_Number.l0]
    rw [if_pos (by omega), if_pos (by omega), rd_at xs i hlt]
    obtain ⟨c, hc⟩ : ∃ c : Nat, xs[i] = (c : Int) := ⟨xs[i].toNat, by omega⟩
    rw [hc, u64_small (n := (a : Int) * 256) (by omega) (by omega), u64_small (n := (c : Int)) (by omega) (by omega), u64_small (by omega) (by omega), wrap_small (by omega) (by omega), show (i : Int) + 1 = ((i + 1 : Nat) : Int) by omega, show (a : Int) * 256 + (c : Int) = ((a * 256 + c : Nat) : Int) by omega]
    refine ih (i + 1) k _ (by omega) (by omega) ?_
    rw [List.take_add_one, List.getElem?_eq_getElem hlt, hc, Option.toList_some]
    unfold valN
    rw [List.foldl_append, List.foldl_cons, List.foldl_nil, Int.toNat_natCast]
    rw [ha]
    rfl
theorem refNum_is (xs : List Int) (hb : Bytes xs) (h8 : xs.length ≤ 8) (k : Nat) (hk : xs.length < k) : marginaliaref16_Number.f k xs = some ((valN xs : Nat) : Int) := by
  unfold marginaliaref16_Number.f
  exact refNum_l0 xs hb h8 xs.length 0 k 0 (by omega) hk rfl
end Go.Proofs.Ytdbiobaccihpfaa.Pure
