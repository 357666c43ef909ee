import Derived.Test.YtjfkenjmjoncbaaPAllx0
import Derived.Test.YtjfkenjmjoncbaaPAllx8
import Derived.Test.YtjfkenjmjoncbaaLgSame
namespace Go.Proofs.Ytjfkenjmjoncbaa.Lg
open Go Go.Maps Go.WideShapes Go.RowKit Go.Proofs.Ytjfkenjmjoncbaa.PAll Go.Proofs.YtjfkenjmjoncbaaW.PrintWords Go.Proofs.YtjfkenjmjoncbaaW.PrintLast Go.Proofs.YtjfkenjmjoncbaaW.PrintMore

/-! Numbers in eight bytes, the highest first (as the record's set has it). -/
theorem foldl_val : ∀ (ds : List Int) (a : Nat), ds.foldl (fun a d => a * 256 + d.toNat) a = a * 256 ^ ds.length + valN ds
  | [], a => by simp [valN]
  | d :: ds, a => by
    unfold valN
    rw [List.foldl_cons, List.foldl_cons, foldl_val ds, foldl_val ds, List.length_cons, Nat.pow_succ, Nat.zero_mul, Nat.zero_add, Nat.add_mul, Nat.mul_assoc, Nat.mul_comm 256, Nat.add_assoc]
theorem valN_cons (d : Int) (ds : List Int) : valN (d :: ds) = d.toNat * 256 ^ ds.length + valN ds := by
  show List.foldl _ _ _ = _
  rw [List.foldl_cons, foldl_val, Nat.zero_mul, Nat.zero_add]
theorem valN_lt : ∀ (ds : List Int), Bytes ds → valN ds < 256 ^ ds.length
  | [], _ => by simp [valN]
  | d :: ds, h => by
    rw [valN_cons, List.length_cons, Nat.pow_succ]
    have h1 := valN_lt ds (fun x hx => h x (List.mem_cons_of_mem _ hx))
    have h2 := h d (List.mem_cons_self ..)
    have h3 : d.toNat ≤ 255 := by omega
    have h4 : d.toNat * 256 ^ ds.length ≤ 255 * 256 ^ ds.length := Nat.mul_le_mul_right _ h3
    omega
theorem wrap_small {n : Int} (h0 : -9223372036854775808 ≤ n) (h1 : n ≤ 9223372036854775807) : wrap64 n = n := by
  unfold wrap64
  omega
theorem u64_small {n : Int} (h0 : 0 ≤ n) (h1 : n < 18446744073709551616) : IntKind.u64.wrap n = n := by
  rw [IntKind.wrap_u64]
  omega
theorem or_be (a d : Nat) (ha : a < 72057594037927936) (hd : d < 256) : Go.bits .or .u64 (IntKind.u64.wrap ((a : Int) * 256)) (IntKind.u64.wrap (d : Int)) = ((a * 256 + d : Nat) : Int) := by
  rw [u64_small (by omega) (by omega), u64_small (by omega) (by omega)]
  rw [show (a : Int) * 256 = ((a * 256 : Nat) : Int) by omega, bits_or_u64_nat _ _ (by omega) (by omega)]
  congr 1
  have := Nat.shiftLeft_add_eq_or_of_lt (b := d) (i := 8) (by omega) a
  rw [Nat.shiftLeft_eq, show (2 : Nat) ^ 8 = 256 from rfl] at this
  exact this.symm
theorem rd_at (xs : List Int) (i : Nat) (h : i < xs.length) : rd xs (i : Int) = xs[i] := by
  simp [rd, List.getD_eq_getElem?_getD, h]
theorem num_l0 (xs : List Int) (hb : Bytes xs) (h8 : xs.length ≤ 8) : ∀ (d i k a : Nat), i + d = xs.length → d < k → a = valN (xs.take i) →
    ledger_number.l0 k (a : Int) xs (xs.length : Int) (i : Int) = some ((valN xs : Nat) : Int) := by
  intro d
  induction d with
  | zero =>
    intro i k a hi hk ha
    obtain ⟨k, rfl⟩ : ∃ m, k = m + 1 := ⟨k - 1, by omega⟩
    simp only [ledger_number.l0]
    rw [if_neg (by omega), ha, List.take_of_length_le (by omega)]
  | succ d ih =>
    intro i k a hi hk ha
    obtain ⟨k, rfl⟩ : ∃ m, k = m + 1 := ⟨k - 1, by omega⟩
    have hlt : i < xs.length := by omega
    have hx := hb xs[i] (List.getElem_mem hlt)
    have hal : a < 256 ^ i := by
      have := valN_lt (xs.take i) (fun y hy => hb y (List.mem_of_mem_take hy))
      rw [List.length_take, Nat.min_eq_left (by omega)] at this
      omega
    have ha7 : a < 72057594037927936 := Nat.lt_of_lt_of_le hal (by have := Nat.pow_le_pow_right (n := 256) (by omega) (show i ≤ 7 by omega); simpa using this)
    simp only [ledger_number.l0]
    rw [if_pos (by omega), if_pos (by omega), if_pos (by omega), rd_at xs i hlt]
    obtain ⟨c, hc⟩ : ∃ c : Nat, xs[i] = (c : Int) := ⟨xs[i].toNat, by omega⟩
    rw [hc, or_be a c ha7 (by omega), wrap_small (by omega) (by omega), show (i : Int) + 1 = ((i + 1 : Nat) : Int) by omega]
    refine ih (i + 1) k _ (by omega) (by omega) ?_
    rw [List.take_add_one, List.getElem?_eq_getElem hlt, hc, Option.toList_some]
    unfold valN
    rw [List.foldl_append, List.foldl_cons, List.foldl_nil, Int.toNat_natCast]
    rw [ha]
    rfl
theorem num_is (xs : List Int) (hb : Bytes xs) (h8 : xs.length ≤ 8) (k : Nat) (hk : xs.length < k) : ledger_number.f k xs = some ((valN xs : Nat) : Int) := by
  unfold ledger_number.f
  exact num_l0 xs hb h8 xs.length 0 k 0 (by omega) hk rfl
theorem num64 {xs : List Int} (hb : Bytes xs) (h8 : xs.length ≤ 8) : 0 ≤ ((valN xs : Nat) : Int) ∧ ((valN xs : Nat) : Int) ≤ 18446744073709551615 := by
  have h1 := valN_lt xs hb
  have h2 := Nat.pow_le_pow_right (n := 256) (by omega) h8
  have h3 : (256 : Nat) ^ 8 = 18446744073709551616 := by decide
  omega
theorem bytes_take {l : List Int} (h : Bytes l) (n : Nat) : Bytes (l.take n) := fun d hd => h d (List.mem_of_mem_take hd)
theorem bytes_drop {l : List Int} (h : Bytes l) (n : Nat) : Bytes (l.drop n) := fun d hd => h d (List.mem_of_mem_drop hd)
end Go.Proofs.Ytjfkenjmjoncbaa.Lg
