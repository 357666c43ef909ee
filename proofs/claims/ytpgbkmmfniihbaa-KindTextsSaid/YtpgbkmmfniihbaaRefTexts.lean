import Derived.Test.YtpgbkmmfniihbaaPAllx0
import Derived.Test.YtpgbkmmfniihbaaPAllx2
import Derived.Test.YtpgbkmmfniihbaaPAllx4
import Derived.Test.YtpgbkmmfniihbaaPAllx5
import Derived.Test.YtpgbkmmfniihbaaTexts
namespace Go.Proofs.Ytpgbkmmfniihbaa.Pure
open Go.RowKit Go.Proofs.Ytpgbkmmfniihbaa.PAll Go.Proofs.YtpgbkmmfniihbaaW.PrintWords Go.Proofs.YtpgbkmmfniihbaaW.PrintLast

theorem refSpace_is (c : UInt8) : marginaliaref02_Space.f (c.toNat : Int) = some (spB c) := by
  have H : ∀ n, n < 256 → marginaliaref02_Space.f ((UInt8.ofNat n).toNat : Int) = some (spB (UInt8.ofNat n)) := by decide +kernel
  have := H c.toNat c.toNat_lt
  simpa using this
theorem refWhite_l0 (s : ByteArray) (hs : s.size ≤ 140737488351232) : ∀ (d i k : Nat), i + d = s.size → d < k →
    marginaliaref02_White.l0 k s (i : Int) = some ((s.data.toList.drop i).all spB) := by
  have hlen : s.data.toList.length = s.size := by simp
  intro d
  induction d with
  | zero =>
    intro i k hi hk
    obtain ⟨k, rfl⟩ : ∃ m, k = m + 1 := ⟨k - 1, by omega⟩
    simp only [marginaliaref02_White.l0]
    rw [if_neg (by omega), List.drop_of_length_le (by omega)]
    rfl
  | succ d ih =>
    intro i k hi hk
    obtain ⟨k, rfl⟩ : ∃ m, k = m + 1 := ⟨k - 1, by omega⟩
    have hlt : i < s.size := by omega
    have hlt' : i < s.data.toList.length := by omega
    simp only [marginaliaref02_White.l0]
    rw [if_pos (by omega), if_pos (by omega), bt_nat s i hlt, bytes_data, List.getD_eq_getElem?_getD, List.getElem?_eq_getElem hlt', Option.getD_some, refSpace_is, wrap_next (by omega), ih (i + 1) k (by omega) (by omega)]
    rw [List.drop_eq_getElem_cons hlt', List.all_cons, Option.bind_some]
    cases spB s.data.toList[i] <;> rfl
theorem refWhite_ev (s : ByteArray) (hs : s.size ≤ 140737488351232) : Ev (fun k => marginaliaref02_White.f k s) (s.data.toList.all spB) := by
  refine ⟨s.size + 1, fun k hk => ?_⟩
  have h := refWhite_l0 s hs s.size 0 k (by omega) (by omega)
  rw [List.drop_zero] at h
  exact h
theorem lowB_u8 (c : UInt8) : UInt8.ofNat (if 65 ≤ (c.toNat : Int) then if (c.toNat : Int) ≤ 90 then ((c.toNat : Int) + 32) % 256 else (c.toNat : Int) else (c.toNat : Int)).toNat = lowB c := by
  have H : ∀ n, n < 256 → UInt8.ofNat (if 65 ≤ ((UInt8.ofNat n).toNat : Int) then if ((UInt8.ofNat n).toNat : Int) ≤ 90 then (((UInt8.ofNat n).toNat : Int) + 32) % 256 else ((UInt8.ofNat n).toNat : Int) else ((UInt8.ofNat n).toNat : Int)).toNat = lowB (UInt8.ofNat n) := by decide +kernel
  have := H c.toNat c.toNat_lt
  simpa using this
theorem strOfNums_snoc (xs : List Int) (n : Int) : (strOfNums (xs ++ [n])).data.toList = (strOfNums xs).data.toList ++ [UInt8.ofNat n.toNat] := by
  simp [strOfNums]
theorem bytes_ext {a b : ByteArray} (h : a.data.toList = b.data.toList) : a = b := by
  cases a; cases b
  simp only [ByteArray.mk.injEq]
  exact Array.toList_inj.1 h
theorem refLower_l0 (s : ByteArray) (hs : s.size ≤ 140737488351232) : ∀ (d i k : Nat) (xs : List Int), i + d = s.size → d < k → xs.length = i → (strOfNums xs).data.toList = (s.data.toList.take i).map lowB →
    marginaliaref02_Lower.l0 k s xs (i : Int) = some (lowS s) := by
  have hlen : s.data.toList.length = s.size := by simp
  intro d
  induction d with
  | zero =>
    intro i k xs hi hk hl hx
    obtain ⟨k, rfl⟩ : ∃ m, k = m + 1 := ⟨k - 1, by omega⟩
    simp only [marginaliaref02_Lower.l0]
    rw [if_neg (by omega)]
    congr 1
    apply bytes_ext
    rw [hx, List.take_of_length_le (by omega)]
    simp [lowS]
  | succ d ih =>
    intro i k xs hi hk hl hx
    obtain ⟨k, rfl⟩ : ∃ m, k = m + 1 := ⟨k - 1, by omega⟩
    have hlt : i < s.size := by omega
    have hlt' : i < s.data.toList.length := by omega
    have hb : bt s (i : Int) = (s.data.toList[i].toNat : Int) := by
      rw [bt_nat s i hlt, bytes_data, List.getD_eq_getElem?_getD, List.getElem?_eq_getElem hlt']
      rfl
    have hu := lowB_u8 s.data.toList[i]
    have step : ∀ n : Int, UInt8.ofNat n.toNat = lowB s.data.toList[i] → marginaliaref02_Lower.l0 k s (xs ++ [n]) (wrap64 ((i : Int) + 1)) = some (lowS s) := by
      intro n hn
      rw [wrap_next (by omega)]
      refine ih (i + 1) k (xs ++ [n]) (by omega) (by omega) (by simp [hl]) ?_
      rw [strOfNums_snoc, hx, hn, List.take_add_one, List.getElem?_eq_getElem hlt']
      simp
    simp only [marginaliaref02_Lower.l0]
    rw [if_pos (by omega), if_pos (by omega), hb]
    by_cases h1 : 65 ≤ (s.data.toList[i].toNat : Int)
    · rw [if_pos h1] at hu
      rw [if_pos h1]
      by_cases h2 : (s.data.toList[i].toNat : Int) ≤ 90
      · rw [if_pos h2] at hu
        rw [if_pos h2, if_pos (by omega)]
        exact step _ hu
      · rw [if_neg h2] at hu
        rw [if_neg h2, if_pos (by omega)]
        exact step _ hu
    · rw [if_neg h1] at hu
      rw [if_neg h1, if_pos (by omega)]
      exact step _ hu
theorem refLower_ev (s : ByteArray) (hs : s.size ≤ 140737488351232) : Ev (fun k => marginaliaref02_Lower.f k s) (lowS s) := by
  refine ⟨s.size + 1, fun k hk => ?_⟩
  exact refLower_l0 s hs s.size 0 k [] (by omega) (by omega) rfl (by simp [strOfNums])
theorem lower_is (s : ByteArray) (hs : s.size ≤ 140737488351232) : kind_Lower.f s = some (lowS s) := by
  unfold kind_Lower.f
  rw [if_pos hs]
end Go.Proofs.Ytpgbkmmfniihbaa.Pure
