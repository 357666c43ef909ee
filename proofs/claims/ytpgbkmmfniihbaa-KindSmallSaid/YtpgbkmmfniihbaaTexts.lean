import Derived.Test.YtpgbkmmfniihbaaPAllx0
import Derived.Test.YtpgbkmmfniihbaaPAllx1
import Derived.Test.YtpgbkmmfniihbaaPAllx4
import Derived.Test.YtpgbkmmfniihbaaKindSpec
namespace Go.Proofs.Ytpgbkmmfniihbaa.Pure
open Go.RowKit Go.Proofs.Ytpgbkmmfniihbaa.PAll Go.Proofs.YtpgbkmmfniihbaaW.PrintWords Go.Proofs.YtpgbkmmfniihbaaW.PrintLast

/-! What White, Lower and the reference's White, Lower come to; the law's live question. -/
theorem alive_ok : marginalialaw02_alive.f 60 = some true := by decide +kernel
theorem alive_ev : Ev (fun k => marginalialaw02_alive.f k) true := Ev.of (marginalialaw02_alive.mono) alive_ok
def spB (c : UInt8) : Bool := c.toNat == 9 || c.toNat == 10 || c.toNat == 12 || c.toNat == 13 || c.toNat == 32
theorem space_is (c : UInt8) : kind_Space.f (c.toNat : Int) = some (spB c) := by
  have H : ∀ n, n < 256 → kind_Space.f ((UInt8.ofNat n).toNat : Int) = some (spB (UInt8.ofNat n)) := by decide +kernel
  have := H c.toNat c.toNat_lt
  simpa using this
theorem white_l0 (s : ByteArray) (hs : s.size ≤ 140737488351232) : ∀ (d i k : Nat), i + d = s.size → d < k →
    kind_White.l0 k s (s.size : Int) (i : Int) = some ((s.data.toList.drop i).all spB) := by
  have hlen : s.data.toList.length = s.size := by simp
  intro d
  induction d with
  | zero =>
    intro i k hi hk
    obtain ⟨k, rfl⟩ : ∃ m, k = m + 1 := ⟨k - 1, by omega⟩
    simp only [kind_White.l0]
    rw [if_neg (by omega), List.drop_of_length_le (by omega)]
    rfl
  | succ d ih =>
    intro i k hi hk
    obtain ⟨k, rfl⟩ : ∃ m, k = m + 1 := ⟨k - 1, by omega⟩
    have hlt : i < s.size := by omega
    have hlt' : i < s.data.toList.length := by omega
    simp only [kind_White.l0]
    rw [if_pos (by omega), if_pos (by omega), if_pos (by omega), bt_nat s i hlt, bytes_data, List.getD_eq_getElem?_getD, List.getElem?_eq_getElem hlt', Option.getD_some, space_is, wrap_next (by omega), ih (i + 1) k (by omega) (by omega)]
    rw [List.drop_eq_getElem_cons hlt', List.all_cons, Option.bind_some]
    cases spB s.data.toList[i] <;> rfl
theorem white_ev (s : ByteArray) (hs : s.size ≤ 140737488351232) : Ev (fun k => kind_White.f k s) (s.data.toList.all spB) := by
  refine ⟨s.size + 1, fun k hk => ?_⟩
  have h := white_l0 s hs s.size 0 k (by omega) (by omega)
  rw [List.drop_zero] at h
  exact h
end Go.Proofs.Ytpgbkmmfniihbaa.Pure
