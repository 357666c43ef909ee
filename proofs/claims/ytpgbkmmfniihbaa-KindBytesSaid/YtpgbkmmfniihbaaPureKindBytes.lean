/- The statement KindBytes: for every byte, kind.Space, kind.Letter and kind.Figure answer as the reference does. No condition: every byte.
   Out of the printed walk's plain functions (no memory, no Go): all 256 bytes are tried by the kernel. -/
import Derived.Test.YtpgbkmmfniihbaaPAllx0
import Derived.Test.YtpgbkmmfniihbaaPAllx4
import Derived.OpenShut
namespace Go.Proofs.Ytpgbkmmfniihbaa.Pure
open Go.RowKit Go.Proofs.Ytpgbkmmfniihbaa.PAll Go.Proofs.YtpgbkmmfniihbaaW.PrintWords Go.Proofs.YtpgbkmmfniihbaaW.PrintLast
theorem bytes_all : ∀ n, n < 256 → marginalialaw02_KindBytes.f 60 (Int.ofNat n) = some true := by decide +kernel
theorem KindBytes : marginalialaw02_KindBytes.Pure := by
  intro a0 hw
  have hb := Go.bounds_u8 hw
  refine ⟨60, ?_⟩
  have := bytes_all a0.toNat (by omega)
  rwa [show Int.ofNat a0.toNat = a0 by simp [Int.toNat_of_nonneg hb.1]] at this
end Go.Proofs.Ytpgbkmmfniihbaa.Pure
