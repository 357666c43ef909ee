/- The statement KindNames: for every set's number and every name, kind.Is answers as the reference does (beyond 300 bytes: the live question alone).
   No condition: every number, every name. -/
import Derived.Test.YtpgbkmmfniihbaaPAllx0
import Derived.Test.YtpgbkmmfniihbaaPAllx6
import Derived.Test.YtpgbkmmfniihbaaRefKind
import Derived.Test.YtpgbkmmfniihbaaTexts
namespace Go.Proofs.Ytpgbkmmfniihbaa.Pure
open Go.RowKit Go.Proofs.Ytpgbkmmfniihbaa.PAll Go.Proofs.YtpgbkmmfniihbaaW.PrintWords Go.Proofs.YtpgbkmmfniihbaaW.PrintLast
theorem KindNames : marginalialaw02_KindNames.Pure := by
  intro a0 a1 _ _
  have H : Ev (fun k => marginalialaw02_KindNames.f k a0 a1) true := by
    unfold marginalialaw02_KindNames.f
    by_cases hs : (a1.size : Int) > 300
    · exact Ev.congr (fun _ => if_pos hs) (Ev.pass alive_ev)
    · refine Ev.congr (fun _ => if_neg hs) ?_
      refine Ev.bind alive_ev ?_
      refine Ev.congr (fun _ => if_pos rfl) ?_
      refine Ev.bind (is_ev a0 a1) ?_
      refine Ev.bind (refIs_ev a0 a1) ?_
      exact ⟨0, fun _ _ => by simp⟩
  exact H.rounds
end Go.Proofs.Ytpgbkmmfniihbaa.Pure
