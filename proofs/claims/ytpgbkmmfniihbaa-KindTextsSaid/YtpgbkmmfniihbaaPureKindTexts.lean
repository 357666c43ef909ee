/- The statement KindTexts: for every text, kind.White and kind.Lower answer as the reference does (beyond 300 bytes: the live question alone).
   No condition: every text. -/
import Derived.Test.YtpgbkmmfniihbaaPAllx0
import Derived.Test.YtpgbkmmfniihbaaPAllx5
import Derived.Test.YtpgbkmmfniihbaaRefTexts
namespace Go.Proofs.Ytpgbkmmfniihbaa.Pure
open Go.RowKit Go.Proofs.Ytpgbkmmfniihbaa.PAll Go.Proofs.YtpgbkmmfniihbaaW.PrintWords Go.Proofs.YtpgbkmmfniihbaaW.PrintLast
theorem KindTexts : marginalialaw02_KindTexts.Pure := by
  intro a0 h
  have H : Ev (fun k => marginalialaw02_KindTexts.f k a0) true := by
    unfold marginalialaw02_KindTexts.f
    by_cases hs : (a0.size : Int) > 300
    · exact Ev.congr (fun _ => if_pos hs) (Ev.pass alive_ev)
    · refine Ev.congr (fun _ => if_neg hs) ?_
      refine Ev.bind alive_ev ?_
      refine Ev.congr (fun _ => if_pos rfl) ?_
      refine Ev.bind (white_ev a0 h) ?_
      refine Ev.bind (refWhite_ev a0 h) ?_
      refine Ev.congr (fun _ => if_pos (by simp)) ?_
      refine Ev.bind (⟨0, fun _ _ => lower_is a0 h⟩) ?_
      refine Ev.bind (refLower_ev a0 h) ?_
      exact ⟨0, fun _ _ => by simp⟩
  exact H.rounds
end Go.Proofs.Ytpgbkmmfniihbaa.Pure
