/- The statement InputRight: what is decoded is right, a right text without the mark is decoded as it is, and only a right one is; the pieces stay as many (beyond 300 bytes, or with the mark ahead: the live question alone).
   No condition: every input. The utf8 tables that the row lists are not read on these roads; internal/bytealg.MaxLen may hold any number. -/
import Derived.Test.YtckajljkdlejoaaDoorOpInputRight
import Derived.Test.YtckajljkdlejoaaDoorPAllx0
import Derived.Test.YtckajljkdlejoaaDoorPAllx2
import Derived.Test.YtckajljkdlejoaaDoorInLaws
import Derived.Test.YtckajljkdlejoaaDoorInRef
namespace Go.Proofs.YtckajljkdlejoaaDoor.Pure
open Go.RowKit Go.Proofs.YtckajljkdlejoaaDoor.PAll Go.Proofs.YtckajljkdlejoaaDoorW.PrintWords Go.Proofs.YtckajljkdlejoaaDoorW.PrintLast
theorem InputRight : inputRightOp.Plain := by
  intro a0 _
  have H : Ev (fun k => marginalialaw01_InputRight.f k a0) true := by
    unfold marginalialaw01_InputRight.f
    by_cases hs : a0.size > 300 ∨ inMarked a0.data.toList = true
    · exact Ev.congr (fun _ => if_pos hs) (Ev.now _)
    · refine Ev.congr (fun _ => if_neg hs) ?_
      have h1 : a0.size ≤ 300 := by omega
      have hm : inMarked a0.data.toList = false := Bool.eq_false_iff.mpr (fun e => hs (.inr e))
      have hd : inDecode a0.data.toList = inDec a0.data.toList := by unfold inDecode; rw [hm]; simp
      have hz : (⟨(inDecode a0.data.toList).toArray⟩ : ByteArray).size ≤ 3000000 := by
        show (inDecode a0.data.toList).length ≤ _
        have := inDec_len a0.data.toList
        rw [in_data_len] at this
        rw [hd]; omega
      refine Ev.bind (cnt_ev a0 (by omega)) ?_
      refine Ev.bind (cnt_ev ⟨(inDecode a0.data.toList).toArray⟩ hz) ?_
      have e : inCnt (⟨(inDecode a0.data.toList).toArray⟩ : ByteArray).data.toList = inCnt a0.data.toList := by
        show inCnt (inDecode a0.data.toList) = _
        rw [hd]; exact (inVal_dec _).2
      exact Ev.congr (fun _ => if_pos (by rw [e])) (Ev.now _)
  exact H.rounds
end Go.Proofs.YtckajljkdlejoaaDoor.Pure
