/- The statement InputMark: bytes that do not begin with the mark are decoded alike with it ahead, and without (beyond 300 bytes, or with the mark ahead: the live question alone).
   No condition: every input. The utf8 tables that the row lists are not read on these roads; internal/bytealg.MaxLen may hold any number. -/
import Derived.Test.YtckajljkdlejoaaDoorOpInputMark
import Derived.Test.YtckajljkdlejoaaDoorPAllx0
import Derived.Test.YtckajljkdlejoaaDoorPAllx2
import Derived.Test.YtckajljkdlejoaaDoorPAllx5
import Derived.Test.YtckajljkdlejoaaDoorPAllx8
import Derived.Test.YtckajljkdlejoaaDoorPAllx9
import Derived.Test.YtckajljkdlejoaaDoorInLaws
import Derived.Test.YtckajljkdlejoaaDoorInRef
namespace Go.Proofs.YtckajljkdlejoaaDoor.Pure
open Go.RowKit Go.Proofs.YtckajljkdlejoaaDoor.PAll Go.Proofs.YtckajljkdlejoaaDoorW.PrintWords Go.Proofs.YtckajljkdlejoaaDoorW.PrintLast
theorem mark_ahead (l0 : List Int) : (strOfNums ([239, 187, 191] ++ l0)).data.toList = [239, 187, 191] ++ (strOfNums l0).data.toList := by
  simp [strOfNums]
theorem InputMark : inputMarkOp.Plain := by
  intro l0 _
  have H : Ev (fun k => marginalialaw01_InputMark.f k l0) true := by
    have hp : Ev (fun k => marginalialaw01_InputMark.j0 k l0 true) true := by
      refine Ev.step (f := fun _ => some true) (fun k => ?_) (Ev.now _)
      simp only [marginalialaw01_InputMark.j0, marginalialaw01_alive.f]
      rw [if_pos trivial]; rfl
    unfold marginalialaw01_InputMark.f
    by_cases hs : (l0.length : Int) > 300
    · exact Ev.congr (fun _ => if_pos hs) hp
    · refine Ev.congr (fun _ => if_neg hs) ?_
      rw [marked_f]
      simp only [Option.bind_some]
      by_cases hm : inMarked (strOfNums l0).data.toList = true
      · rw [hm]; exact hp
      · replace hm := Bool.eq_false_iff.mpr hm
        rw [hm]
        have e1 : inDecode (strOfNums ([239, 187, 191] ++ l0)).data.toList = inDec (strOfNums l0).data.toList := by
          rw [mark_ahead]
          unfold inDecode
          rw [if_pos (by simp [inMarked, List.isPrefixOf])]
          rfl
        have e2 : inDecode (strOfNums l0).data.toList = inDec (strOfNums l0).data.toList := by unfold inDecode; rw [hm]; simp
        have e3 : inText (strOfNums ([239, 187, 191] ++ l0)).data.toList = inText (strOfNums l0).data.toList := by unfold inText; rw [e1, e2]
        have v1 : input_Decode.f ([239, 187, 191] ++ l0) = some ⟨(inDec (strOfNums l0).data.toList).toArray⟩ := by unfold input_Decode.f; rw [if_pos (by rw [List.length_append]; simp; omega), e1]
        have v2 : input_Decode.f l0 = some ⟨(inDec (strOfNums l0).data.toList).toArray⟩ := by unfold input_Decode.f; rw [if_pos (by omega), e2]
        have v3 : input_Text.f ([239, 187, 191] ++ l0) = some ⟨(inText (strOfNums l0).data.toList).toArray⟩ := by unfold input_Text.f; rw [if_pos (by rw [List.length_append]; simp; omega), e3]
        have v4 : input_Text.f l0 = some ⟨(inText (strOfNums l0).data.toList).toArray⟩ := by unfold input_Text.f; rw [if_pos (by omega)]
        refine Ev.step (f := fun _ => some true) (fun k => ?_) (Ev.now _)
        simp only [marginalialaw01_InputMark.j0, marginalialaw01_alive.f]
        rw [if_neg (by simp)]
        simp only [Option.bind_some, v1, v2, v3, v4]
        rw [if_pos (by show 3 + l0.length < _; omega), if_pos trivial, if_pos trivial]
        simp
  exact H.rounds
end Go.Proofs.YtckajljkdlejoaaDoor.Pure
