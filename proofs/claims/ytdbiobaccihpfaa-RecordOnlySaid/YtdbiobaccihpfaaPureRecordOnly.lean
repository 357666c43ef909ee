/- The statement RecordOnly: bytes that are a record's are what it is encoded as, and it may be; others tell the error of the form and no record
   (more than 4200 bytes: the live question alone). No condition: all bytes. -/
import Derived.Test.YtdbiobaccihpfaaPAllx0
import Derived.Test.YtdbiobaccihpfaaPAllx5
import Derived.Test.YtdbiobaccihpfaaPAllx9
import Derived.Test.YtdbiobaccihpfaaRecDec
namespace Go.Proofs.Ytdbiobaccihpfaa.Pure
open Go.RowKit Go.Proofs.Ytdbiobaccihpfaa.PAll Go.Proofs.YtdbiobaccihpfaaW.PrintWords Go.Proofs.YtdbiobaccihpfaaW.PrintLast Go.Proofs.YtdbiobaccihpfaaW.PrintMore
theorem RecordOnly : marginalialaw22_RecordOnly.Pure := by
  intro l _ _ hw
  have hb := bytes_of hw
  refine ⟨60, ?_⟩
  unfold marginalialaw22_RecordOnly.f
  have fails : (if (failD.2.2.2.2 = 0) then (none : Option Bool) else ((marginalialaw22_alive.f 60).bind fun t => if t = true then (if failD.2.2.2.2 = 8 then (some (failD.1 == 0 && (failD.2.1 == 0 && (failD.2.2.1 == 0 && (failD.2.2.2.1.toList == ([] : List UInt8)))))) else some false) else some false)) = some true := by
    rw [alive_ok]
    decide +kernel
  by_cases hs : (l.length : Int) > 4200
  · rw [if_pos hs, alive_ok]; rfl
  · rw [if_neg hs, decode_is _ (by omega) l hb (by omega), Option.bind_some]
    unfold decL
    by_cases h19 : l.length < 19
    · rw [if_pos h19]
      exact fails
    · rw [if_neg h19]
      by_cases hv : valN ((l.take 19).drop 17) = l.length - 19
      · have e2 : ¬ (valN ((l.take 19).drop 17) ≠ l.length - 19) := fun q => q hv
        rw [if_neg e2]
        by_cases hc : chk (rd l 0) (valN ((l.take 9).drop 1)) (valN ((l.take 17).drop 9)) (l.length - 19) = 0
        · have hz : (strOfNums (l.drop 19)).size = l.length - 19 := by rw [strOfNums_size, List.length_drop]
          rw [if_pos hc]
          simp only
          rw [if_pos trivial, encode_is _ (by omega), Option.bind_some, hz, hc, if_pos rfl, alive_ok, Option.bind_some]
          simp only [reduceIte]
          rw [(encL_eq l (by omega) hb (by omega)).2 hv, if_pos rfl, check_is, Option.bind_some, hz, hc]
          rfl
        · rw [if_neg hc]
          exact fails
      · rw [if_pos hv]
        exact fails
end Go.Proofs.Ytdbiobaccihpfaa.Pure
