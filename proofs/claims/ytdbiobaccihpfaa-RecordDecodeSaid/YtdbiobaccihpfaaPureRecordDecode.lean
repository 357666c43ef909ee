/- The statement RecordDecode: any bytes are decoded, or refused, as the reference decodes or refuses them (more than 4200 bytes: the live question alone).
   No condition: all bytes. -/
import Derived.Test.YtdbiobaccihpfaaPAllx0
import Derived.Test.YtdbiobaccihpfaaPAllx9
import Derived.Test.YtdbiobaccihpfaaRecDec
namespace Go.Proofs.Ytdbiobaccihpfaa.Pure
open Go.RowKit Go.Proofs.Ytdbiobaccihpfaa.PAll Go.Proofs.YtdbiobaccihpfaaW.PrintWords Go.Proofs.YtdbiobaccihpfaaW.PrintLast Go.Proofs.YtdbiobaccihpfaaW.PrintMore
theorem RecordDecode : marginalialaw22_RecordDecode.Pure := by
  intro l _ _ hw
  have hb := bytes_of hw
  refine ⟨60, ?_⟩
  unfold marginalialaw22_RecordDecode.f
  by_cases hs : (l.length : Int) > 4200
  · rw [if_pos hs, alive_ok]; rfl
  · rw [if_neg hs, decode_is _ (by omega) l hb (by omega), Option.bind_some, refDecode_is _ (by omega) l hb (by omega), Option.bind_some, alive_ok, Option.bind_some, if_pos rfl, if_pos (by simp)]
    simp
end Go.Proofs.Ytdbiobaccihpfaa.Pure
