/- The statement RecordEncode: any record is encoded, or refused, as the reference encodes or refuses it, and Check answers as the reference's does
   (more than 4200 bytes of text: the live question alone). No condition: every record. -/
import Derived.Test.YtdbiobaccihpfaaOpRecordEncode
import Derived.Test.YtdbiobaccihpfaaPAllx0
import Derived.Test.YtdbiobaccihpfaaPAllx6
import Derived.Test.YtdbiobaccihpfaaRecDec
namespace Go.Proofs.Ytdbiobaccihpfaa.Pure
open Go.RowKit Go.Proofs.Ytdbiobaccihpfaa.PAll Go.Proofs.YtdbiobaccihpfaaW.PrintWords Go.Proofs.YtdbiobaccihpfaaW.PrintLast Go.Proofs.YtdbiobaccihpfaaW.PrintMore
theorem RecordEncode : recordEncodeOp.Plain := by
  intro x0 hg
  obtain ⟨_, h1, h2, _⟩ := hg
  have b1 := Go.bounds_u64 h1
  have b2 := Go.bounds_u64 h2
  obtain ⟨x, hx⟩ : ∃ x : Nat, x0.f1 = (x : Int) := ⟨x0.f1.toNat, by omega⟩
  obtain ⟨y, hy⟩ : ∃ y : Nat, x0.f2 = (y : Int) := ⟨x0.f2.toNat, by omega⟩
  refine ⟨60, ?_⟩
  unfold marginalialaw22_RecordEncode.f
  by_cases hs : (x0.f3.size : Int) > 4200
  · rw [if_pos hs, alive_ok]; rfl
  · rw [if_neg hs, hx, hy, encode_is _ (by omega), Option.bind_some, refEncode_is _ (by omega), Option.bind_some, alive_ok, Option.bind_some, if_pos rfl, if_pos rfl, if_pos rfl, check_is, Option.bind_some, refCheck_is, Option.bind_some]
    simp
end Go.Proofs.Ytdbiobaccihpfaa.Pure
