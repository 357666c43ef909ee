/- The row of the law marginalia/marginalialaw22.RecordEncode, out of its plain statement (Pure.RecordEncode) and of the contract that lies in YtdbiobaccihpfaaPAllx6. -/
import Derived.Test.YtdbiobaccihpfaaRows
import Derived.Test.YtdbiobaccihpfaaPAllx6
import Derived.Test.YtdbiobaccihpfaaPureRecordEncode
import Derived.Test.YtdbiobaccihpfaaRowOpen
import Derived.Test.YtdbiobaccihpfaaOpRecordEncode
import Derived.WalkKit
import Derived.ProofKit
import Derived.OpenShut
import Derived.ShutString
import Derived.ChangeOld
import Derived.Below
import Derived.SizedLaws
namespace Go.Proofs.Ytdbiobaccihpfaa.recordEncode
open Go.ChangeShapes Go.WideShapes Go.ChangeAt Go.RowKit Go.Proofs.Ytdbiobaccihpfaa.PAll Go.Proofs.YtdbiobaccihpfaaW.PrintWords Go.Proofs.Ytdbiobaccihpfaa.RowOpen Go.Proofs.Ytdbiobaccihpfaa.recordEncodeOp
open Go.ChangeMaps (open_string shut_string)
set_option linter.unusedVariables false
theorem own : ownKnob Try.prog.godebug = none := by kernel_rfl
theorem laidOut : laidOutB Try.prog = true := by kernel_rfl
set_option maxRecDepth 100000 in
theorem lifted (os : Os) (started : os.Started) (H : Type) (enc : TypeId × Value → H) :
    ReturnsInHanded {} Try.checked os 3 .any (Rows.recordEncodeSpec.pre6 enc Try.prog Try.f3 Rows.recordEncodeRow.domain false) (Rows.recordEncodeSpec.post enc Try.prog Try.f3 false true false false) := by
  refine returnsInHanded_of_change_sized (C := Try.checked) own started (by kernel_rfl) Try.func3
    (ChangeSpec.witness6 (enc := enc) (C := Try.checked) false ⟨#[], #[.agg #[.int .i64 0, .int .u64 0, .int .u64 0, .string ByteArray.empty]], []⟩ 8 (by kernel_rfl) (by kernel_rfl) (by kernel_rfl) (by kernel_rfl)) ?_
  intro W base args ds gs before hval0 hW hcnd hsz0 _
  have hsz : (DataW.weightsEach Try.prog (Try.f3.params.toList ++ Rows.recordEncodeSpec.plain.varTypes Try.prog) (ds ++ gs)).all (· ≤ reachBytes) = true := hsz0
  have hval : ∀ (j : Nat) t v, Try.f3.params[j]? = some t → args[j]? = some v → Value.okWide Try.prog W .any base t v := hval0
  have hW' := hW
  obtain ⟨p, q, hA0, hV, rfl, hfz, hnd⟩ := hW
  have hA : DataW.TrodAll enc Try.prog W 0 (fun _ => true) true Try.f3.params.toList args.toList ds p := hA0
  rw [Try.params3] at hA hval hsz
  obtain ⟨v0, vs0, d0, ds0, p0, q0, hargs, rfl, rfl, h0, r0⟩ := trodAll_cons hA
  obtain ⟨rfl, rfl, rfl⟩ := trodAll_nil r0
  obtain rfl : args = #[v0] := by cases args; simp_all
  obtain ⟨rfl, rfl⟩ := trodVars_none hV
  have k0_ := h0
  have lt0 : ∀ x ∈ p0, x.block < W.heap.size := by obtain ⟨m, hm⟩ := k0_; exact DataW.trod_lt m _ _ _ hm
  obtain ⟨fuel0, hf0⟩ := h0
  obtain ⟨x0, hK0, hg0⟩ := o25 H enc fuel0 W _ _ hf0
  obtain ⟨cs0, rfl, hz0⟩ := okWide_struct Try.underlying25 (hval 0 25 v0 rfl rfl)
  have he0 := k25_open hK0
  obtain rfl : cs0 = #[.int .i64 x0.f0, .int .u64 x0.f1, .int .u64 x0.f2, .string x0.f3] := by cases cs0; simpa [Value.cells] using he0
  clear hA0 hval0 hsz0 hsz
  obtain ⟨k, hk⟩ := Pure.RecordEncode x0 hg0
  refine (marginalialaw22_RecordEncode.calls k x0.f0 x0.f1 x0.f2 x0.f3 W hk).mono fun e W' ⟨he, bel⟩ => ?_
  subst he
  exact ⟨_, rfl, _, _, _, [], _, [], hW', trodAll_mk1 (shut_bool Try.underlying4 _), (trodAll_cons_mk (Below.trod laidOut (by kernel_rfl) (of_decide_eq_true (by kernel_rfl)) k0_ bel lt0) trodAll_mk0), rfl, bel.frame _, fun h => by cases h⟩
theorem over : Rows.recordEncodeRow.holds Try.pinned (OpenSpec.ofChange Rows.recordEncodeSpec) :=
  OpenClaim.holds_of_wide 3 Try.f3 rfl rfl rfl rfl rfl rfl rfl ⟨rfl, rfl, rfl, rfl, rfl⟩ rfl rfl rfl rfl rfl (by kernel_rfl) Try.func3 (by kernel_rfl)
    (of_decide_eq_true (by kernel_rfl)) (by unfold Func.isWrapper; first | (rw [if_pos (by decide +kernel)]; kernel_rfl) | (rw [if_neg (by decide +kernel)]; exact ⟨rfl, rfl⟩))
    (fun os started H enc _ => lifted os started H enc)
theorem proved : Rows.RecordEncodeSaid := over
#print axioms proved
end Go.Proofs.Ytdbiobaccihpfaa.recordEncode
namespace Go.Proofs.Ytdbiobaccihpfaa
/-- The row, under a short name, for the claim. -/
theorem recordEncode_holds : Rows.RecordEncodeSaid := recordEncode.proved
end Go.Proofs.Ytdbiobaccihpfaa
