import Derived.Test.YtdbiobaccihpfaaPAllx9
import Derived.Test.YtdbiobaccihpfaaRowOpen
namespace Go.Proofs.Ytdbiobaccihpfaa.recordBackOp
open Go.RowKit Go.Proofs.Ytdbiobaccihpfaa.PAll Go.Proofs.YtdbiobaccihpfaaW.PrintWords Go.Proofs.Ytdbiobaccihpfaa.RowOpen
def G25 (y : S25) : Prop := (Lit.int .i64 y.f0).wf = true ∧ (Lit.int .u64 y.f1).wf = true ∧ (Lit.int .u64 y.f2).wf = true ∧ y.f3.size ≤ maxLen
theorem o25 : Opens Try.prog 25 k25 G25 := Opens.imp (opens_iso (f := fun x : S25 => (x.f0, x.f1, x.f2, x.f3)) (fun x => (⟨x.1, x.2.1, x.2.2.1, x.2.2.2⟩ : S25)) (fun _ => rfl) (opens_struct Try.underlying25 (by kernel_rfl) (opensF_cons rfl (by kernel_rfl) (opens_int Try.underlying22) (opensF_cons rfl (by kernel_rfl) (opens_int Try.underlying23) (opensF_cons rfl (by kernel_rfl) (opens_int Try.underlying23) (opensF_one rfl (by kernel_rfl) (opens_string Try.underlying9))))))) (fun y h => h)
/-- The plain statement of the law marginalia/marginalialaw22.RecordBack. -/
def Plain : Prop := ∀ (x0 : S25) (a1 : Int), G25 x0 → (Lit.int .i64 a1).wf = true → ∃ k, marginalialaw22_RecordBack.f k x0.f0 x0.f1 x0.f2 x0.f3 a1 = some true
end Go.Proofs.Ytdbiobaccihpfaa.recordBackOp
