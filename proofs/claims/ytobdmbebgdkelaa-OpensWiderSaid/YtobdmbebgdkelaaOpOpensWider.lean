import Derived.Test.YtobdmbebgdkelaaPAllx12
import Derived.Test.YtobdmbebgdkelaaRowOpen
namespace Go.Proofs.Ytobdmbebgdkelaa.opensWiderOp
open Go.RowKit Go.Proofs.Ytobdmbebgdkelaa.PAll Go.Proofs.YtobdmbebgdkelaaW.PrintWords Go.Proofs.Ytobdmbebgdkelaa.RowOpen
def G35 (y : S35) : Prop := (Lit.int .i64 y.f0).wf = true ∧ (Lit.int .i64 y.f1).wf = true ∧ y.f2.size ≤ maxLen
theorem o35 : Opens Try.prog 35 k35 G35 := Opens.imp (opens_iso (f := fun x : S35 => (x.f0, x.f1, x.f2)) (fun x => (⟨x.1, x.2.1, x.2.2⟩ : S35)) (fun _ => rfl) (opens_struct Try.underlying35 (by kernel_rfl) (opensF_cons rfl (by kernel_rfl) (opens_int Try.underlying3) (opensF_cons rfl (by kernel_rfl) (opens_int Try.underlying33) (opensF_one rfl (by kernel_rfl) (opens_string Try.underlying9)))))) (fun y h => h)
/-- The plain statement of the law marginalia/marginalialaw06.OpensWider. -/
def Plain : Prop := ∀ (l0 : List S35) (l1 : List ByteArray), (l0.length ≤ maxLen ∧ ∀ y2 ∈ l0, G35 y2) → (l1.length ≤ maxLen ∧ ∀ y2 ∈ l1, y2.size ≤ maxLen) → ∃ k, marginalialaw06_OpensWider.f k l0 l1 = some true
end Go.Proofs.Ytobdmbebgdkelaa.opensWiderOp
