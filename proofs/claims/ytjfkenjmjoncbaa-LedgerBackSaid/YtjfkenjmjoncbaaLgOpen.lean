import Derived.Test.YtjfkenjmjoncbaaPAllx0
import Derived.Test.YtjfkenjmjoncbaaLgPlay
import Derived.Test.YtjfkenjmjoncbaaRowOpen
namespace Go.Proofs.Ytjfkenjmjoncbaa.Lg
open Go Go.Maps Go.WideShapes Go.RowKit Go.Proofs.Ytjfkenjmjoncbaa.PAll Go.Proofs.YtjfkenjmjoncbaaW.PrintWords Go.Proofs.Ytjfkenjmjoncbaa.RowOpen
/-! What the rows' arguments are. -/
def GRC (y : RC) : Prop := (Lit.int .i64 y.kind).wf = true ∧ (Lit.int .u64 y.id).wf = true ∧ (Lit.int .u64 y.ver).wf = true ∧ y.text.size ≤ maxLen
theorem oRC : Opens Try.prog 26 kRC GRC := Opens.imp (opens_iso (f := fun x : RC => (x.kind, x.id, x.ver, x.text)) (fun x => (⟨x.1, x.2.1, x.2.2.1, x.2.2.2⟩ : RC)) (fun _ => rfl) (opens_struct Try.underlying26 (by kernel_rfl) (opensF_cons rfl (by kernel_rfl) (opens_int Try.underlying23) (opensF_cons rfl (by kernel_rfl) (opens_int Try.underlying24) (opensF_cons rfl (by kernel_rfl) (opens_int Try.underlying24) (opensF_one rfl (by kernel_rfl) (opens_string Try.underlying9))))))) (fun y h => h)
def G52 (y : S52) : Prop := (Lit.int .u64 y.f0).wf = true ∧ y.f1.length ≤ maxLen ∧ ∀ b ∈ y.f1, (Lit.int .u8 b).wf = true
theorem o52 : Opens Try.prog 52 k52 G52 := Opens.imp (opens_iso (f := fun x : S52 => (x.f0, x.f1)) (fun x => (⟨x.1, x.2⟩ : S52)) (fun _ => rfl) (opens_struct Try.underlying52 (by kernel_rfl) (opensF_cons rfl (by kernel_rfl) (opens_int Try.underlying24) (opensF_one rfl (by kernel_rfl) (opens_slice Try.underlying50 (by kernel_rfl) (opens_int Try.underlying5)))))) (fun y h => h)
theorem u64_of {x : Int} (h : (Lit.int .u64 x).wf = true) : 0 ≤ x ∧ x ≤ 18446744073709551615 := by
  have e1 : IntKind.u64.min = 0 := by decide
  have e2 : IntKind.u64.max = 18446744073709551615 := by decide
  simpa [Lit.wf, e1, e2] using h
theorem GRC.wf {y : RC} (h : GRC y) : y.Wf := ⟨h.1, u64_of h.2.1, u64_of h.2.2.1⟩
end Go.Proofs.Ytjfkenjmjoncbaa.Lg
