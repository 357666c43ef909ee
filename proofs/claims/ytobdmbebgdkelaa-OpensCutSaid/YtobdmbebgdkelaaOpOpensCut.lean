import Derived.Test.YtobdmbebgdkelaaPAllx11
import Derived.Test.YtobdmbebgdkelaaRowOpen
namespace Go.Proofs.Ytobdmbebgdkelaa.opensCutOp
open Go.RowKit Go.Proofs.Ytobdmbebgdkelaa.PAll Go.Proofs.YtobdmbebgdkelaaW.PrintWords Go.Proofs.Ytobdmbebgdkelaa.RowOpen
def G35 (y : S35) : Prop := (Lit.int .i64 y.f0).wf = true ∧ (Lit.int .i64 y.f1).wf = true ∧ y.f2.size ≤ maxLen
theorem o35 : Opens Try.prog 35 k35 G35 := Opens.imp (opens_iso (f := fun x : S35 => (x.f0, x.f1, x.f2)) (fun x => (⟨x.1, x.2.1, x.2.2⟩ : S35)) (fun _ => rfl) (opens_struct Try.underlying35 (by kernel_rfl) (opensF_cons rfl (by kernel_rfl) (opens_int Try.underlying3) (opensF_cons rfl (by kernel_rfl) (opens_int Try.underlying33) (opensF_one rfl (by kernel_rfl) (opens_string Try.underlying9)))))) (fun y h => h)
structure S29 where
  f0 : ByteArray
  f1 : Int
def k29 : Kd S29 := Kd.iso (Kd.pair Kd.string (Kd.int .i64)) (fun x : S29 => (x.f0, x.f1))
theorem k29_open {w : World} {x : S29} {cs : List Value} (h : k29.K w x cs) : cs = [.string x.f0, .int .i64 x.f1] := by
  obtain ⟨_, _, rfl, rfl, rfl⟩ := h
  exact rfl
def G29 (y : S29) : Prop := y.f0.size ≤ maxLen ∧ (Lit.int .i64 y.f1).wf = true
theorem o29 : Opens Try.prog 29 k29 G29 := Opens.imp (opens_iso (f := fun x : S29 => (x.f0, x.f1)) (fun x => (⟨x.1, x.2⟩ : S29)) (fun _ => rfl) (opens_struct Try.underlying29 (by kernel_rfl) (opensF_cons rfl (by kernel_rfl) (opens_string Try.underlying9) (opensF_one rfl (by kernel_rfl) (opens_int Try.underlying3))))) (fun y h => h)
/-- The plain statement of the law marginalia/marginalialaw06.OpensCut. -/
def Plain : Prop := ∀ (l0 : List S35) (l1 : List ByteArray) (x2 : S29), (l0.length ≤ maxLen ∧ ∀ y2 ∈ l0, G35 y2) → (l1.length ≤ maxLen ∧ ∀ y2 ∈ l1, y2.size ≤ maxLen) → G29 x2 → ∃ k, marginalialaw06_OpensCut.f k l0 l1 x2.f0 x2.f1 = some true
end Go.Proofs.Ytobdmbebgdkelaa.opensCutOp
