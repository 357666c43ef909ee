-- Written by a program of this session (hprint.py: the kit's print over several laws at once, with functions proved by hand). Lean checks it.
import Derived.Test.YtobdmbebgdkelaaPAllx0
import Derived.Test.YtobdmbebgdkelaaPAllx5
namespace Go.Proofs.Ytobdmbebgdkelaa.PAll
open Go.RowKit Go.Proofs.YtobdmbebgdkelaaW.PrintWords Go.Proofs.YtobdmbebgdkelaaW.PrintLast Go.Proofs.YtobdmbebgdkelaaW.PrintMore
attribute [local go_sem] max2_int min2_int max_two min_two max_three min_three max_four min_four   -- for this text's walks alone
set_option linter.unusedVariables false
set_option linter.unusedSimpArgs false

-- EXT marginalia/opens.Cut ; rounds=1 ; making=1 ; uses=marginalia/opens.Has
/-! ### Cut: function 13 -/
def opens_Cut.f (k : Nat) (l0 : List (S35)) (l1 : List ByteArray) : Option (Int) := opens_last.f (fun k x => opens_named.p k l1 x) k l0
theorem opens_Cut.mono : ∀ a0 a1 k, LeO (opens_Cut.f k a0 a1) (opens_Cut.f (k + 1) a0 a1) := fun _ _ _ => opens_last.mono _ (fun _ _ => opens_named.mono _ _ _) _ _
set_option maxHeartbeats 8000000 in
set_option maxRecDepth 100000 in
theorem opens_Cut.calls (k : Nat) (A0 : Option Addr) (c0 : Nat) (l0 : List (S35)) (A1 : Option Addr) (c1 : Nat) (l1 : List ByteArray) (r : Int) (w : World) (hr0 : Kd.C k35 w A0 l0.length l0) (hc0 : l0.length ≤ c0) (hr1 : Kd.C Kd.string w A1 l1.length l1) (hc1 : l1.length ≤ c1) (h : opens_Cut.f k l0 l1 = some r) :
    Calls Try.prog 13 #[.slice A0 l0.length c0, .slice A1 l1.length c1] w fun e w' => e = .returned (.int .i64 r) ∧ Below w.heap.size w w' := by
  have hmf := opens_mf
  have hsf := fun (a : Addr) (n : Nat) (c : Array Value) (w : World) => run_store Try.prog w a (.func (.func n) #[] c) .plain rfl
  have hu35 := Try.underlying35
  have HB := Aside0.mk (Below.refl w.heap.size w)
  have HR0 := Aside0.mk hr0
  have HC0 := Aside0.mk hc0
  clear hr0 hc0
  have HR1 := Aside0.mk hr1
  have HC1 := Aside0.mk hc1
  clear hr1 hc1
  unfold opens_Cut.f at h
  have A3 := Aside0.mk h
  clear h
  go_enter Try.func13, Try.ntmps13
  go_wp2_with (first | (go_at_call 26; (with_reducible refine (opens_named.makes A1 c1 l1 _).mono ?_); rintro e w2 ⟨b1, rfl, hbx, hb⟩; have n0_ := Aside0.mk (below_step (by repeat (first | (with_reducible first | exact HB.out | apply below_alloc | apply pw_below_drewN | apply below_drew1) | exact HB.out)) hb); have n1_ := Aside0.mk hbx; clear HB; have HB := n0_; have HFN := n1_; clear n0_ n1_ hb hbx) | (go_at_call 27; (with_reducible refine (opens_last.named k A0 c0 l0 A1 c1 l1 b1 r _ ?side1 HC0.out ?side2 HC1.out HFN.out A3.out).mono ?_); (case side1 => exact Kd.C_below HR0.out HB.out); (case side2 => exact Kd.C_below HR1.out HB.out); rintro e w5 ⟨rfl, hb⟩; have n0_ := Aside0.mk (below_step (by repeat (first | (with_reducible first | exact HB.out | apply below_alloc | apply pw_below_drewN | apply below_drew1) | exact HB.out)) hb); clear HB; have HB := n0_; clear n0_; clear hb))
  go_ret
  exact ⟨by first | rfl | (simp; done) | (simp [*]; done), (by repeat (first | (with_reducible first | exact HB.out | apply below_alloc | apply pw_below_drewN | apply below_drew1) | exact HB.out))⟩


end Go.Proofs.Ytobdmbebgdkelaa.PAll
