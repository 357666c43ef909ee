-- Written by a program of this session (hprint.py: the kit's print over several laws at once, with functions proved by hand). Lean checks it.
import Derived.Test.YtobdmbebgdkelaaPAllx0
import Derived.Test.YtobdmbebgdkelaaPAllx5
namespace Go.Proofs.Ytobdmbebgdkelaa.PAll
open Go.RowKit Go.Proofs.YtobdmbebgdkelaaW.PrintWords Go.Proofs.YtobdmbebgdkelaaW.PrintLast Go.Proofs.YtobdmbebgdkelaaW.PrintMore
attribute [local go_sem] max2_int min2_int max_two min_two max_three min_three max_four min_four   -- for this text's walks alone
set_option linter.unusedVariables false
set_option linter.unusedSimpArgs false

-- EXT marginalia/opens.Find ; rounds=1 ; making=1 ; uses=marginalia/opens.Has
/-! ### Find: function 15 -/
def opens_Find.f (k : Nat) (l0 : List (S35)) (a1 : Int) : Option (Int) := opens_last.f (fun _ x => opens_found.p a1 x) k l0
theorem opens_Find.mono : ∀ a0 a1 k, LeO (opens_Find.f k a0 a1) (opens_Find.f (k + 1) a0 a1) := fun _ _ _ => opens_last.mono _ (fun _ _ => LeO.refl _) _ _
set_option maxHeartbeats 8000000 in
set_option maxRecDepth 100000 in
theorem opens_Find.calls (k : Nat) (A0 : Option Addr) (c0 : Nat) (l0 : List (S35)) (a1 : Int) (r : Int) (w : World) (hr0 : Kd.C k35 w A0 l0.length l0) (hc0 : l0.length ≤ c0) (h : opens_Find.f k l0 a1 = some r) :
    Calls Try.prog 15 #[.slice A0 l0.length c0, .int .i64 a1] w fun e w' => e = .returned (.int .i64 r) ∧ Below w.heap.size w w' := by
  have hmf := opens_mf
  have hsf := fun (a : Addr) (n : Nat) (c : Array Value) (w : World) => run_store Try.prog w a (.func (.func n) #[] c) .plain rfl
  have hu35 := Try.underlying35
  have HB := Aside0.mk (Below.refl w.heap.size w)
  have HR0 := Aside0.mk hr0
  have HC0 := Aside0.mk hc0
  clear hr0 hc0
  unfold opens_Find.f at h
  have A3 := Aside0.mk h
  clear h
  go_enter Try.func15, Try.ntmps15
  go_wp2_with (first | ((with_reducible refine gate_dst (N := 3) rfl ?_); refine box_event ?hg (N := 3) ?hd (cs := #[.int .i64 a1]) (t := 3) ?hr ?_; (case hd => rfl); (case hg => rfl); (case hr => first | (go_simp; done) | (go_simp; rfl)); intro g3 hg w1 hbox hb; have n0_ := Aside0.mk (below_step (by repeat (first | (with_reducible first | exact HB.out | apply below_alloc | apply pw_below_drewN | apply below_drew1) | exact HB.out)) hb); have n1_ := Aside0.mk (hbox); have n2_ := Aside0.mk ((by rw [hg]; exact (below_size (by repeat (first | (with_reducible first | exact HB.out | apply below_alloc | apply pw_below_drewN | apply below_drew1) | exact HB.out)))) : w.heap.size ≤ g3); clear HB; have HB := n0_; have BKg3 := n1_; have GEg3 := n2_; clear n0_ n1_ n2_; clear hb hbox hg; have hczg3_0 : w1.cell? ⟨g3, 0, none⟩ = some (.int .i64 a1) := (blk_cell BKg3.out 0).trans rfl; have hfzg3_0 := blk_frozen BKg3.out 0) | (go_at_call 27; (with_reducible refine (opens_last.found k A0 c0 l0 a1 g3 r _ ?side1 HC0.out BKg3.out A3.out).mono ?_); (case side1 => exact Kd.C_below HR0.out HB.out); rintro e w5 ⟨rfl, hb⟩; have n0_ := Aside0.mk (below_step (by repeat (first | (with_reducible first | exact HB.out | apply below_alloc | apply pw_below_drewN | apply below_drew1) | exact HB.out)) hb); clear HB; have HB := n0_; clear n0_; clear hb))
  go_ret
  exact ⟨by first | rfl | (simp; done) | (simp [*]; done), (by repeat (first | (with_reducible first | exact HB.out | apply below_alloc | apply pw_below_drewN | apply below_drew1) | exact HB.out))⟩


end Go.Proofs.Ytobdmbebgdkelaa.PAll
