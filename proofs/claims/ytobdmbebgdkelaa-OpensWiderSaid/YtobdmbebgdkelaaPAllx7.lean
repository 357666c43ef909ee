-- Written by a program of this session (hprint.py: the kit's print over several laws at once, with functions proved by hand). Lean checks it.
import Derived.Test.YtobdmbebgdkelaaPAllx0
import Derived.Test.YtobdmbebgdkelaaPAllx5
namespace Go.Proofs.Ytobdmbebgdkelaa.PAll
open Go.RowKit Go.Proofs.YtobdmbebgdkelaaW.PrintWords Go.Proofs.YtobdmbebgdkelaaW.PrintLast Go.Proofs.YtobdmbebgdkelaaW.PrintMore
attribute [local go_sem] max2_int min2_int max_two min_two max_three min_three max_four min_four   -- for this text's walks alone
set_option linter.unusedVariables false
set_option linter.unusedSimpArgs false

-- EXT marginalia/opens.Implied ; rounds=1 ; making=1 ; uses=marginalia/opens.Has
/-! ### Implied: function 14 -/
def opens_Implied.f (k : Nat) (l0 : List (S35)) (a1 : ByteArray) : Option (Int) := (opens_last.f (fun k x => opens_stays.p k a1 x) k l0).bind fun t => some (wrap64 (1 + t))
theorem opens_Implied.mono : ∀ a0 a1 k, LeO (opens_Implied.f k a0 a1) (opens_Implied.f (k + 1) a0 a1) := fun _ _ _ => LeO.bind (opens_last.mono _ (fun _ _ => opens_stays.mono _ _ _) _ _) (fun _ => LeO.refl _)
set_option maxHeartbeats 8000000 in
set_option maxRecDepth 100000 in
theorem opens_Implied.calls (k : Nat) (A0 : Option Addr) (c0 : Nat) (l0 : List (S35)) (a1 : ByteArray) (r : Int) (w : World) (hr0 : Kd.C k35 w A0 l0.length l0) (hc0 : l0.length ≤ c0) (h : opens_Implied.f k l0 a1 = some r) :
    Calls Try.prog 14 #[.slice A0 l0.length c0, .string a1] w fun e w' => e = .returned (.int .i64 r) ∧ Below w.heap.size w w' := by
  have hmf := opens_mf
  have hsf := fun (a : Addr) (n : Nat) (c : Array Value) (w : World) => run_store Try.prog w a (.func (.func n) #[] c) .plain rfl
  have hu35 := Try.underlying35
  have HB := Aside0.mk (Below.refl w.heap.size w)
  have HR0 := Aside0.mk hr0
  have HC0 := Aside0.mk hc0
  clear hr0 hc0
  obtain ⟨t1, A30, h⟩ := Option.bind_eq_some_iff.mp h
  have A3 := Aside0.mk A30
  clear A30
  obtain rfl := Option.some.inj h
  go_enter Try.func14, Try.ntmps14
  go_wp2_with (first | ((with_reducible refine gate_dst (N := 3) rfl ?_); refine box_event ?hg (N := 3) ?hd (cs := #[.string a1]) (t := 9) ?hr ?_; (case hd => rfl); (case hg => rfl); (case hr => first | (go_simp; done) | (go_simp; rfl)); intro g3 hg w1 hbox hb; have n0_ := Aside0.mk (below_step (by repeat (first | (with_reducible first | exact HB.out | apply below_alloc | apply pw_below_drewN | apply below_drew1) | exact HB.out)) hb); have n1_ := Aside0.mk (hbox); have n2_ := Aside0.mk ((by rw [hg]; exact (below_size (by repeat (first | (with_reducible first | exact HB.out | apply below_alloc | apply pw_below_drewN | apply below_drew1) | exact HB.out)))) : w.heap.size ≤ g3); clear HB; have HB := n0_; have BKg3 := n1_; have GEg3 := n2_; clear n0_ n1_ n2_; clear hb hbox hg; have hczg3_0 : w1.cell? ⟨g3, 0, none⟩ = some (.string a1) := (blk_cell BKg3.out 0).trans rfl; have hfzg3_0 := blk_frozen BKg3.out 0) | ((with_reducible refine gate_dst (N := 5) rfl ?_); refine box_event ?hg (N := 5) ?hd (cs := #[.nilFunc]) (t := 42) ?hr ?_; (case hd => rfl); (case hg => rfl); (case hr => first | (go_simp; done) | (go_simp; rfl)); intro g5 hg w3 hbox hb; have n0_ := Aside0.mk (below_step (by repeat (first | (with_reducible first | exact HB.out | apply below_alloc | apply pw_below_drewN | apply below_drew1) | exact HB.out)) hb); have n1_ := Aside0.mk (hbox); have n2_ := Aside0.mk ((by rw [hg]; exact (below_size (by repeat (first | (with_reducible first | exact HB.out | apply below_alloc | apply pw_below_drewN | apply below_drew1) | exact HB.out)))) : w.heap.size ≤ g5); have k0_ := Aside0.mk (blk_below (g := g3) (o := .cells #[.string a1] 9 (0, 0)) (by (with_reducible repeat (first | refine blk_drewN ?_ _ | refine blk_drew ?_ | refine blk_alloc ?_ _)); exact BKg3.out) hb); clear HB; have HB := n0_; have BKg5 := n1_; have GEg5 := n2_; clear n0_ n1_ n2_; clear hb hbox hg; clear BKg3; have BKg3 := k0_; clear k0_; have hczg5_0 : w3.cell? ⟨g5, 0, none⟩ = some (.nilFunc) := (blk_cell BKg5.out 0).trans rfl; have hfzg5_0 := blk_frozen BKg5.out 0; have hczg5BKg3_0 : w3.cell? ⟨g3, 0, none⟩ = some (.string a1) := (blk_cell BKg3.out 0).trans rfl; have hfzg5BKg3_0 := blk_frozen BKg3.out 0) | ((with_reducible refine gate_store (t := 42) (p := 5) rfl ?_); refine store_event (t := 42) (p := 5) (v := ?vo_) (w1 := w3.setCell ⟨g5, 0, none⟩ (.func (.func 30) #[] #[.pointer (some ⟨g3, 0, none⟩)])) ?hg ?ho ?hn ?hr ?_; (case ho => rfl); (case hg => rfl); (case hn => rfl); (case hr => first | (go_simp; done) | (go_simp; rfl) | (go_simp; rw [opens_sf _ _ _ _ _ (by assumption) (by assumption)]; done)); intro w4 hw; have n0_ := Aside0.mk ((by rw [hw]; exact below_set HB.out GEg5.out) : Below w.heap.size w w4); have n1_ := Aside0.mk ((by rw [hw]; exact blk_put BKg5.out 0 _ rfl) : w4.heap[g5]? = some (.cells #[.func (.func 30) #[] #[.pointer (some ⟨g3, 0, none⟩)]] 42 (0, 0))); have k0_ := Aside0.mk ((by rw [hw]; exact blk_far BKg3.out (blk_ne BKg3.out BKg5.out (by decide)) _) : w4.heap[g3]? = some (.cells #[.string a1] 9 (0, 0))); clear hw; clear HB BKg5; have HB := n0_; have BKg5 := n1_; clear n0_ n1_; clear BKg3; have BKg3 := k0_; clear k0_; have hczw4g5_0 : w4.cell? ⟨g5, 0, none⟩ = some (.func (.func 30) #[] #[.pointer (some ⟨g3, 0, none⟩)]) := (blk_cell BKg5.out 0).trans rfl; have hfzw4g5_0 := blk_frozen BKg5.out 0; have hczw4BKg3_0 : w4.cell? ⟨g3, 0, none⟩ = some (.string a1) := (blk_cell BKg3.out 0).trans rfl; have hfzw4BKg3_0 := blk_frozen BKg3.out 0) | (go_at_call 27; (with_reducible refine (opens_last.stays k A0 c0 l0 a1 g3 g5 t1 _ ?side1 HC0.out BKg3.out BKg5.out A3.out).mono ?_); (case side1 => exact Kd.C_below HR0.out HB.out); rintro e w5 ⟨rfl, hb⟩; have n0_ := Aside0.mk (below_step (by repeat (first | (with_reducible first | exact HB.out | apply below_alloc | apply pw_below_drewN | apply below_drew1) | exact HB.out)) hb); clear HB; have HB := n0_; clear n0_; clear hb))
  go_ret
  exact ⟨by first | rfl | (simp; done) | (simp [*]; done), (by repeat (first | (with_reducible first | exact HB.out | apply below_alloc | apply pw_below_drewN | apply below_drew1) | exact HB.out))⟩


end Go.Proofs.Ytobdmbebgdkelaa.PAll
