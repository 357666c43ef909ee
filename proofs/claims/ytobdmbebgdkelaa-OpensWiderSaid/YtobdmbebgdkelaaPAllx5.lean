-- Written by a program of this session (hprint.py: the kit's print over several laws at once, with functions proved by hand). Lean checks it.
import Derived.Test.YtobdmbebgdkelaaPAllx0
import Derived.Test.YtobdmbebgdkelaaPAllx3
import Derived.Test.YtobdmbebgdkelaaPAllx4
namespace Go.Proofs.Ytobdmbebgdkelaa.PAll
open Go.RowKit Go.Proofs.YtobdmbebgdkelaaW.PrintWords Go.Proofs.YtobdmbebgdkelaaW.PrintLast Go.Proofs.YtobdmbebgdkelaaW.PrintMore
attribute [local go_sem] max2_int min2_int max_two min_two max_three min_three max_four min_four   -- for this text's walks alone
set_option linter.unusedVariables false
set_option linter.unusedSimpArgs false

-- EXT marginalia/opens.Has ; rounds=1 ; making=1 ; uses=slices.Contains[[]string,string]|marginalia/opens.Ends|marginalia/kind.Is
/-! ### the closures of package opens -/
def opens_named.p (k : Nat) (l1 : List ByteArray) (x : S35) : Option Bool := if x.f1 = 0 then slices_Contains_string_string.f k l1 x.f2 else some false
def opens_goes.p (k : Nat) (ex : ByteArray) (x : S35) : Option Bool := if x.f1 = 0 then (if x.f2.toList = ex.toList then some false else kind_Is.f k 8 x.f2) else some false
def opens_stays.p (k : Nat) (ex : ByteArray) (x : S35) : Option Bool := (opens_goes.p k ex x).bind fun b => some (!b)
def opens_stop.p (k : Nat) (l1 : List ByteArray) (sc : Int) (x : S35) : Option Bool := (opens_named.p k l1 x).bind fun b => if b = true then some true else opens_Ends.f k x.f0 x.f1 x.f2 sc
def opens_found.p (id : Int) (x : S35) : Option Bool := some (x.f0 == id)
theorem opens_mf : ∀ (fn : Fn) (first cap : Array Value) (w : World), (Instr.makeFunc fn first cap).run Try.prog w = .ok (.func fn first cap) w := fun _ _ _ _ => rfl
theorem opens_sf : ∀ (a : Addr) (n : Nat) (c : Array Value) (w : World) (u : Value), w.cell? a = some u → w.frozen? a = false → (store a (.func (.func n) #[] c)).run Try.prog w = .ok () (w.setCell a (.func (.func n) #[] c)) := fun a n c w u h1 h2 => by
  rw [run_store Try.prog w a (.func (.func n) #[] c) .plain rfl, h1]
  simp [h2]

set_option maxHeartbeats 8000000 in
set_option maxRecDepth 100000 in
theorem opens_named.one (k : Nat) (A1 : Option Addr) (c1 : Nat) (l1 : List ByteArray) (b1 : Nat) (x : S35) (r : Bool) (w : World) (hr1 : Kd.C Kd.string w A1 l1.length l1) (hc1 : l1.length ≤ c1) (hf1 : w.heap[b1]? = some (.cells #[.slice A1 l1.length c1] 23 (0, 0))) (h : opens_named.p k l1 x = some r) :
    Calls Try.prog 45 #[.agg #[.int .i64 x.f0, .int .i64 x.f1, .string x.f2], .pointer (some ⟨b1, 0, none⟩)] w fun e w' => e = .returned (.bool r) ∧ Below w.heap.size w w' := by
  have hu35 := Try.underlying35
  have hmf := opens_mf
  have HB := Aside0.mk (Below.refl w.heap.size w)
  have HR1 := Aside0.mk hr1
  have HC1 := Aside0.mk hc1
  have HF := Aside0.mk hf1
  clear hr1 hc1 hf1
  unfold opens_named.p at h
  by_cases c2 : x.f1 = 0
  · rw [if_pos c2] at h
    have c2b0 : (x.f1 == 0) = true := beq_iff_eq.mpr c2
    have A3 := Aside0.mk h
    clear h c2
    go_enter Try.func45, Try.ntmps45
    go_wp2_with (first | ((with_reducible refine gate_dst (N := 2) rfl ?_); refine box_event ?hg (N := 2) ?hd (cs := #[.int .i64 x.f0, .int .i64 x.f1, .string x.f2]) (t := 35) ?hr ?_; (case hd => rfl); (case hg => rfl); (case hr => first | (go_simp; done) | (go_simp; rfl)); intro gb hg w1 hbox hb; have n0_ := Aside0.mk (below_step (by repeat (first | (with_reducible first | exact HB.out | apply below_alloc | apply pw_below_drewN | apply below_drew1) | exact HB.out)) hb); have n1_ := Aside0.mk (hbox); have n2_ := Aside0.mk ((by rw [hg]; exact (below_size (by repeat (first | (with_reducible first | exact HB.out | apply below_alloc | apply pw_below_drewN | apply below_drew1) | exact HB.out)))) : w.heap.size ≤ gb); have k0_ := Aside0.mk (blk_below (g := b1) (o := .cells #[.slice A1 l1.length c1] 23 (0, 0)) (by (with_reducible repeat (first | refine blk_drewN ?_ _ | refine blk_drew ?_ | refine blk_alloc ?_ _)); exact HF.out) hb); clear HB; have HB := n0_; have BKgb := n1_; have GEgb := n2_; clear n0_ n1_ n2_; clear hb hbox hg; clear HF; have HF := k0_; clear k0_; have hczgb_0 : w1.cell? ⟨gb, 0, none⟩ = some (.int .i64 x.f0) := (blk_cell BKgb.out 0).trans rfl; have hfzgb_0 := blk_frozen BKgb.out 0; have hczgb_1 : w1.cell? ⟨gb, 1, none⟩ = some (.int .i64 x.f1) := (blk_cell BKgb.out 1).trans rfl; have hfzgb_1 := blk_frozen BKgb.out 1; have hczgb_2 : w1.cell? ⟨gb, 2, none⟩ = some (.string x.f2) := (blk_cell BKgb.out 2).trans rfl; have hfzgb_2 := blk_frozen BKgb.out 2; have hczgbHF_0 : w1.cell? ⟨b1, 0, none⟩ = some (.slice A1 l1.length c1) := (blk_cell HF.out 0).trans rfl; have hfzgbHF_0 := blk_frozen HF.out 0) | (go_at_call 46; (with_reducible refine (slices_Contains_string_string.calls k _ _ l1 x.f2 r _ ?side1 ?side2 A3.out).mono ?_); (case side1 => first | exact Kd.C_below HR1.out HB.out | exact HR1.out); (case side2 => exact HC1.out); rintro e wz ⟨rfl, ⟨nd, rfl⟩⟩))
    go_ret
    exact ⟨by first | rfl | (simp; done) | (simp [*]; done), (by repeat (first | (with_reducible first | exact HB.out | apply below_alloc | apply pw_below_drewN | apply below_drew1) | exact HB.out))⟩
  · rw [if_neg c2] at h
    have c2b0 : (x.f1 == 0) = false := beq_eq_false_iff_ne.mpr c2
    clear c2
    obtain rfl := Option.some.inj h
    go_enter Try.func45, Try.ntmps45
    go_wp2_with (first | ((with_reducible refine gate_dst (N := 2) rfl ?_); refine box_event ?hg (N := 2) ?hd (cs := #[.int .i64 x.f0, .int .i64 x.f1, .string x.f2]) (t := 35) ?hr ?_; (case hd => rfl); (case hg => rfl); (case hr => first | (go_simp; done) | (go_simp; rfl)); intro gb hg w1 hbox hb; have n0_ := Aside0.mk (below_step (by repeat (first | (with_reducible first | exact HB.out | apply below_alloc | apply pw_below_drewN | apply below_drew1) | exact HB.out)) hb); have n1_ := Aside0.mk (hbox); have n2_ := Aside0.mk ((by rw [hg]; exact (below_size (by repeat (first | (with_reducible first | exact HB.out | apply below_alloc | apply pw_below_drewN | apply below_drew1) | exact HB.out)))) : w.heap.size ≤ gb); have k0_ := Aside0.mk (blk_below (g := b1) (o := .cells #[.slice A1 l1.length c1] 23 (0, 0)) (by (with_reducible repeat (first | refine blk_drewN ?_ _ | refine blk_drew ?_ | refine blk_alloc ?_ _)); exact HF.out) hb); clear HB; have HB := n0_; have BKgb := n1_; have GEgb := n2_; clear n0_ n1_ n2_; clear hb hbox hg; clear HF; have HF := k0_; clear k0_; have hczgb_0 : w1.cell? ⟨gb, 0, none⟩ = some (.int .i64 x.f0) := (blk_cell BKgb.out 0).trans rfl; have hfzgb_0 := blk_frozen BKgb.out 0; have hczgb_1 : w1.cell? ⟨gb, 1, none⟩ = some (.int .i64 x.f1) := (blk_cell BKgb.out 1).trans rfl; have hfzgb_1 := blk_frozen BKgb.out 1; have hczgb_2 : w1.cell? ⟨gb, 2, none⟩ = some (.string x.f2) := (blk_cell BKgb.out 2).trans rfl; have hfzgb_2 := blk_frozen BKgb.out 2; have hczgbHF_0 : w1.cell? ⟨b1, 0, none⟩ = some (.slice A1 l1.length c1) := (blk_cell HF.out 0).trans rfl; have hfzgbHF_0 := blk_frozen HF.out 0))
    go_ret
    exact ⟨by first | rfl | (simp; done) | (simp [*]; done), (by repeat (first | (with_reducible first | exact HB.out | apply below_alloc | apply pw_below_drewN | apply below_drew1) | exact HB.out))⟩

set_option maxHeartbeats 8000000 in
set_option maxRecDepth 100000 in
theorem opens_stop.one (k : Nat) (A1 : Option Addr) (c1 : Nat) (l1 : List ByteArray) (b1 : Nat) (b2 b3 : Nat) (sc : Int) (x : S35) (r : Bool) (w : World) (hr1 : Kd.C Kd.string w A1 l1.length l1) (hc1 : l1.length ≤ c1) (hf1 : w.heap[b1]? = some (.cells #[.slice A1 l1.length c1] 23 (0, 0))) (hf2 : w.heap[b2]? = some (.cells #[.func (.func 45) #[] #[.pointer (some ⟨b1, 0, none⟩)]] 42 (0, 0))) (hf3 : w.heap[b3]? = some (.cells #[.int .i64 sc] 24 (0, 0))) (h : opens_stop.p k l1 sc x = some r) :
    Calls Try.prog 28 #[.agg #[.int .i64 x.f0, .int .i64 x.f1, .string x.f2], .pointer (some ⟨b2, 0, none⟩), .pointer (some ⟨b3, 0, none⟩)] w fun e w' => e = .returned (.bool r) ∧ Below w.heap.size w w' := by
  have hu35 := Try.underlying35
  have hmf := opens_mf
  have HB := Aside0.mk (Below.refl w.heap.size w)
  have HR1 := Aside0.mk hr1
  have HC1 := Aside0.mk hc1
  have HF := Aside0.mk hf1
  clear hr1 hc1 hf1
  have HG := Aside0.mk hf2
  have HS := Aside0.mk hf3
  clear hf2 hf3
  unfold opens_stop.p at h
  obtain ⟨t1, A30, h⟩ := Option.bind_eq_some_iff.mp h
  have A3 := Aside0.mk A30
  clear A30
  by_cases c2 : t1 = true
  · subst c2
    rw [if_pos rfl] at h
    obtain rfl := Option.some.inj h
    go_enter Try.func28, Try.ntmps28
    go_wp2_with (first | ((with_reducible refine gate_dst (N := 3) rfl ?_); refine box_event ?hg (N := 3) ?hd (cs := #[.int .i64 x.f0, .int .i64 x.f1, .string x.f2]) (t := 35) ?hr ?_; (case hd => rfl); (case hg => rfl); (case hr => first | (go_simp; done) | (go_simp; rfl)); intro gb hg w1 hbox hb; have n0_ := Aside0.mk (below_step (by repeat (first | (with_reducible first | exact HB.out | apply below_alloc | apply pw_below_drewN | apply below_drew1) | exact HB.out)) hb); have n1_ := Aside0.mk (hbox); have n2_ := Aside0.mk ((by rw [hg]; exact (below_size (by repeat (first | (with_reducible first | exact HB.out | apply below_alloc | apply pw_below_drewN | apply below_drew1) | exact HB.out)))) : w.heap.size ≤ gb); have k0_ := Aside0.mk (blk_below (g := b1) (o := .cells #[.slice A1 l1.length c1] 23 (0, 0)) (by (with_reducible repeat (first | refine blk_drewN ?_ _ | refine blk_drew ?_ | refine blk_alloc ?_ _)); exact HF.out) hb); have k1_ := Aside0.mk (blk_below (g := b2) (o := .cells #[.func (.func 45) #[] #[.pointer (some ⟨b1, 0, none⟩)]] 42 (0, 0)) (by (with_reducible repeat (first | refine blk_drewN ?_ _ | refine blk_drew ?_ | refine blk_alloc ?_ _)); exact HG.out) hb); have k2_ := Aside0.mk (blk_below (g := b3) (o := .cells #[.int .i64 sc] 24 (0, 0)) (by (with_reducible repeat (first | refine blk_drewN ?_ _ | refine blk_drew ?_ | refine blk_alloc ?_ _)); exact HS.out) hb); clear HB; have HB := n0_; have BKgb := n1_; have GEgb := n2_; clear n0_ n1_ n2_; clear hb hbox hg; clear HF; have HF := k0_; clear k0_; clear HG; have HG := k1_; clear k1_; clear HS; have HS := k2_; clear k2_; have hczgb_0 : w1.cell? ⟨gb, 0, none⟩ = some (.int .i64 x.f0) := (blk_cell BKgb.out 0).trans rfl; have hfzgb_0 := blk_frozen BKgb.out 0; have hczgb_1 : w1.cell? ⟨gb, 1, none⟩ = some (.int .i64 x.f1) := (blk_cell BKgb.out 1).trans rfl; have hfzgb_1 := blk_frozen BKgb.out 1; have hczgb_2 : w1.cell? ⟨gb, 2, none⟩ = some (.string x.f2) := (blk_cell BKgb.out 2).trans rfl; have hfzgb_2 := blk_frozen BKgb.out 2; have hczgbHF_0 : w1.cell? ⟨b1, 0, none⟩ = some (.slice A1 l1.length c1) := (blk_cell HF.out 0).trans rfl; have hfzgbHF_0 := blk_frozen HF.out 0; have hczgbHG_0 : w1.cell? ⟨b2, 0, none⟩ = some (.func (.func 45) #[] #[.pointer (some ⟨b1, 0, none⟩)]) := (blk_cell HG.out 0).trans rfl; have hfzgbHG_0 := blk_frozen HG.out 0; have hczgbHS_0 : w1.cell? ⟨b3, 0, none⟩ = some (.int .i64 sc) := (blk_cell HS.out 0).trans rfl; have hfzgbHS_0 := blk_frozen HS.out 0) | (go_at_call 45; (with_reducible refine (opens_named.one k A1 c1 l1 b1 x true _ ?side1 HC1.out (by (with_reducible repeat (first | refine blk_drewN ?_ _ | refine blk_drew ?_ | refine blk_alloc ?_ _)); exact HF.out) A3.out).mono ?_); (case side1 => first | exact Kd.C_below HR1.out HB.out | exact HR1.out); rintro e w2 ⟨rfl, hb⟩; have n0_ := Aside0.mk (below_step (by repeat (first | (with_reducible first | exact HB.out | apply below_alloc | apply pw_below_drewN | apply below_drew1) | exact HB.out)) hb); have k0_ := Aside0.mk (blk_below (g := b1) (o := .cells #[.slice A1 l1.length c1] 23 (0, 0)) (by (with_reducible repeat (first | refine blk_drewN ?_ _ | refine blk_drew ?_ | refine blk_alloc ?_ _)); exact HF.out) hb); have k1_ := Aside0.mk (blk_below (g := b2) (o := .cells #[.func (.func 45) #[] #[.pointer (some ⟨b1, 0, none⟩)]] 42 (0, 0)) (by (with_reducible repeat (first | refine blk_drewN ?_ _ | refine blk_drew ?_ | refine blk_alloc ?_ _)); exact HG.out) hb); have k2_ := Aside0.mk (blk_below (g := b3) (o := .cells #[.int .i64 sc] 24 (0, 0)) (by (with_reducible repeat (first | refine blk_drewN ?_ _ | refine blk_drew ?_ | refine blk_alloc ?_ _)); exact HS.out) hb); have k3_ := Aside0.mk (blk_below (g := gb) (o := .cells #[.int .i64 x.f0, .int .i64 x.f1, .string x.f2] 35 (0, 0)) (by (with_reducible repeat (first | refine blk_drewN ?_ _ | refine blk_drew ?_ | refine blk_alloc ?_ _)); exact BKgb.out) hb); clear HB; have HB := n0_; clear n0_; clear hb; clear HF; have HF := k0_; clear k0_; clear HG; have HG := k1_; clear k1_; clear HS; have HS := k2_; clear k2_; clear BKgb; have BKgb := k3_; clear k3_; have hczw2HF_0 : w2.cell? ⟨b1, 0, none⟩ = some (.slice A1 l1.length c1) := (blk_cell HF.out 0).trans rfl; have hfzw2HF_0 := blk_frozen HF.out 0; have hczw2HG_0 : w2.cell? ⟨b2, 0, none⟩ = some (.func (.func 45) #[] #[.pointer (some ⟨b1, 0, none⟩)]) := (blk_cell HG.out 0).trans rfl; have hfzw2HG_0 := blk_frozen HG.out 0; have hczw2HS_0 : w2.cell? ⟨b3, 0, none⟩ = some (.int .i64 sc) := (blk_cell HS.out 0).trans rfl; have hfzw2HS_0 := blk_frozen HS.out 0; have hczw2BKgb_0 : w2.cell? ⟨gb, 0, none⟩ = some (.int .i64 x.f0) := (blk_cell BKgb.out 0).trans rfl; have hfzw2BKgb_0 := blk_frozen BKgb.out 0; have hczw2BKgb_1 : w2.cell? ⟨gb, 1, none⟩ = some (.int .i64 x.f1) := (blk_cell BKgb.out 1).trans rfl; have hfzw2BKgb_1 := blk_frozen BKgb.out 1; have hczw2BKgb_2 : w2.cell? ⟨gb, 2, none⟩ = some (.string x.f2) := (blk_cell BKgb.out 2).trans rfl; have hfzw2BKgb_2 := blk_frozen BKgb.out 2))
    go_ret
    exact ⟨by first | rfl | (simp; done) | (simp [*]; done), (by repeat (first | (with_reducible first | exact HB.out | apply below_alloc | apply pw_below_drewN | apply below_drew1) | exact HB.out))⟩
  · replace c2 := Bool.eq_false_iff.mpr c2
    subst c2
    rw [if_neg (by decide)] at h
    have A4 := Aside0.mk h
    clear h
    go_enter Try.func28, Try.ntmps28
    go_wp2_with (first | ((with_reducible refine gate_dst (N := 3) rfl ?_); refine box_event ?hg (N := 3) ?hd (cs := #[.int .i64 x.f0, .int .i64 x.f1, .string x.f2]) (t := 35) ?hr ?_; (case hd => rfl); (case hg => rfl); (case hr => first | (go_simp; done) | (go_simp; rfl)); intro gb hg w1 hbox hb; have n0_ := Aside0.mk (below_step (by repeat (first | (with_reducible first | exact HB.out | apply below_alloc | apply pw_below_drewN | apply below_drew1) | exact HB.out)) hb); have n1_ := Aside0.mk (hbox); have n2_ := Aside0.mk ((by rw [hg]; exact (below_size (by repeat (first | (with_reducible first | exact HB.out | apply below_alloc | apply pw_below_drewN | apply below_drew1) | exact HB.out)))) : w.heap.size ≤ gb); have k0_ := Aside0.mk (blk_below (g := b1) (o := .cells #[.slice A1 l1.length c1] 23 (0, 0)) (by (with_reducible repeat (first | refine blk_drewN ?_ _ | refine blk_drew ?_ | refine blk_alloc ?_ _)); exact HF.out) hb); have k1_ := Aside0.mk (blk_below (g := b2) (o := .cells #[.func (.func 45) #[] #[.pointer (some ⟨b1, 0, none⟩)]] 42 (0, 0)) (by (with_reducible repeat (first | refine blk_drewN ?_ _ | refine blk_drew ?_ | refine blk_alloc ?_ _)); exact HG.out) hb); have k2_ := Aside0.mk (blk_below (g := b3) (o := .cells #[.int .i64 sc] 24 (0, 0)) (by (with_reducible repeat (first | refine blk_drewN ?_ _ | refine blk_drew ?_ | refine blk_alloc ?_ _)); exact HS.out) hb); clear HB; have HB := n0_; have BKgb := n1_; have GEgb := n2_; clear n0_ n1_ n2_; clear hb hbox hg; clear HF; have HF := k0_; clear k0_; clear HG; have HG := k1_; clear k1_; clear HS; have HS := k2_; clear k2_; have hczgb_0 : w1.cell? ⟨gb, 0, none⟩ = some (.int .i64 x.f0) := (blk_cell BKgb.out 0).trans rfl; have hfzgb_0 := blk_frozen BKgb.out 0; have hczgb_1 : w1.cell? ⟨gb, 1, none⟩ = some (.int .i64 x.f1) := (blk_cell BKgb.out 1).trans rfl; have hfzgb_1 := blk_frozen BKgb.out 1; have hczgb_2 : w1.cell? ⟨gb, 2, none⟩ = some (.string x.f2) := (blk_cell BKgb.out 2).trans rfl; have hfzgb_2 := blk_frozen BKgb.out 2; have hczgbHF_0 : w1.cell? ⟨b1, 0, none⟩ = some (.slice A1 l1.length c1) := (blk_cell HF.out 0).trans rfl; have hfzgbHF_0 := blk_frozen HF.out 0; have hczgbHG_0 : w1.cell? ⟨b2, 0, none⟩ = some (.func (.func 45) #[] #[.pointer (some ⟨b1, 0, none⟩)]) := (blk_cell HG.out 0).trans rfl; have hfzgbHG_0 := blk_frozen HG.out 0; have hczgbHS_0 : w1.cell? ⟨b3, 0, none⟩ = some (.int .i64 sc) := (blk_cell HS.out 0).trans rfl; have hfzgbHS_0 := blk_frozen HS.out 0) | (go_at_call 45; (with_reducible refine (opens_named.one k A1 c1 l1 b1 x false _ ?side1 HC1.out (by (with_reducible repeat (first | refine blk_drewN ?_ _ | refine blk_drew ?_ | refine blk_alloc ?_ _)); exact HF.out) A3.out).mono ?_); (case side1 => first | exact Kd.C_below HR1.out HB.out | exact HR1.out); rintro e w2 ⟨rfl, hb⟩; have n0_ := Aside0.mk (below_step (by repeat (first | (with_reducible first | exact HB.out | apply below_alloc | apply pw_below_drewN | apply below_drew1) | exact HB.out)) hb); have k0_ := Aside0.mk (blk_below (g := b1) (o := .cells #[.slice A1 l1.length c1] 23 (0, 0)) (by (with_reducible repeat (first | refine blk_drewN ?_ _ | refine blk_drew ?_ | refine blk_alloc ?_ _)); exact HF.out) hb); have k1_ := Aside0.mk (blk_below (g := b2) (o := .cells #[.func (.func 45) #[] #[.pointer (some ⟨b1, 0, none⟩)]] 42 (0, 0)) (by (with_reducible repeat (first | refine blk_drewN ?_ _ | refine blk_drew ?_ | refine blk_alloc ?_ _)); exact HG.out) hb); have k2_ := Aside0.mk (blk_below (g := b3) (o := .cells #[.int .i64 sc] 24 (0, 0)) (by (with_reducible repeat (first | refine blk_drewN ?_ _ | refine blk_drew ?_ | refine blk_alloc ?_ _)); exact HS.out) hb); have k3_ := Aside0.mk (blk_below (g := gb) (o := .cells #[.int .i64 x.f0, .int .i64 x.f1, .string x.f2] 35 (0, 0)) (by (with_reducible repeat (first | refine blk_drewN ?_ _ | refine blk_drew ?_ | refine blk_alloc ?_ _)); exact BKgb.out) hb); clear HB; have HB := n0_; clear n0_; clear hb; clear HF; have HF := k0_; clear k0_; clear HG; have HG := k1_; clear k1_; clear HS; have HS := k2_; clear k2_; clear BKgb; have BKgb := k3_; clear k3_; have hczw2HF_0 : w2.cell? ⟨b1, 0, none⟩ = some (.slice A1 l1.length c1) := (blk_cell HF.out 0).trans rfl; have hfzw2HF_0 := blk_frozen HF.out 0; have hczw2HG_0 : w2.cell? ⟨b2, 0, none⟩ = some (.func (.func 45) #[] #[.pointer (some ⟨b1, 0, none⟩)]) := (blk_cell HG.out 0).trans rfl; have hfzw2HG_0 := blk_frozen HG.out 0; have hczw2HS_0 : w2.cell? ⟨b3, 0, none⟩ = some (.int .i64 sc) := (blk_cell HS.out 0).trans rfl; have hfzw2HS_0 := blk_frozen HS.out 0; have hczw2BKgb_0 : w2.cell? ⟨gb, 0, none⟩ = some (.int .i64 x.f0) := (blk_cell BKgb.out 0).trans rfl; have hfzw2BKgb_0 := blk_frozen BKgb.out 0; have hczw2BKgb_1 : w2.cell? ⟨gb, 1, none⟩ = some (.int .i64 x.f1) := (blk_cell BKgb.out 1).trans rfl; have hfzw2BKgb_1 := blk_frozen BKgb.out 1; have hczw2BKgb_2 : w2.cell? ⟨gb, 2, none⟩ = some (.string x.f2) := (blk_cell BKgb.out 2).trans rfl; have hfzw2BKgb_2 := blk_frozen BKgb.out 2) | (go_at_call 20; (with_reducible refine (opens_Ends.calls k x.f0 x.f1 x.f2 sc r _ A4.out).mono ?_); rintro e w3 ⟨rfl, hb⟩; have n0_ := Aside0.mk (below_step (by repeat (first | (with_reducible first | exact HB.out | apply below_alloc | apply pw_below_drewN | apply below_drew1) | exact HB.out)) hb); clear HB; have HB := n0_; clear n0_; clear hb))
    go_ret
    exact ⟨by first | rfl | (simp; done) | (simp [*]; done), (by repeat (first | (with_reducible first | exact HB.out | apply below_alloc | apply pw_below_drewN | apply below_drew1) | exact HB.out))⟩

set_option maxHeartbeats 8000000 in
set_option maxRecDepth 100000 in
theorem opens_goes.one (k : Nat) (ex : ByteArray) (b1 : Nat) (x : S35) (r : Bool) (w : World) (hf1 : w.heap[b1]? = some (.cells #[.string ex] 9 (0, 0))) (h : opens_goes.p k ex x = some r) :
    Calls Try.prog 30 #[.agg #[.int .i64 x.f0, .int .i64 x.f1, .string x.f2], .pointer (some ⟨b1, 0, none⟩)] w fun e w' => e = .returned (.bool r) ∧ Below w.heap.size w w' := by
  have hu35 := Try.underlying35
  have hmf := opens_mf
  have HB := Aside0.mk (Below.refl w.heap.size w)
  have HF := Aside0.mk hf1
  clear hf1
  unfold opens_goes.p at h
  by_cases c2 : x.f1 = 0
  · rw [if_pos c2] at h
    have c2b0 : (x.f1 == 0) = true := beq_iff_eq.mpr c2
    clear c2
    by_cases c3 : x.f2.toList = ex.toList
    · rw [if_pos c3] at h
      have c3b0 : (x.f2.toList == ex.toList) = true := beq_iff_eq.mpr c3
      have c3b1 : (x.f2.toList != ex.toList) = false := bne_eq_false_iff_eq.mpr c3
      clear c3
      obtain rfl := Option.some.inj h
      go_enter Try.func30, Try.ntmps30
      go_wp2_with (first | ((with_reducible refine gate_dst (N := 2) rfl ?_); refine box_event ?hg (N := 2) ?hd (cs := #[.int .i64 x.f0, .int .i64 x.f1, .string x.f2]) (t := 35) ?hr ?_; (case hd => rfl); (case hg => rfl); (case hr => first | (go_simp; done) | (go_simp; rfl)); intro gb hg w1 hbox hb; have n0_ := Aside0.mk (below_step (by repeat (first | (with_reducible first | exact HB.out | apply below_alloc | apply pw_below_drewN | apply below_drew1) | exact HB.out)) hb); have n1_ := Aside0.mk (hbox); have n2_ := Aside0.mk ((by rw [hg]; exact (below_size (by repeat (first | (with_reducible first | exact HB.out | apply below_alloc | apply pw_below_drewN | apply below_drew1) | exact HB.out)))) : w.heap.size ≤ gb); have k0_ := Aside0.mk (blk_below (g := b1) (o := .cells #[.string ex] 9 (0, 0)) (by (with_reducible repeat (first | refine blk_drewN ?_ _ | refine blk_drew ?_ | refine blk_alloc ?_ _)); exact HF.out) hb); clear HB; have HB := n0_; have BKgb := n1_; have GEgb := n2_; clear n0_ n1_ n2_; clear hb hbox hg; clear HF; have HF := k0_; clear k0_; have hczgb_0 : w1.cell? ⟨gb, 0, none⟩ = some (.int .i64 x.f0) := (blk_cell BKgb.out 0).trans rfl; have hfzgb_0 := blk_frozen BKgb.out 0; have hczgb_1 : w1.cell? ⟨gb, 1, none⟩ = some (.int .i64 x.f1) := (blk_cell BKgb.out 1).trans rfl; have hfzgb_1 := blk_frozen BKgb.out 1; have hczgb_2 : w1.cell? ⟨gb, 2, none⟩ = some (.string x.f2) := (blk_cell BKgb.out 2).trans rfl; have hfzgb_2 := blk_frozen BKgb.out 2; have hczgbHF_0 : w1.cell? ⟨b1, 0, none⟩ = some (.string ex) := (blk_cell HF.out 0).trans rfl; have hfzgbHF_0 := blk_frozen HF.out 0))
      go_ret
      exact ⟨by first | rfl | (simp; done) | (simp [*]; done), (by repeat (first | (with_reducible first | exact HB.out | apply below_alloc | apply pw_below_drewN | apply below_drew1) | exact HB.out))⟩
    · rw [if_neg c3] at h
      have c3b0 : (x.f2.toList == ex.toList) = false := beq_eq_false_iff_ne.mpr c3
      have c3b1 : (x.f2.toList != ex.toList) = true := bne_iff_ne.mpr c3
      clear c3
      have A3 := Aside0.mk h
      clear h
      go_enter Try.func30, Try.ntmps30
      go_wp2_with (first | ((with_reducible refine gate_dst (N := 2) rfl ?_); refine box_event ?hg (N := 2) ?hd (cs := #[.int .i64 x.f0, .int .i64 x.f1, .string x.f2]) (t := 35) ?hr ?_; (case hd => rfl); (case hg => rfl); (case hr => first | (go_simp; done) | (go_simp; rfl)); intro gb hg w1 hbox hb; have n0_ := Aside0.mk (below_step (by repeat (first | (with_reducible first | exact HB.out | apply below_alloc | apply pw_below_drewN | apply below_drew1) | exact HB.out)) hb); have n1_ := Aside0.mk (hbox); have n2_ := Aside0.mk ((by rw [hg]; exact (below_size (by repeat (first | (with_reducible first | exact HB.out | apply below_alloc | apply pw_below_drewN | apply below_drew1) | exact HB.out)))) : w.heap.size ≤ gb); have k0_ := Aside0.mk (blk_below (g := b1) (o := .cells #[.string ex] 9 (0, 0)) (by (with_reducible repeat (first | refine blk_drewN ?_ _ | refine blk_drew ?_ | refine blk_alloc ?_ _)); exact HF.out) hb); clear HB; have HB := n0_; have BKgb := n1_; have GEgb := n2_; clear n0_ n1_ n2_; clear hb hbox hg; clear HF; have HF := k0_; clear k0_; have hczgb_0 : w1.cell? ⟨gb, 0, none⟩ = some (.int .i64 x.f0) := (blk_cell BKgb.out 0).trans rfl; have hfzgb_0 := blk_frozen BKgb.out 0; have hczgb_1 : w1.cell? ⟨gb, 1, none⟩ = some (.int .i64 x.f1) := (blk_cell BKgb.out 1).trans rfl; have hfzgb_1 := blk_frozen BKgb.out 1; have hczgb_2 : w1.cell? ⟨gb, 2, none⟩ = some (.string x.f2) := (blk_cell BKgb.out 2).trans rfl; have hfzgb_2 := blk_frozen BKgb.out 2; have hczgbHF_0 : w1.cell? ⟨b1, 0, none⟩ = some (.string ex) := (blk_cell HF.out 0).trans rfl; have hfzgbHF_0 := blk_frozen HF.out 0) | (go_at_call 19; (with_reducible refine (kind_Is.calls k 8 x.f2 r _ A3.out).mono ?_); rintro e w2 ⟨rfl, hb⟩; have n0_ := Aside0.mk (below_step (by repeat (first | (with_reducible first | exact HB.out | apply below_alloc | apply pw_below_drewN | apply below_drew1) | exact HB.out)) hb); clear HB; have HB := n0_; clear n0_; clear hb))
      go_ret
      exact ⟨by first | rfl | (simp; done) | (simp [*]; done), (by repeat (first | (with_reducible first | exact HB.out | apply below_alloc | apply pw_below_drewN | apply below_drew1) | exact HB.out))⟩
  · rw [if_neg c2] at h
    have c2b0 : (x.f1 == 0) = false := beq_eq_false_iff_ne.mpr c2
    clear c2
    obtain rfl := Option.some.inj h
    go_enter Try.func30, Try.ntmps30
    go_wp2_with (first | ((with_reducible refine gate_dst (N := 2) rfl ?_); refine box_event ?hg (N := 2) ?hd (cs := #[.int .i64 x.f0, .int .i64 x.f1, .string x.f2]) (t := 35) ?hr ?_; (case hd => rfl); (case hg => rfl); (case hr => first | (go_simp; done) | (go_simp; rfl)); intro gb hg w1 hbox hb; have n0_ := Aside0.mk (below_step (by repeat (first | (with_reducible first | exact HB.out | apply below_alloc | apply pw_below_drewN | apply below_drew1) | exact HB.out)) hb); have n1_ := Aside0.mk (hbox); have n2_ := Aside0.mk ((by rw [hg]; exact (below_size (by repeat (first | (with_reducible first | exact HB.out | apply below_alloc | apply pw_below_drewN | apply below_drew1) | exact HB.out)))) : w.heap.size ≤ gb); have k0_ := Aside0.mk (blk_below (g := b1) (o := .cells #[.string ex] 9 (0, 0)) (by (with_reducible repeat (first | refine blk_drewN ?_ _ | refine blk_drew ?_ | refine blk_alloc ?_ _)); exact HF.out) hb); clear HB; have HB := n0_; have BKgb := n1_; have GEgb := n2_; clear n0_ n1_ n2_; clear hb hbox hg; clear HF; have HF := k0_; clear k0_; have hczgb_0 : w1.cell? ⟨gb, 0, none⟩ = some (.int .i64 x.f0) := (blk_cell BKgb.out 0).trans rfl; have hfzgb_0 := blk_frozen BKgb.out 0; have hczgb_1 : w1.cell? ⟨gb, 1, none⟩ = some (.int .i64 x.f1) := (blk_cell BKgb.out 1).trans rfl; have hfzgb_1 := blk_frozen BKgb.out 1; have hczgb_2 : w1.cell? ⟨gb, 2, none⟩ = some (.string x.f2) := (blk_cell BKgb.out 2).trans rfl; have hfzgb_2 := blk_frozen BKgb.out 2; have hczgbHF_0 : w1.cell? ⟨b1, 0, none⟩ = some (.string ex) := (blk_cell HF.out 0).trans rfl; have hfzgbHF_0 := blk_frozen HF.out 0))
    go_ret
    exact ⟨by first | rfl | (simp; done) | (simp [*]; done), (by repeat (first | (with_reducible first | exact HB.out | apply below_alloc | apply pw_below_drewN | apply below_drew1) | exact HB.out))⟩

set_option maxHeartbeats 8000000 in
set_option maxRecDepth 100000 in
theorem opens_stays.one (k : Nat) (ex : ByteArray) (b1 : Nat) (b2 : Nat) (x : S35) (r : Bool) (w : World) (hf1 : w.heap[b1]? = some (.cells #[.string ex] 9 (0, 0))) (hf2 : w.heap[b2]? = some (.cells #[.func (.func 30) #[] #[.pointer (some ⟨b1, 0, none⟩)]] 42 (0, 0))) (h : opens_stays.p k ex x = some r) :
    Calls Try.prog 31 #[.agg #[.int .i64 x.f0, .int .i64 x.f1, .string x.f2], .pointer (some ⟨b2, 0, none⟩)] w fun e w' => e = .returned (.bool r) ∧ Below w.heap.size w w' := by
  have hu35 := Try.underlying35
  have hmf := opens_mf
  have HB := Aside0.mk (Below.refl w.heap.size w)
  have HF := Aside0.mk hf1
  have HG := Aside0.mk hf2
  clear hf1 hf2
  unfold opens_stays.p at h
  obtain ⟨t1, A30, h⟩ := Option.bind_eq_some_iff.mp h
  have A3 := Aside0.mk A30
  clear A30
  obtain rfl := Option.some.inj h
  go_enter Try.func31, Try.ntmps31
  go_wp2_with (first | ((with_reducible refine gate_dst (N := 2) rfl ?_); refine box_event ?hg (N := 2) ?hd (cs := #[.int .i64 x.f0, .int .i64 x.f1, .string x.f2]) (t := 35) ?hr ?_; (case hd => rfl); (case hg => rfl); (case hr => first | (go_simp; done) | (go_simp; rfl)); intro gb hg w1 hbox hb; have n0_ := Aside0.mk (below_step (by repeat (first | (with_reducible first | exact HB.out | apply below_alloc | apply pw_below_drewN | apply below_drew1) | exact HB.out)) hb); have n1_ := Aside0.mk (hbox); have n2_ := Aside0.mk ((by rw [hg]; exact (below_size (by repeat (first | (with_reducible first | exact HB.out | apply below_alloc | apply pw_below_drewN | apply below_drew1) | exact HB.out)))) : w.heap.size ≤ gb); have k0_ := Aside0.mk (blk_below (g := b1) (o := .cells #[.string ex] 9 (0, 0)) (by (with_reducible repeat (first | refine blk_drewN ?_ _ | refine blk_drew ?_ | refine blk_alloc ?_ _)); exact HF.out) hb); have k1_ := Aside0.mk (blk_below (g := b2) (o := .cells #[.func (.func 30) #[] #[.pointer (some ⟨b1, 0, none⟩)]] 42 (0, 0)) (by (with_reducible repeat (first | refine blk_drewN ?_ _ | refine blk_drew ?_ | refine blk_alloc ?_ _)); exact HG.out) hb); clear HB; have HB := n0_; have BKgb := n1_; have GEgb := n2_; clear n0_ n1_ n2_; clear hb hbox hg; clear HF; have HF := k0_; clear k0_; clear HG; have HG := k1_; clear k1_; have hczgb_0 : w1.cell? ⟨gb, 0, none⟩ = some (.int .i64 x.f0) := (blk_cell BKgb.out 0).trans rfl; have hfzgb_0 := blk_frozen BKgb.out 0; have hczgb_1 : w1.cell? ⟨gb, 1, none⟩ = some (.int .i64 x.f1) := (blk_cell BKgb.out 1).trans rfl; have hfzgb_1 := blk_frozen BKgb.out 1; have hczgb_2 : w1.cell? ⟨gb, 2, none⟩ = some (.string x.f2) := (blk_cell BKgb.out 2).trans rfl; have hfzgb_2 := blk_frozen BKgb.out 2; have hczgbHF_0 : w1.cell? ⟨b1, 0, none⟩ = some (.string ex) := (blk_cell HF.out 0).trans rfl; have hfzgbHF_0 := blk_frozen HF.out 0; have hczgbHG_0 : w1.cell? ⟨b2, 0, none⟩ = some (.func (.func 30) #[] #[.pointer (some ⟨b1, 0, none⟩)]) := (blk_cell HG.out 0).trans rfl; have hfzgbHG_0 := blk_frozen HG.out 0) | (go_at_call 30; (with_reducible refine (opens_goes.one k ex b1 x t1 _ (by (with_reducible repeat (first | refine blk_drewN ?_ _ | refine blk_drew ?_ | refine blk_alloc ?_ _)); exact HF.out) A3.out).mono ?_); rintro e w2 ⟨rfl, hb⟩; have n0_ := Aside0.mk (below_step (by repeat (first | (with_reducible first | exact HB.out | apply below_alloc | apply pw_below_drewN | apply below_drew1) | exact HB.out)) hb); clear HB; have HB := n0_; clear n0_; clear hb))
  go_ret
  exact ⟨by first | rfl | (simp; done) | (simp [*]; done), (by repeat (first | (with_reducible first | exact HB.out | apply below_alloc | apply pw_below_drewN | apply below_drew1) | exact HB.out))⟩

set_option maxHeartbeats 8000000 in
set_option maxRecDepth 100000 in
theorem opens_found.one (k : Nat) (id : Int) (b1 : Nat) (x : S35) (r : Bool) (w : World) (hf1 : w.heap[b1]? = some (.cells #[.int .i64 id] 3 (0, 0))) (h : opens_found.p id x = some r) :
    Calls Try.prog 32 #[.agg #[.int .i64 x.f0, .int .i64 x.f1, .string x.f2], .pointer (some ⟨b1, 0, none⟩)] w fun e w' => e = .returned (.bool r) ∧ Below w.heap.size w w' := by
  have hu35 := Try.underlying35
  have hmf := opens_mf
  have HB := Aside0.mk (Below.refl w.heap.size w)
  have HF := Aside0.mk hf1
  clear hf1
  unfold opens_found.p at h
  obtain rfl := Option.some.inj h
  go_enter Try.func32, Try.ntmps32
  go_wp2_with (first | ((with_reducible refine gate_dst (N := 2) rfl ?_); refine box_event ?hg (N := 2) ?hd (cs := #[.int .i64 x.f0, .int .i64 x.f1, .string x.f2]) (t := 35) ?hr ?_; (case hd => rfl); (case hg => rfl); (case hr => first | (go_simp; done) | (go_simp; rfl)); intro gb hg w1 hbox hb; have n0_ := Aside0.mk (below_step (by repeat (first | (with_reducible first | exact HB.out | apply below_alloc | apply pw_below_drewN | apply below_drew1) | exact HB.out)) hb); have n1_ := Aside0.mk (hbox); have n2_ := Aside0.mk ((by rw [hg]; exact (below_size (by repeat (first | (with_reducible first | exact HB.out | apply below_alloc | apply pw_below_drewN | apply below_drew1) | exact HB.out)))) : w.heap.size ≤ gb); have k0_ := Aside0.mk (blk_below (g := b1) (o := .cells #[.int .i64 id] 3 (0, 0)) (by (with_reducible repeat (first | refine blk_drewN ?_ _ | refine blk_drew ?_ | refine blk_alloc ?_ _)); exact HF.out) hb); clear HB; have HB := n0_; have BKgb := n1_; have GEgb := n2_; clear n0_ n1_ n2_; clear hb hbox hg; clear HF; have HF := k0_; clear k0_; have hczgb_0 : w1.cell? ⟨gb, 0, none⟩ = some (.int .i64 x.f0) := (blk_cell BKgb.out 0).trans rfl; have hfzgb_0 := blk_frozen BKgb.out 0; have hczgb_1 : w1.cell? ⟨gb, 1, none⟩ = some (.int .i64 x.f1) := (blk_cell BKgb.out 1).trans rfl; have hfzgb_1 := blk_frozen BKgb.out 1; have hczgb_2 : w1.cell? ⟨gb, 2, none⟩ = some (.string x.f2) := (blk_cell BKgb.out 2).trans rfl; have hfzgb_2 := blk_frozen BKgb.out 2; have hczgbHF_0 : w1.cell? ⟨b1, 0, none⟩ = some (.int .i64 id) := (blk_cell HF.out 0).trans rfl; have hfzgbHF_0 := blk_frozen HF.out 0))
  go_ret
  exact ⟨by first | rfl | (simp; done) | (simp [*]; done), (by repeat (first | (with_reducible first | exact HB.out | apply below_alloc | apply pw_below_drewN | apply below_drew1) | exact HB.out))⟩

/-! ### last -/
def opens_last.l0 (p : Nat → S35 → Option Bool) : Nat → List S35 → Int → Option Int
  | 0, _, _ => none
  | k + 1, l, x5 => if x5 ≥ 0 then (if 0 ≤ x5 then (if x5 < (l.length : Int) then ((p k (rd_T35 l x5)).bind fun t => if t = true then some x5 else opens_last.l0 p k l (wrap64 (x5 - 1))) else none) else none) else some x5
def opens_last.f (p : Nat → S35 → Option Bool) (k : Nat) (l : List S35) : Option Int := opens_last.l0 p k l (wrap64 ((l.length : Int) - 1))
theorem opens_last.mono_l (p : Nat → S35 → Option Bool) (hp : ∀ k x, LeO (p k x) (p (k + 1) x)) : ∀ k l x, LeO (opens_last.l0 p k l x) (opens_last.l0 p (k + 1) l x)
  | 0 => fun _ _ r h => by simp [opens_last.l0] at h
  | k + 1 => by
    have ih0 := opens_last.mono_l p hp k
    intro y0 y1
    unfold opens_last.l0
    repeat' first
      | (with_reducible exact ih0 _ _)
      | (with_reducible exact hp _ _)
      | (with_reducible exact LeO.refl _)
      | (with_reducible exact LeO.none _)
      | (with_reducible refine LeO.ite ?_ ?_)
      | (with_reducible refine LeO.bind ?_ (fun _ => ?_))
theorem opens_last.mono (p : Nat → S35 → Option Bool) (hp : ∀ k x, LeO (p k x) (p (k + 1) x)) : ∀ l k, LeO (opens_last.f p k l) (opens_last.f p (k + 1) l) := fun l k => opens_last.mono_l p hp k l _
theorem opens_named.mono (l1 : List ByteArray) (k : Nat) (x : S35) : LeO (opens_named.p k l1 x) (opens_named.p (k + 1) l1 x) := by
  unfold opens_named.p
  exact LeO.ite (slices_Contains_string_string.mono _ _ _) (LeO.refl _)
theorem opens_goes.mono (ex : ByteArray) (k : Nat) (x : S35) : LeO (opens_goes.p k ex x) (opens_goes.p (k + 1) ex x) := by
  unfold opens_goes.p
  exact LeO.ite (LeO.ite (LeO.refl _) (kind_Is.mono _ _ _)) (LeO.refl _)
theorem opens_stays.mono (ex : ByteArray) (k : Nat) (x : S35) : LeO (opens_stays.p k ex x) (opens_stays.p (k + 1) ex x) := by
  unfold opens_stays.p
  exact LeO.bind (opens_goes.mono _ _ _) (fun _ => LeO.refl _)
theorem opens_stop.mono (l1 : List ByteArray) (sc : Int) (k : Nat) (x : S35) : LeO (opens_stop.p k l1 sc x) (opens_stop.p (k + 1) l1 sc x) := by
  unfold opens_stop.p
  exact LeO.bind (opens_named.mono _ _ _) (fun _ => LeO.ite (LeO.refl _) (opens_Ends.mono _ _ _ _ _))

set_option maxHeartbeats 8000000 in
set_option maxRecDepth 100000 in
theorem opens_last.named (k : Nat) (A0 : Option Addr) (c0 : Nat) (l0 : List S35) (A1 : Option Addr) (c1 : Nat) (l1 : List ByteArray) (b1 : Nat) (r : Int) (w : World) (hr0 : Kd.C k35 w A0 l0.length l0) (hc0 : l0.length ≤ c0) (hr1 : Kd.C Kd.string w A1 l1.length l1) (hc1 : l1.length ≤ c1) (hf1 : w.heap[b1]? = some (.cells #[.slice A1 l1.length c1] 23 (0, 0))) (h : opens_last.f (fun k x => opens_named.p k l1 x) k l0 = some r) :
    Calls Try.prog 27 #[.slice A0 l0.length c0, .func (.func 45) #[] #[.pointer (some ⟨b1, 0, none⟩)]] w fun e w' => e = .returned (.int .i64 r) ∧ Below w.heap.size w w' := by
  have hmf := opens_mf
  have HR0 := Aside0.mk hr0
  have HC0 := Aside0.mk hc0
  clear hr0 hc0
  have HB := Aside0.mk (Below.refl w.heap.size w)
  have HR1 := Aside0.mk hr1
  have HC1 := Aside0.mk hc1
  have HF := Aside0.mk hf1
  clear hr1 hc1 hf1
  unfold opens_last.f at h
  have H' := Aside0.mk h
  clear h
  go_enter Try.func27, Try.ntmps27
  go_wp2
  go_loopg [5] k (fun kq v5 w' => ∃ (x5_1 : Int), v5 = .int .i64 x5_1 ∧ Aside0 (opens_last.l0 (fun k x => opens_named.p k l1 x) kq l0 x5_1 = some r) ∧ Aside0 (kq ≤ k) ∧ Aside0 (Below w.heap.size w w'))
  case atStart => exact ⟨(wrap64 ((l0.length : Int) - 1)), (by first | rfl | (simp; done) | (simp [*]; done)), H', ⟨Nat.le_refl _⟩, ⟨(by repeat (first | (with_reducible first | exact HB.out | apply below_alloc | apply pw_below_drewN | apply below_drew1) | exact HB.out))⟩⟩
  case round =>
    clear H' HB
    obtain ⟨x5_1, rfl, HA, HK1, HB⟩ := hrel
    cases gk with
    | zero => exact absurd HA.out (by simp [opens_last.l0])
    | succ k1 =>
      have H := HA.out
      clear HA
      simp only [opens_last.l0] at H
      by_cases c3 : x5_1 ≥ 0
      · rw [if_pos c3] at H
        have c3b0 : decide (0 ≤ x5_1) = true := decide_eq_true c3
        rw [if_pos c3] at H
        by_cases c5 : x5_1 < (l0.length : Int)
        · rw [if_pos c5] at H
          have c5b0 : decide (x5_1 < (l0.length : Int)) = true := decide_eq_true c5
          have p_ : 0 ≤ x5_1 := c3
          have q_ : x5_1 < (l0.length : Int) := c5
          clear c3 c5
          obtain ⟨t1, A30, H⟩ := Option.bind_eq_some_iff.mp H
          have A3 := Aside0.mk A30
          clear A30
          by_cases c6 : t1 = true
          · subst c6
            rw [if_pos rfl] at H
            obtain rfl := Option.some.inj H
            obtain ⟨ad, e_, hx_0, hx_1, hx_2⟩ := at_T35 HR0.out x5_1 p_ q_
            cases e_
            replace hx_0 := (HB.out.cell (World.block_lt_of_cell? w _ hx_0)).trans hx_0
            replace hx_1 := (HB.out.cell (World.block_lt_of_cell? w _ hx_1)).trans hx_1
            replace hx_2 := (HB.out.cell (World.block_lt_of_cell? w _ hx_2)).trans hx_2
            replace p_ := eq_true p_
            replace q_ := eq_true q_
            go_wp2_with (first | (go_at_call 45; (with_reducible refine (opens_named.one k1 A1 c1 l1 b1 (rd_T35 l0 x5_1) true _ ?side1 HC1.out (blk_below HF.out HB.out) A3.out).mono ?_); (case side1 => first | exact Kd.C_below HR1.out HB.out | exact HR1.out); rintro e w2 ⟨rfl, hb⟩; have n0_ := Aside0.mk (below_step (by repeat (first | (with_reducible first | exact HB.out | apply below_alloc | apply pw_below_drewN | apply below_drew1) | exact HB.out)) hb); clear HB; have HB := n0_; clear n0_; clear hb))
            go_ret
            exact ⟨by first | rfl | (simp; done) | (simp [*]; done), (by repeat (first | (with_reducible first | exact HB.out | apply below_alloc | apply pw_below_drewN | apply below_drew1) | exact HB.out))⟩
          · replace c6 := Bool.eq_false_iff.mpr c6
            subst c6
            rw [if_neg (by decide)] at H
            have H' := Aside0.mk H
            clear H
            obtain ⟨ad, e_, hx_0, hx_1, hx_2⟩ := at_T35 HR0.out x5_1 p_ q_
            cases e_
            replace hx_0 := (HB.out.cell (World.block_lt_of_cell? w _ hx_0)).trans hx_0
            replace hx_1 := (HB.out.cell (World.block_lt_of_cell? w _ hx_1)).trans hx_1
            replace hx_2 := (HB.out.cell (World.block_lt_of_cell? w _ hx_2)).trans hx_2
            replace p_ := eq_true p_
            replace q_ := eq_true q_
            go_wp2_with (first | (go_at_call 45; (with_reducible refine (opens_named.one k1 A1 c1 l1 b1 (rd_T35 l0 x5_1) false _ ?side1 HC1.out (blk_below HF.out HB.out) A3.out).mono ?_); (case side1 => first | exact Kd.C_below HR1.out HB.out | exact HR1.out); rintro e w2 ⟨rfl, hb⟩; have n0_ := Aside0.mk (below_step (by repeat (first | (with_reducible first | exact HB.out | apply below_alloc | apply pw_below_drewN | apply below_drew1) | exact HB.out)) hb); clear HB; have HB := n0_; clear n0_; clear hb))
            go_roundg k1
            case measure => have := HK1.out; omega
            case rel => exact ⟨(wrap64 (x5_1 - 1)), (by first | rfl | (simp; done) | (simp [*]; done)), H', ⟨by have := HK1.out; omega⟩, ⟨(by repeat (first | (with_reducible first | exact HB.out | apply below_alloc | apply pw_below_drewN | apply below_drew1) | exact HB.out))⟩⟩
        · rw [if_neg c5] at H
          exact absurd H (by simp)
      · rw [if_neg c3] at H
        have c3b0 : decide (0 ≤ x5_1) = false := decide_eq_false c3
        clear c3
        obtain rfl := Option.some.inj H
        go_wp2
        go_ret
        exact ⟨by first | rfl | (simp; done) | (simp [*]; done), (by repeat (first | (with_reducible first | exact HB.out | apply below_alloc | apply pw_below_drewN | apply below_drew1) | exact HB.out))⟩

set_option maxHeartbeats 8000000 in
set_option maxRecDepth 100000 in
theorem opens_last.stop (k : Nat) (A0 : Option Addr) (c0 : Nat) (l0 : List S35) (A1 : Option Addr) (c1 : Nat) (l1 : List ByteArray) (b1 : Nat) (b2 b3 : Nat) (sc : Int) (r : Int) (w : World) (hr0 : Kd.C k35 w A0 l0.length l0) (hc0 : l0.length ≤ c0) (hr1 : Kd.C Kd.string w A1 l1.length l1) (hc1 : l1.length ≤ c1) (hf1 : w.heap[b1]? = some (.cells #[.slice A1 l1.length c1] 23 (0, 0))) (hf2 : w.heap[b2]? = some (.cells #[.func (.func 45) #[] #[.pointer (some ⟨b1, 0, none⟩)]] 42 (0, 0))) (hf3 : w.heap[b3]? = some (.cells #[.int .i64 sc] 24 (0, 0))) (h : opens_last.f (fun k x => opens_stop.p k l1 sc x) k l0 = some r) :
    Calls Try.prog 27 #[.slice A0 l0.length c0, .func (.func 28) #[] #[.pointer (some ⟨b2, 0, none⟩), .pointer (some ⟨b3, 0, none⟩)]] w fun e w' => e = .returned (.int .i64 r) ∧ Below w.heap.size w w' := by
  have hmf := opens_mf
  have HR0 := Aside0.mk hr0
  have HC0 := Aside0.mk hc0
  clear hr0 hc0
  have HB := Aside0.mk (Below.refl w.heap.size w)
  have HR1 := Aside0.mk hr1
  have HC1 := Aside0.mk hc1
  have HF := Aside0.mk hf1
  clear hr1 hc1 hf1
  have HG := Aside0.mk hf2
  have HS := Aside0.mk hf3
  clear hf2 hf3
  unfold opens_last.f at h
  have H' := Aside0.mk h
  clear h
  go_enter Try.func27, Try.ntmps27
  go_wp2
  go_loopg [5] k (fun kq v5 w' => ∃ (x5_1 : Int), v5 = .int .i64 x5_1 ∧ Aside0 (opens_last.l0 (fun k x => opens_stop.p k l1 sc x) kq l0 x5_1 = some r) ∧ Aside0 (kq ≤ k) ∧ Aside0 (Below w.heap.size w w'))
  case atStart => exact ⟨(wrap64 ((l0.length : Int) - 1)), (by first | rfl | (simp; done) | (simp [*]; done)), H', ⟨Nat.le_refl _⟩, ⟨(by repeat (first | (with_reducible first | exact HB.out | apply below_alloc | apply pw_below_drewN | apply below_drew1) | exact HB.out))⟩⟩
  case round =>
    clear H' HB
    obtain ⟨x5_1, rfl, HA, HK1, HB⟩ := hrel
    cases gk with
    | zero => exact absurd HA.out (by simp [opens_last.l0])
    | succ k1 =>
      have H := HA.out
      clear HA
      simp only [opens_last.l0] at H
      by_cases c3 : x5_1 ≥ 0
      · rw [if_pos c3] at H
        have c3b0 : decide (0 ≤ x5_1) = true := decide_eq_true c3
        rw [if_pos c3] at H
        by_cases c5 : x5_1 < (l0.length : Int)
        · rw [if_pos c5] at H
          have c5b0 : decide (x5_1 < (l0.length : Int)) = true := decide_eq_true c5
          have p_ : 0 ≤ x5_1 := c3
          have q_ : x5_1 < (l0.length : Int) := c5
          clear c3 c5
          obtain ⟨t1, A30, H⟩ := Option.bind_eq_some_iff.mp H
          have A3 := Aside0.mk A30
          clear A30
          by_cases c6 : t1 = true
          · subst c6
            rw [if_pos rfl] at H
            obtain rfl := Option.some.inj H
            obtain ⟨ad, e_, hx_0, hx_1, hx_2⟩ := at_T35 HR0.out x5_1 p_ q_
            cases e_
            replace hx_0 := (HB.out.cell (World.block_lt_of_cell? w _ hx_0)).trans hx_0
            replace hx_1 := (HB.out.cell (World.block_lt_of_cell? w _ hx_1)).trans hx_1
            replace hx_2 := (HB.out.cell (World.block_lt_of_cell? w _ hx_2)).trans hx_2
            replace p_ := eq_true p_
            replace q_ := eq_true q_
            go_wp2_with (first | (go_at_call 28; (with_reducible refine (opens_stop.one k1 A1 c1 l1 b1 b2 b3 sc (rd_T35 l0 x5_1) true _ ?side1 HC1.out (blk_below HF.out HB.out) (blk_below HG.out HB.out) (blk_below HS.out HB.out) A3.out).mono ?_); (case side1 => first | exact Kd.C_below HR1.out HB.out | exact HR1.out); rintro e w2 ⟨rfl, hb⟩; have n0_ := Aside0.mk (below_step (by repeat (first | (with_reducible first | exact HB.out | apply below_alloc | apply pw_below_drewN | apply below_drew1) | exact HB.out)) hb); clear HB; have HB := n0_; clear n0_; clear hb))
            go_ret
            exact ⟨by first | rfl | (simp; done) | (simp [*]; done), (by repeat (first | (with_reducible first | exact HB.out | apply below_alloc | apply pw_below_drewN | apply below_drew1) | exact HB.out))⟩
          · replace c6 := Bool.eq_false_iff.mpr c6
            subst c6
            rw [if_neg (by decide)] at H
            have H' := Aside0.mk H
            clear H
            obtain ⟨ad, e_, hx_0, hx_1, hx_2⟩ := at_T35 HR0.out x5_1 p_ q_
            cases e_
            replace hx_0 := (HB.out.cell (World.block_lt_of_cell? w _ hx_0)).trans hx_0
            replace hx_1 := (HB.out.cell (World.block_lt_of_cell? w _ hx_1)).trans hx_1
            replace hx_2 := (HB.out.cell (World.block_lt_of_cell? w _ hx_2)).trans hx_2
            replace p_ := eq_true p_
            replace q_ := eq_true q_
            go_wp2_with (first | (go_at_call 28; (with_reducible refine (opens_stop.one k1 A1 c1 l1 b1 b2 b3 sc (rd_T35 l0 x5_1) false _ ?side1 HC1.out (blk_below HF.out HB.out) (blk_below HG.out HB.out) (blk_below HS.out HB.out) A3.out).mono ?_); (case side1 => first | exact Kd.C_below HR1.out HB.out | exact HR1.out); rintro e w2 ⟨rfl, hb⟩; have n0_ := Aside0.mk (below_step (by repeat (first | (with_reducible first | exact HB.out | apply below_alloc | apply pw_below_drewN | apply below_drew1) | exact HB.out)) hb); clear HB; have HB := n0_; clear n0_; clear hb))
            go_roundg k1
            case measure => have := HK1.out; omega
            case rel => exact ⟨(wrap64 (x5_1 - 1)), (by first | rfl | (simp; done) | (simp [*]; done)), H', ⟨by have := HK1.out; omega⟩, ⟨(by repeat (first | (with_reducible first | exact HB.out | apply below_alloc | apply pw_below_drewN | apply below_drew1) | exact HB.out))⟩⟩
        · rw [if_neg c5] at H
          exact absurd H (by simp)
      · rw [if_neg c3] at H
        have c3b0 : decide (0 ≤ x5_1) = false := decide_eq_false c3
        clear c3
        obtain rfl := Option.some.inj H
        go_wp2
        go_ret
        exact ⟨by first | rfl | (simp; done) | (simp [*]; done), (by repeat (first | (with_reducible first | exact HB.out | apply below_alloc | apply pw_below_drewN | apply below_drew1) | exact HB.out))⟩

set_option maxHeartbeats 8000000 in
set_option maxRecDepth 100000 in
theorem opens_last.stays (k : Nat) (A0 : Option Addr) (c0 : Nat) (l0 : List S35) (ex : ByteArray) (b1 : Nat) (b2 : Nat) (r : Int) (w : World) (hr0 : Kd.C k35 w A0 l0.length l0) (hc0 : l0.length ≤ c0) (hf1 : w.heap[b1]? = some (.cells #[.string ex] 9 (0, 0))) (hf2 : w.heap[b2]? = some (.cells #[.func (.func 30) #[] #[.pointer (some ⟨b1, 0, none⟩)]] 42 (0, 0))) (h : opens_last.f (fun k x => opens_stays.p k ex x) k l0 = some r) :
    Calls Try.prog 27 #[.slice A0 l0.length c0, .func (.func 31) #[] #[.pointer (some ⟨b2, 0, none⟩)]] w fun e w' => e = .returned (.int .i64 r) ∧ Below w.heap.size w w' := by
  have hmf := opens_mf
  have HR0 := Aside0.mk hr0
  have HC0 := Aside0.mk hc0
  clear hr0 hc0
  have HB := Aside0.mk (Below.refl w.heap.size w)
  have HF := Aside0.mk hf1
  have HG := Aside0.mk hf2
  clear hf1 hf2
  unfold opens_last.f at h
  have H' := Aside0.mk h
  clear h
  go_enter Try.func27, Try.ntmps27
  go_wp2
  go_loopg [5] k (fun kq v5 w' => ∃ (x5_1 : Int), v5 = .int .i64 x5_1 ∧ Aside0 (opens_last.l0 (fun k x => opens_stays.p k ex x) kq l0 x5_1 = some r) ∧ Aside0 (kq ≤ k) ∧ Aside0 (Below w.heap.size w w'))
  case atStart => exact ⟨(wrap64 ((l0.length : Int) - 1)), (by first | rfl | (simp; done) | (simp [*]; done)), H', ⟨Nat.le_refl _⟩, ⟨(by repeat (first | (with_reducible first | exact HB.out | apply below_alloc | apply pw_below_drewN | apply below_drew1) | exact HB.out))⟩⟩
  case round =>
    clear H' HB
    obtain ⟨x5_1, rfl, HA, HK1, HB⟩ := hrel
    cases gk with
    | zero => exact absurd HA.out (by simp [opens_last.l0])
    | succ k1 =>
      have H := HA.out
      clear HA
      simp only [opens_last.l0] at H
      by_cases c3 : x5_1 ≥ 0
      · rw [if_pos c3] at H
        have c3b0 : decide (0 ≤ x5_1) = true := decide_eq_true c3
        rw [if_pos c3] at H
        by_cases c5 : x5_1 < (l0.length : Int)
        · rw [if_pos c5] at H
          have c5b0 : decide (x5_1 < (l0.length : Int)) = true := decide_eq_true c5
          have p_ : 0 ≤ x5_1 := c3
          have q_ : x5_1 < (l0.length : Int) := c5
          clear c3 c5
          obtain ⟨t1, A30, H⟩ := Option.bind_eq_some_iff.mp H
          have A3 := Aside0.mk A30
          clear A30
          by_cases c6 : t1 = true
          · subst c6
            rw [if_pos rfl] at H
            obtain rfl := Option.some.inj H
            obtain ⟨ad, e_, hx_0, hx_1, hx_2⟩ := at_T35 HR0.out x5_1 p_ q_
            cases e_
            replace hx_0 := (HB.out.cell (World.block_lt_of_cell? w _ hx_0)).trans hx_0
            replace hx_1 := (HB.out.cell (World.block_lt_of_cell? w _ hx_1)).trans hx_1
            replace hx_2 := (HB.out.cell (World.block_lt_of_cell? w _ hx_2)).trans hx_2
            replace p_ := eq_true p_
            replace q_ := eq_true q_
            go_wp2_with (first | (go_at_call 31; (with_reducible refine (opens_stays.one k1 ex b1 b2 (rd_T35 l0 x5_1) true _ (blk_below HF.out HB.out) (blk_below HG.out HB.out) A3.out).mono ?_); rintro e w2 ⟨rfl, hb⟩; have n0_ := Aside0.mk (below_step (by repeat (first | (with_reducible first | exact HB.out | apply below_alloc | apply pw_below_drewN | apply below_drew1) | exact HB.out)) hb); clear HB; have HB := n0_; clear n0_; clear hb))
            go_ret
            exact ⟨by first | rfl | (simp; done) | (simp [*]; done), (by repeat (first | (with_reducible first | exact HB.out | apply below_alloc | apply pw_below_drewN | apply below_drew1) | exact HB.out))⟩
          · replace c6 := Bool.eq_false_iff.mpr c6
            subst c6
            rw [if_neg (by decide)] at H
            have H' := Aside0.mk H
            clear H
            obtain ⟨ad, e_, hx_0, hx_1, hx_2⟩ := at_T35 HR0.out x5_1 p_ q_
            cases e_
            replace hx_0 := (HB.out.cell (World.block_lt_of_cell? w _ hx_0)).trans hx_0
            replace hx_1 := (HB.out.cell (World.block_lt_of_cell? w _ hx_1)).trans hx_1
            replace hx_2 := (HB.out.cell (World.block_lt_of_cell? w _ hx_2)).trans hx_2
            replace p_ := eq_true p_
            replace q_ := eq_true q_
            go_wp2_with (first | (go_at_call 31; (with_reducible refine (opens_stays.one k1 ex b1 b2 (rd_T35 l0 x5_1) false _ (blk_below HF.out HB.out) (blk_below HG.out HB.out) A3.out).mono ?_); rintro e w2 ⟨rfl, hb⟩; have n0_ := Aside0.mk (below_step (by repeat (first | (with_reducible first | exact HB.out | apply below_alloc | apply pw_below_drewN | apply below_drew1) | exact HB.out)) hb); clear HB; have HB := n0_; clear n0_; clear hb))
            go_roundg k1
            case measure => have := HK1.out; omega
            case rel => exact ⟨(wrap64 (x5_1 - 1)), (by first | rfl | (simp; done) | (simp [*]; done)), H', ⟨by have := HK1.out; omega⟩, ⟨(by repeat (first | (with_reducible first | exact HB.out | apply below_alloc | apply pw_below_drewN | apply below_drew1) | exact HB.out))⟩⟩
        · rw [if_neg c5] at H
          exact absurd H (by simp)
      · rw [if_neg c3] at H
        have c3b0 : decide (0 ≤ x5_1) = false := decide_eq_false c3
        clear c3
        obtain rfl := Option.some.inj H
        go_wp2
        go_ret
        exact ⟨by first | rfl | (simp; done) | (simp [*]; done), (by repeat (first | (with_reducible first | exact HB.out | apply below_alloc | apply pw_below_drewN | apply below_drew1) | exact HB.out))⟩

set_option maxHeartbeats 8000000 in
set_option maxRecDepth 100000 in
theorem opens_last.found (k : Nat) (A0 : Option Addr) (c0 : Nat) (l0 : List S35) (id : Int) (b1 : Nat) (r : Int) (w : World) (hr0 : Kd.C k35 w A0 l0.length l0) (hc0 : l0.length ≤ c0) (hf1 : w.heap[b1]? = some (.cells #[.int .i64 id] 3 (0, 0))) (h : opens_last.f (fun _ x => opens_found.p id x) k l0 = some r) :
    Calls Try.prog 27 #[.slice A0 l0.length c0, .func (.func 32) #[] #[.pointer (some ⟨b1, 0, none⟩)]] w fun e w' => e = .returned (.int .i64 r) ∧ Below w.heap.size w w' := by
  have hmf := opens_mf
  have HR0 := Aside0.mk hr0
  have HC0 := Aside0.mk hc0
  clear hr0 hc0
  have HB := Aside0.mk (Below.refl w.heap.size w)
  have HF := Aside0.mk hf1
  clear hf1
  unfold opens_last.f at h
  have H' := Aside0.mk h
  clear h
  go_enter Try.func27, Try.ntmps27
  go_wp2
  go_loopg [5] k (fun kq v5 w' => ∃ (x5_1 : Int), v5 = .int .i64 x5_1 ∧ Aside0 (opens_last.l0 (fun _ x => opens_found.p id x) kq l0 x5_1 = some r) ∧ Aside0 (kq ≤ k) ∧ Aside0 (Below w.heap.size w w'))
  case atStart => exact ⟨(wrap64 ((l0.length : Int) - 1)), (by first | rfl | (simp; done) | (simp [*]; done)), H', ⟨Nat.le_refl _⟩, ⟨(by repeat (first | (with_reducible first | exact HB.out | apply below_alloc | apply pw_below_drewN | apply below_drew1) | exact HB.out))⟩⟩
  case round =>
    clear H' HB
    obtain ⟨x5_1, rfl, HA, HK1, HB⟩ := hrel
    cases gk with
    | zero => exact absurd HA.out (by simp [opens_last.l0])
    | succ k1 =>
      have H := HA.out
      clear HA
      simp only [opens_last.l0] at H
      by_cases c3 : x5_1 ≥ 0
      · rw [if_pos c3] at H
        have c3b0 : decide (0 ≤ x5_1) = true := decide_eq_true c3
        rw [if_pos c3] at H
        by_cases c5 : x5_1 < (l0.length : Int)
        · rw [if_pos c5] at H
          have c5b0 : decide (x5_1 < (l0.length : Int)) = true := decide_eq_true c5
          have p_ : 0 ≤ x5_1 := c3
          have q_ : x5_1 < (l0.length : Int) := c5
          clear c3 c5
          obtain ⟨t1, A30, H⟩ := Option.bind_eq_some_iff.mp H
          have A3 := Aside0.mk A30
          clear A30
          by_cases c6 : t1 = true
          · subst c6
            rw [if_pos rfl] at H
            obtain rfl := Option.some.inj H
            obtain ⟨ad, e_, hx_0, hx_1, hx_2⟩ := at_T35 HR0.out x5_1 p_ q_
            cases e_
            replace hx_0 := (HB.out.cell (World.block_lt_of_cell? w _ hx_0)).trans hx_0
            replace hx_1 := (HB.out.cell (World.block_lt_of_cell? w _ hx_1)).trans hx_1
            replace hx_2 := (HB.out.cell (World.block_lt_of_cell? w _ hx_2)).trans hx_2
            replace p_ := eq_true p_
            replace q_ := eq_true q_
            go_wp2_with (first | (go_at_call 32; (with_reducible refine (opens_found.one k1 id b1 (rd_T35 l0 x5_1) true _ (blk_below HF.out HB.out) A3.out).mono ?_); rintro e w2 ⟨rfl, hb⟩; have n0_ := Aside0.mk (below_step (by repeat (first | (with_reducible first | exact HB.out | apply below_alloc | apply pw_below_drewN | apply below_drew1) | exact HB.out)) hb); clear HB; have HB := n0_; clear n0_; clear hb))
            go_ret
            exact ⟨by first | rfl | (simp; done) | (simp [*]; done), (by repeat (first | (with_reducible first | exact HB.out | apply below_alloc | apply pw_below_drewN | apply below_drew1) | exact HB.out))⟩
          · replace c6 := Bool.eq_false_iff.mpr c6
            subst c6
            rw [if_neg (by decide)] at H
            have H' := Aside0.mk H
            clear H
            obtain ⟨ad, e_, hx_0, hx_1, hx_2⟩ := at_T35 HR0.out x5_1 p_ q_
            cases e_
            replace hx_0 := (HB.out.cell (World.block_lt_of_cell? w _ hx_0)).trans hx_0
            replace hx_1 := (HB.out.cell (World.block_lt_of_cell? w _ hx_1)).trans hx_1
            replace hx_2 := (HB.out.cell (World.block_lt_of_cell? w _ hx_2)).trans hx_2
            replace p_ := eq_true p_
            replace q_ := eq_true q_
            go_wp2_with (first | (go_at_call 32; (with_reducible refine (opens_found.one k1 id b1 (rd_T35 l0 x5_1) false _ (blk_below HF.out HB.out) A3.out).mono ?_); rintro e w2 ⟨rfl, hb⟩; have n0_ := Aside0.mk (below_step (by repeat (first | (with_reducible first | exact HB.out | apply below_alloc | apply pw_below_drewN | apply below_drew1) | exact HB.out)) hb); clear HB; have HB := n0_; clear n0_; clear hb))
            go_roundg k1
            case measure => have := HK1.out; omega
            case rel => exact ⟨(wrap64 (x5_1 - 1)), (by first | rfl | (simp; done) | (simp [*]; done)), H', ⟨by have := HK1.out; omega⟩, ⟨(by repeat (first | (with_reducible first | exact HB.out | apply below_alloc | apply pw_below_drewN | apply below_drew1) | exact HB.out))⟩⟩
        · rw [if_neg c5] at H
          exact absurd H (by simp)
      · rw [if_neg c3] at H
        have c3b0 : decide (0 ≤ x5_1) = false := decide_eq_false c3
        clear c3
        obtain rfl := Option.some.inj H
        go_wp2
        go_ret
        exact ⟨by first | rfl | (simp; done) | (simp [*]; done), (by repeat (first | (with_reducible first | exact HB.out | apply below_alloc | apply pw_below_drewN | apply below_drew1) | exact HB.out))⟩

/-! ### named: function 26 -/
set_option maxHeartbeats 8000000 in
set_option maxRecDepth 100000 in
theorem opens_named.makes (A1 : Option Addr) (c1 : Nat) (l1 : List ByteArray) (w : World) :
    Calls Try.prog 26 #[.slice A1 l1.length c1] w fun e w' => ∃ b, e = .returned (.func (.func 45) #[] #[.pointer (some ⟨b, 0, none⟩)]) ∧ w'.heap[b]? = some (.cells #[.slice A1 l1.length c1] 23 (0, 0)) ∧ Below w.heap.size w w' := by
  have hmf := opens_mf
  have HB := Aside0.mk (Below.refl w.heap.size w)
  go_enter Try.func26, Try.ntmps26
  go_wp2_with (first | ((with_reducible refine gate_dst (N := 1) rfl ?_); refine box_event ?hg (N := 1) ?hd (cs := #[.slice A1 l1.length c1]) (t := 23) ?hr ?_; (case hd => rfl); (case hg => rfl); (case hr => first | (go_simp; done) | (go_simp; rfl)); intro gb hg w1 hbox hb; have n0_ := Aside0.mk (below_step (by repeat (first | (with_reducible first | exact HB.out | apply below_alloc | apply pw_below_drewN | apply below_drew1) | exact HB.out)) hb); have n1_ := Aside0.mk (hbox); have n2_ := Aside0.mk ((by rw [hg]; exact (below_size (by repeat (first | (with_reducible first | exact HB.out | apply below_alloc | apply pw_below_drewN | apply below_drew1) | exact HB.out)))) : w.heap.size ≤ gb); clear HB; have HB := n0_; have BKgb := n1_; have GEgb := n2_; clear n0_ n1_ n2_; clear hb hbox hg; have hczgb_0 : w1.cell? ⟨gb, 0, none⟩ = some (.slice A1 l1.length c1) := (blk_cell BKgb.out 0).trans rfl; have hfzgb_0 := blk_frozen BKgb.out 0))
  go_ret
  exact ⟨gb, rfl, BKgb.out, HB.out⟩

/-! ### Has: function 11 -/
def opens_Has.f (k : Nat) (l0 : List (S35)) (l1 : List ByteArray) (a2 : Int) : Option (Bool) := (opens_last.f (fun k x => opens_stop.p k l1 a2 x) k l0).bind fun t => if 0 ≤ t then (if t < (l0.length : Int) then opens_named.p k l1 (rd_T35 l0 t) else none) else some false
theorem opens_Has.mono : ∀ a0 a1 a2 k, LeO (opens_Has.f k a0 a1 a2) (opens_Has.f (k + 1) a0 a1 a2) := by
  intro a0 a1 a2 k
  unfold opens_Has.f
  exact LeO.bind (opens_last.mono _ (fun _ _ => opens_stop.mono _ _ _ _) _ _) (fun _ => LeO.ite (LeO.ite (opens_named.mono _ _ _) (LeO.refl _)) (LeO.refl _))

set_option maxHeartbeats 8000000 in
set_option maxRecDepth 100000 in
theorem opens_Has.calls (k : Nat) (A0 : Option Addr) (c0 : Nat) (l0 : List (S35)) (A1 : Option Addr) (c1 : Nat) (l1 : List ByteArray) (a2 : Int) (r : Bool) (w : World) (hr0 : Kd.C k35 w A0 l0.length l0) (hc0 : l0.length ≤ c0) (hr1 : Kd.C Kd.string w A1 l1.length l1) (hc1 : l1.length ≤ c1) (h : opens_Has.f k l0 l1 a2 = some r) :
    Calls Try.prog 11 #[.slice A0 l0.length c0, .slice A1 l1.length c1, .int .i64 a2] w fun e w' => e = .returned (.bool r) ∧ Below w.heap.size w w' := by
  have hmf := opens_mf
  have hsf := fun (a : Addr) (n : Nat) (c : Array Value) (w : World) => run_store Try.prog w a (.func (.func n) #[] c) .plain rfl
  have hu35 := Try.underlying35
  have HB := Aside0.mk (Below.refl w.heap.size w)
  have HR0 := Aside0.mk hr0
  have HC0 := Aside0.mk hc0
  clear hr0 hc0
  have HR1 := Aside0.mk hr1
  have HC1 := Aside0.mk hc1
  clear hr1 hc1
  obtain ⟨t1, A30, h⟩ := Option.bind_eq_some_iff.mp h
  have A3 := Aside0.mk A30
  clear A30
  by_cases c3 : 0 ≤ t1
  · rw [if_pos c3] at h
    have c3b0 : decide (0 ≤ t1) = true := decide_eq_true c3
    by_cases c5 : t1 < (l0.length : Int)
    · rw [if_pos c5] at h
      have c5b0 : decide (t1 < (l0.length : Int)) = true := decide_eq_true c5
      have A4 := Aside0.mk h
      clear h
      go_enter Try.func11, Try.ntmps11
      go_wp2_with (first | ((with_reducible refine gate_dst (N := 5) rfl ?_); refine box_event ?hg (N := 5) ?hd (cs := #[.int .i64 a2]) (t := 24) ?hr ?_; (case hd => rfl); (case hg => rfl); (case hr => first | (go_simp; done) | (go_simp; rfl)); intro g5 hg w1 hbox hb; have n0_ := Aside0.mk (below_step (by repeat (first | (with_reducible first | exact HB.out | apply below_alloc | apply pw_below_drewN | apply below_drew1) | exact HB.out)) hb); have n1_ := Aside0.mk (hbox); have n2_ := Aside0.mk ((by rw [hg]; exact (below_size (by repeat (first | (with_reducible first | exact HB.out | apply below_alloc | apply pw_below_drewN | apply below_drew1) | exact HB.out)))) : w.heap.size ≤ g5); clear HB; have HB := n0_; have BKg5 := n1_; have GEg5 := n2_; clear n0_ n1_ n2_; clear hb hbox hg; have hczg5_0 : w1.cell? ⟨g5, 0, none⟩ = some (.int .i64 a2) := (blk_cell BKg5.out 0).trans rfl; have hfzg5_0 := blk_frozen BKg5.out 0) | (go_at_call 26; (with_reducible refine (opens_named.makes A1 c1 l1 _).mono ?_); rintro e w2 ⟨b1, rfl, hbx, hb⟩; have n0_ := Aside0.mk (below_step (by repeat (first | (with_reducible first | exact HB.out | apply below_alloc | apply pw_below_drewN | apply below_drew1) | exact HB.out)) hb); have n1_ := Aside0.mk hbx; have k0_ := Aside0.mk (blk_below (g := g5) (o := .cells #[.int .i64 a2] 24 (0, 0)) (by (with_reducible repeat (first | refine blk_drewN ?_ _ | refine blk_drew ?_ | refine blk_alloc ?_ _)); exact BKg5.out) hb); clear HB; have HB := n0_; have HFN := n1_; clear n0_ n1_ hb hbx; clear BKg5; have BKg5 := k0_; clear k0_) | ((with_reducible refine gate_dst (N := 7) rfl ?_); refine box_event ?hg (N := 7) ?hd (cs := #[.nilFunc]) (t := 42) ?hr ?_; (case hd => rfl); (case hg => rfl); (case hr => first | (go_simp; done) | (go_simp; rfl)); intro g7 hg w3 hbox hb; have n0_ := Aside0.mk (below_step (by repeat (first | (with_reducible first | exact HB.out | apply below_alloc | apply pw_below_drewN | apply below_drew1) | exact HB.out)) hb); have n1_ := Aside0.mk (hbox); have n2_ := Aside0.mk ((by rw [hg]; exact (below_size (by repeat (first | (with_reducible first | exact HB.out | apply below_alloc | apply pw_below_drewN | apply below_drew1) | exact HB.out)))) : w.heap.size ≤ g7); have k0_ := Aside0.mk (blk_below (g := g5) (o := .cells #[.int .i64 a2] 24 (0, 0)) (by (with_reducible repeat (first | refine blk_drewN ?_ _ | refine blk_drew ?_ | refine blk_alloc ?_ _)); exact BKg5.out) hb); have k1_ := Aside0.mk (blk_below (g := b1) (o := .cells #[.slice A1 l1.length c1] 23 (0, 0)) (by (with_reducible repeat (first | refine blk_drewN ?_ _ | refine blk_drew ?_ | refine blk_alloc ?_ _)); exact HFN.out) hb); clear HB; have HB := n0_; have BKg7 := n1_; have GEg7 := n2_; clear n0_ n1_ n2_; clear hb hbox hg; clear BKg5; have BKg5 := k0_; clear k0_; clear HFN; have HFN := k1_; clear k1_; have hczg7_0 : w3.cell? ⟨g7, 0, none⟩ = some (.nilFunc) := (blk_cell BKg7.out 0).trans rfl; have hfzg7_0 := blk_frozen BKg7.out 0; have hczg7BKg5_0 : w3.cell? ⟨g5, 0, none⟩ = some (.int .i64 a2) := (blk_cell BKg5.out 0).trans rfl; have hfzg7BKg5_0 := blk_frozen BKg5.out 0; have hczg7HFN_0 : w3.cell? ⟨b1, 0, none⟩ = some (.slice A1 l1.length c1) := (blk_cell HFN.out 0).trans rfl; have hfzg7HFN_0 := blk_frozen HFN.out 0) | ((with_reducible refine gate_store (t := 42) (p := 7) rfl ?_); refine store_event (t := 42) (p := 7) (v := ?vo_) (w1 := w3.setCell ⟨g7, 0, none⟩ (.func (.func 45) #[] #[.pointer (some ⟨b1, 0, none⟩)])) ?hg ?ho ?hn ?hr ?_; (case ho => rfl); (case hg => rfl); (case hn => rfl); (case hr => first | (go_simp; done) | (go_simp; rfl) | (go_simp; rw [opens_sf _ _ _ _ _ (by assumption) (by assumption)]; done)); intro w4 hw; have n0_ := Aside0.mk ((by rw [hw]; exact below_set HB.out GEg7.out) : Below w.heap.size w w4); have n1_ := Aside0.mk ((by rw [hw]; exact blk_put BKg7.out 0 _ rfl) : w4.heap[g7]? = some (.cells #[.func (.func 45) #[] #[.pointer (some ⟨b1, 0, none⟩)]] 42 (0, 0))); have k0_ := Aside0.mk ((by rw [hw]; exact blk_far BKg5.out (blk_ne BKg5.out BKg7.out (by decide)) _) : w4.heap[g5]? = some (.cells #[.int .i64 a2] 24 (0, 0))); have k1_ := Aside0.mk ((by rw [hw]; exact blk_far HFN.out (blk_ne HFN.out BKg7.out (by decide)) _) : w4.heap[b1]? = some (.cells #[.slice A1 l1.length c1] 23 (0, 0))); clear hw; clear HB BKg7; have HB := n0_; have BKg7 := n1_; clear n0_ n1_; clear BKg5; have BKg5 := k0_; clear k0_; clear HFN; have HFN := k1_; clear k1_; have hczw4g7_0 : w4.cell? ⟨g7, 0, none⟩ = some (.func (.func 45) #[] #[.pointer (some ⟨b1, 0, none⟩)]) := (blk_cell BKg7.out 0).trans rfl; have hfzw4g7_0 := blk_frozen BKg7.out 0; have hczw4BKg5_0 : w4.cell? ⟨g5, 0, none⟩ = some (.int .i64 a2) := (blk_cell BKg5.out 0).trans rfl; have hfzw4BKg5_0 := blk_frozen BKg5.out 0; have hczw4HFN_0 : w4.cell? ⟨b1, 0, none⟩ = some (.slice A1 l1.length c1) := (blk_cell HFN.out 0).trans rfl; have hfzw4HFN_0 := blk_frozen HFN.out 0) | (go_at_call 27; (with_reducible refine (opens_last.stop k A0 c0 l0 A1 c1 l1 b1 g7 g5 a2 t1 _ ?side1 HC0.out ?side2 HC1.out HFN.out BKg7.out BKg5.out A3.out).mono ?_); (case side1 => exact Kd.C_below HR0.out HB.out); (case side2 => exact Kd.C_below HR1.out HB.out); rintro e w5 ⟨rfl, hb⟩; have n0_ := Aside0.mk (below_step (by repeat (first | (with_reducible first | exact HB.out | apply below_alloc | apply pw_below_drewN | apply below_drew1) | exact HB.out)) hb); have k0_ := Aside0.mk (blk_below (g := g5) (o := .cells #[.int .i64 a2] 24 (0, 0)) (by (with_reducible repeat (first | refine blk_drewN ?_ _ | refine blk_drew ?_ | refine blk_alloc ?_ _)); exact BKg5.out) hb); have k1_ := Aside0.mk (blk_below (g := b1) (o := .cells #[.slice A1 l1.length c1] 23 (0, 0)) (by (with_reducible repeat (first | refine blk_drewN ?_ _ | refine blk_drew ?_ | refine blk_alloc ?_ _)); exact HFN.out) hb); have k2_ := Aside0.mk (blk_below (g := g7) (o := .cells #[.func (.func 45) #[] #[.pointer (some ⟨b1, 0, none⟩)]] 42 (0, 0)) (by (with_reducible repeat (first | refine blk_drewN ?_ _ | refine blk_drew ?_ | refine blk_alloc ?_ _)); exact BKg7.out) hb); clear HB; have HB := n0_; clear n0_; clear hb; clear BKg5; have BKg5 := k0_; clear k0_; clear HFN; have HFN := k1_; clear k1_; clear BKg7; have BKg7 := k2_; clear k2_; have hczw5BKg5_0 : w5.cell? ⟨g5, 0, none⟩ = some (.int .i64 a2) := (blk_cell BKg5.out 0).trans rfl; have hfzw5BKg5_0 := blk_frozen BKg5.out 0; have hczw5HFN_0 : w5.cell? ⟨b1, 0, none⟩ = some (.slice A1 l1.length c1) := (blk_cell HFN.out 0).trans rfl; have hfzw5HFN_0 := blk_frozen HFN.out 0; have hczw5BKg7_0 : w5.cell? ⟨g7, 0, none⟩ = some (.func (.func 45) #[] #[.pointer (some ⟨b1, 0, none⟩)]) := (blk_cell BKg7.out 0).trans rfl; have hfzw5BKg7_0 := blk_frozen BKg7.out 0))
      obtain ⟨ad, e_, hx_0, hx_1, hx_2⟩ := at_T35 HR0.out t1 c3 c5
      cases e_
      have p_ := eq_true c3
      have q_ := eq_true c5
      clear c3 c5
      have ha_0 := World.block_lt_of_cell? w _ hx_0
      have ha_1 := World.block_lt_of_cell? w _ hx_1
      have ha_2 := World.block_lt_of_cell? w _ hx_2
      have HK := Aside0.mk (Below.refl w5.heap.size w5)
      have HS : ∀ W : World, Below w5.heap.size w5 W → W.cell? ⟨g7, 0, none⟩ = some (.func (.func 45) #[] #[.pointer (some ⟨b1, 0, none⟩)]) ∧ W.cell? (ad.add (t1.toNat * 3)) = some (.int .i64 (rd_T35 l0 t1).f0) ∧ W.cell? ⟨(ad.add (t1.toNat * 3)).block, (ad.add (t1.toNat * 3)).off + 1, none⟩ = some (.int .i64 (rd_T35 l0 t1).f1) ∧ W.cell? ⟨(ad.add (t1.toNat * 3)).block, (ad.add (t1.toNat * 3)).off + 2, none⟩ = some (.string (rd_T35 l0 t1).f2) := fun W hb_ => ⟨(blk_cell (blk_below BKg7.out hb_) 0).trans rfl, ((below_step HB.out hb_).cell ha_0).trans hx_0, ((below_step HB.out hb_).cell ha_1).trans hx_1, ((below_step HB.out hb_).cell ha_2).trans hx_2⟩
      have HSa := Aside0.mk HS
      clear HS hx_0 hx_1 hx_2
      go_region_held3 (fun W => W.cell? ⟨g7, 0, none⟩ = some (.func (.func 45) #[] #[.pointer (some ⟨b1, 0, none⟩)]) ∧ W.cell? (ad.add (t1.toNat * 3)) = some (.int .i64 (rd_T35 l0 t1).f0) ∧ W.cell? ⟨(ad.add (t1.toNat * 3)).block, (ad.add (t1.toNat * 3)).off + 1, none⟩ = some (.int .i64 (rd_T35 l0 t1).f1) ∧ W.cell? ⟨(ad.add (t1.toNat * 3)).block, (ad.add (t1.toNat * 3)).off + 2, none⟩ = some (.string (rd_T35 l0 t1).f2)) ((refine HSa.out _ ?_; repeat (first | (with_reducible first | exact HK.out | apply below_alloc | apply pw_below_drewN | apply below_drew1) | exact HK.out))) (first | (go_at_call 45; (with_reducible refine (opens_named.one k A1 c1 l1 b1 (rd_T35 l0 t1) r _ ?side1 HC1.out (blk_below HFN.out (by repeat (first | (with_reducible first | exact HK.out | apply below_alloc | apply pw_below_drewN | apply below_drew1) | exact HK.out))) A4.out).mono ?_); (case side1 => exact Kd.C_below HR1.out (below_step HB.out (by repeat (first | (with_reducible first | exact HK.out | apply below_alloc | apply pw_below_drewN | apply below_drew1) | exact HK.out)))); rintro e w6 ⟨rfl, hb⟩; have n0_ := Aside0.mk (below_step (by repeat (first | (with_reducible first | exact HK.out | apply below_alloc | apply pw_below_drewN | apply below_drew1) | exact HK.out)) hb); clear HK; have HK := n0_; clear n0_ hb))
      go_wp2
      go_ret
      exact ⟨by first | rfl | (simp; done) | (simp [*]; done), below_step HB.out (by repeat (first | (with_reducible first | exact HK.out | apply below_alloc | apply pw_below_drewN | apply below_drew1) | exact HK.out))⟩
    · rw [if_neg c5] at h
      exact absurd h (by simp)
  · rw [if_neg c3] at h
    have c3b0 : decide (0 ≤ t1) = false := decide_eq_false c3
    clear c3
    obtain rfl := Option.some.inj h
    go_enter Try.func11, Try.ntmps11
    go_wp2_with (first | ((with_reducible refine gate_dst (N := 5) rfl ?_); refine box_event ?hg (N := 5) ?hd (cs := #[.int .i64 a2]) (t := 24) ?hr ?_; (case hd => rfl); (case hg => rfl); (case hr => first | (go_simp; done) | (go_simp; rfl)); intro g5 hg w1 hbox hb; have n0_ := Aside0.mk (below_step (by repeat (first | (with_reducible first | exact HB.out | apply below_alloc | apply pw_below_drewN | apply below_drew1) | exact HB.out)) hb); have n1_ := Aside0.mk (hbox); have n2_ := Aside0.mk ((by rw [hg]; exact (below_size (by repeat (first | (with_reducible first | exact HB.out | apply below_alloc | apply pw_below_drewN | apply below_drew1) | exact HB.out)))) : w.heap.size ≤ g5); clear HB; have HB := n0_; have BKg5 := n1_; have GEg5 := n2_; clear n0_ n1_ n2_; clear hb hbox hg; have hczg5_0 : w1.cell? ⟨g5, 0, none⟩ = some (.int .i64 a2) := (blk_cell BKg5.out 0).trans rfl; have hfzg5_0 := blk_frozen BKg5.out 0) | (go_at_call 26; (with_reducible refine (opens_named.makes A1 c1 l1 _).mono ?_); rintro e w2 ⟨b1, rfl, hbx, hb⟩; have n0_ := Aside0.mk (below_step (by repeat (first | (with_reducible first | exact HB.out | apply below_alloc | apply pw_below_drewN | apply below_drew1) | exact HB.out)) hb); have n1_ := Aside0.mk hbx; have k0_ := Aside0.mk (blk_below (g := g5) (o := .cells #[.int .i64 a2] 24 (0, 0)) (by (with_reducible repeat (first | refine blk_drewN ?_ _ | refine blk_drew ?_ | refine blk_alloc ?_ _)); exact BKg5.out) hb); clear HB; have HB := n0_; have HFN := n1_; clear n0_ n1_ hb hbx; clear BKg5; have BKg5 := k0_; clear k0_) | ((with_reducible refine gate_dst (N := 7) rfl ?_); refine box_event ?hg (N := 7) ?hd (cs := #[.nilFunc]) (t := 42) ?hr ?_; (case hd => rfl); (case hg => rfl); (case hr => first | (go_simp; done) | (go_simp; rfl)); intro g7 hg w3 hbox hb; have n0_ := Aside0.mk (below_step (by repeat (first | (with_reducible first | exact HB.out | apply below_alloc | apply pw_below_drewN | apply below_drew1) | exact HB.out)) hb); have n1_ := Aside0.mk (hbox); have n2_ := Aside0.mk ((by rw [hg]; exact (below_size (by repeat (first | (with_reducible first | exact HB.out | apply below_alloc | apply pw_below_drewN | apply below_drew1) | exact HB.out)))) : w.heap.size ≤ g7); have k0_ := Aside0.mk (blk_below (g := g5) (o := .cells #[.int .i64 a2] 24 (0, 0)) (by (with_reducible repeat (first | refine blk_drewN ?_ _ | refine blk_drew ?_ | refine blk_alloc ?_ _)); exact BKg5.out) hb); have k1_ := Aside0.mk (blk_below (g := b1) (o := .cells #[.slice A1 l1.length c1] 23 (0, 0)) (by (with_reducible repeat (first | refine blk_drewN ?_ _ | refine blk_drew ?_ | refine blk_alloc ?_ _)); exact HFN.out) hb); clear HB; have HB := n0_; have BKg7 := n1_; have GEg7 := n2_; clear n0_ n1_ n2_; clear hb hbox hg; clear BKg5; have BKg5 := k0_; clear k0_; clear HFN; have HFN := k1_; clear k1_; have hczg7_0 : w3.cell? ⟨g7, 0, none⟩ = some (.nilFunc) := (blk_cell BKg7.out 0).trans rfl; have hfzg7_0 := blk_frozen BKg7.out 0; have hczg7BKg5_0 : w3.cell? ⟨g5, 0, none⟩ = some (.int .i64 a2) := (blk_cell BKg5.out 0).trans rfl; have hfzg7BKg5_0 := blk_frozen BKg5.out 0; have hczg7HFN_0 : w3.cell? ⟨b1, 0, none⟩ = some (.slice A1 l1.length c1) := (blk_cell HFN.out 0).trans rfl; have hfzg7HFN_0 := blk_frozen HFN.out 0) | ((with_reducible refine gate_store (t := 42) (p := 7) rfl ?_); refine store_event (t := 42) (p := 7) (v := ?vo_) (w1 := w3.setCell ⟨g7, 0, none⟩ (.func (.func 45) #[] #[.pointer (some ⟨b1, 0, none⟩)])) ?hg ?ho ?hn ?hr ?_; (case ho => rfl); (case hg => rfl); (case hn => rfl); (case hr => first | (go_simp; done) | (go_simp; rfl) | (go_simp; rw [opens_sf _ _ _ _ _ (by assumption) (by assumption)]; done)); intro w4 hw; have n0_ := Aside0.mk ((by rw [hw]; exact below_set HB.out GEg7.out) : Below w.heap.size w w4); have n1_ := Aside0.mk ((by rw [hw]; exact blk_put BKg7.out 0 _ rfl) : w4.heap[g7]? = some (.cells #[.func (.func 45) #[] #[.pointer (some ⟨b1, 0, none⟩)]] 42 (0, 0))); have k0_ := Aside0.mk ((by rw [hw]; exact blk_far BKg5.out (blk_ne BKg5.out BKg7.out (by decide)) _) : w4.heap[g5]? = some (.cells #[.int .i64 a2] 24 (0, 0))); have k1_ := Aside0.mk ((by rw [hw]; exact blk_far HFN.out (blk_ne HFN.out BKg7.out (by decide)) _) : w4.heap[b1]? = some (.cells #[.slice A1 l1.length c1] 23 (0, 0))); clear hw; clear HB BKg7; have HB := n0_; have BKg7 := n1_; clear n0_ n1_; clear BKg5; have BKg5 := k0_; clear k0_; clear HFN; have HFN := k1_; clear k1_; have hczw4g7_0 : w4.cell? ⟨g7, 0, none⟩ = some (.func (.func 45) #[] #[.pointer (some ⟨b1, 0, none⟩)]) := (blk_cell BKg7.out 0).trans rfl; have hfzw4g7_0 := blk_frozen BKg7.out 0; have hczw4BKg5_0 : w4.cell? ⟨g5, 0, none⟩ = some (.int .i64 a2) := (blk_cell BKg5.out 0).trans rfl; have hfzw4BKg5_0 := blk_frozen BKg5.out 0; have hczw4HFN_0 : w4.cell? ⟨b1, 0, none⟩ = some (.slice A1 l1.length c1) := (blk_cell HFN.out 0).trans rfl; have hfzw4HFN_0 := blk_frozen HFN.out 0) | (go_at_call 27; (with_reducible refine (opens_last.stop k A0 c0 l0 A1 c1 l1 b1 g7 g5 a2 t1 _ ?side1 HC0.out ?side2 HC1.out HFN.out BKg7.out BKg5.out A3.out).mono ?_); (case side1 => exact Kd.C_below HR0.out HB.out); (case side2 => exact Kd.C_below HR1.out HB.out); rintro e w5 ⟨rfl, hb⟩; have n0_ := Aside0.mk (below_step (by repeat (first | (with_reducible first | exact HB.out | apply below_alloc | apply pw_below_drewN | apply below_drew1) | exact HB.out)) hb); have k0_ := Aside0.mk (blk_below (g := g5) (o := .cells #[.int .i64 a2] 24 (0, 0)) (by (with_reducible repeat (first | refine blk_drewN ?_ _ | refine blk_drew ?_ | refine blk_alloc ?_ _)); exact BKg5.out) hb); have k1_ := Aside0.mk (blk_below (g := b1) (o := .cells #[.slice A1 l1.length c1] 23 (0, 0)) (by (with_reducible repeat (first | refine blk_drewN ?_ _ | refine blk_drew ?_ | refine blk_alloc ?_ _)); exact HFN.out) hb); have k2_ := Aside0.mk (blk_below (g := g7) (o := .cells #[.func (.func 45) #[] #[.pointer (some ⟨b1, 0, none⟩)]] 42 (0, 0)) (by (with_reducible repeat (first | refine blk_drewN ?_ _ | refine blk_drew ?_ | refine blk_alloc ?_ _)); exact BKg7.out) hb); clear HB; have HB := n0_; clear n0_; clear hb; clear BKg5; have BKg5 := k0_; clear k0_; clear HFN; have HFN := k1_; clear k1_; clear BKg7; have BKg7 := k2_; clear k2_; have hczw5BKg5_0 : w5.cell? ⟨g5, 0, none⟩ = some (.int .i64 a2) := (blk_cell BKg5.out 0).trans rfl; have hfzw5BKg5_0 := blk_frozen BKg5.out 0; have hczw5HFN_0 : w5.cell? ⟨b1, 0, none⟩ = some (.slice A1 l1.length c1) := (blk_cell HFN.out 0).trans rfl; have hfzw5HFN_0 := blk_frozen HFN.out 0; have hczw5BKg7_0 : w5.cell? ⟨g7, 0, none⟩ = some (.func (.func 45) #[] #[.pointer (some ⟨b1, 0, none⟩)]) := (blk_cell BKg7.out 0).trans rfl; have hfzw5BKg7_0 := blk_frozen BKg7.out 0))
    repeat (go_quiet (fail); try go_wp2)
    go_ret
    exact ⟨by first | rfl | (simp; done) | (simp [*]; done), (by repeat (first | (with_reducible first | exact HB.out | apply below_alloc | apply pw_below_drewN | apply below_drew1) | exact HB.out))⟩


end Go.Proofs.Ytobdmbebgdkelaa.PAll
