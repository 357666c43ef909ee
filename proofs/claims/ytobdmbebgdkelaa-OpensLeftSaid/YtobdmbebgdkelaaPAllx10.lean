-- Written by a program of this session (hprint.py: the kit's print over several laws at once, with functions proved by hand). Lean checks it.
import Derived.Test.YtobdmbebgdkelaaPAllx0
import Derived.Test.YtobdmbebgdkelaaPAllx2
import Derived.Test.YtobdmbebgdkelaaPAllx5
import Derived.Test.YtobdmbebgdkelaaPAllx9
namespace Go.Proofs.Ytobdmbebgdkelaa.PAll
open Go.RowKit Go.Proofs.YtobdmbebgdkelaaW.PrintWords Go.Proofs.YtobdmbebgdkelaaW.PrintLast Go.Proofs.YtobdmbebgdkelaaW.PrintMore
attribute [local go_sem] max2_int min2_int max_two min_two max_three min_three max_four min_four   -- for this text's walks alone
set_option linter.unusedVariables false
set_option linter.unusedSimpArgs false

/-! ### marginaliaref06_Has: function 12 -/
def marginaliaref06_Has.l0 : Nat → List (S35) → List ByteArray → Int → Int → Option (Bool)
  | 0, _, _, _, _ => none
  | k + 1, x0, x1, x2, x7 => if x7 ≥ 0 then (if 0 ≤ x7 then (if x7 < (x0.length : Int) then ((marginaliaref06_among.f k ((rd_T35 x0 x7).f0) ((rd_T35 x0 x7).f1) ((rd_T35 x0 x7).f2) x1).bind fun t199 => (if t199 = true then (some true) else ((marginaliaref06_Ends.f k ((rd_T35 x0 x7).f0) ((rd_T35 x0 x7).f1) ((rd_T35 x0 x7).f2) x2).bind fun t201 => (if t201 = true then (some false) else (marginaliaref06_Has.l0 k x0 x1 x2 (wrap64 (x7 - 1))))))) else (none)) else (none)) else (some false)
def marginaliaref06_Has.f (k : Nat) (l0 : List (S35)) (l1 : List ByteArray) (a2 : Int) : Option (Bool) := marginaliaref06_Has.l0 k l0 l1 a2 (wrap64 ((l0.length : Int) - 1))
theorem marginaliaref06_Has.mono_l : ∀ k, (∀ y0 y1 y2 y3, LeO (marginaliaref06_Has.l0 k y0 y1 y2 y3) (marginaliaref06_Has.l0 (k + 1) y0 y1 y2 y3))
  | 0 => fun _ _ _ _ r h => by simp [marginaliaref06_Has.l0] at h
  | k + 1 => by
    have ih0 := marginaliaref06_Has.mono_l k
    · intro y0 y1 y2 y3
      unfold marginaliaref06_Has.l0
      repeat' first
      | (with_reducible exact ih0 _ _ _ _)
      | (with_reducible exact marginaliaref06_Ends.mono _ _ _ _ _)
      | (with_reducible exact marginaliaref06_among.mono _ _ _ _ _)
      | (with_reducible exact LeO.refl _)
      | (with_reducible exact LeO.none _)
      | (with_reducible refine LeO.ite ?_ ?_)
      | (with_reducible refine LeO.bind ?_ (fun _ => ?_))
      | exact ih0 _ _ _ _
      | exact marginaliaref06_Ends.mono _ _ _ _ _
      | exact marginaliaref06_among.mono _ _ _ _ _
      | exact LeO.none _
      | refine LeO.ite ?_ ?_
      | refine LeO.bind ?_ (fun _ => ?_)
theorem marginaliaref06_Has.mono : ∀ a0 a1 a2 k, LeO (marginaliaref06_Has.f k a0 a1 a2) (marginaliaref06_Has.f (k + 1) a0 a1 a2) := by
  intro a0 a1 a2 k
  have ih0 := marginaliaref06_Has.mono_l k
  unfold marginaliaref06_Has.f
  repeat' first
      | (with_reducible exact ih0 _ _ _ _)
      | (with_reducible exact marginaliaref06_Ends.mono _ _ _ _ _)
      | (with_reducible exact marginaliaref06_among.mono _ _ _ _ _)
      | (with_reducible exact LeO.refl _)
      | (with_reducible exact LeO.none _)
      | (with_reducible refine LeO.ite ?_ ?_)
      | (with_reducible refine LeO.bind ?_ (fun _ => ?_))
      | exact ih0 _ _ _ _
      | exact marginaliaref06_Ends.mono _ _ _ _ _
      | exact marginaliaref06_among.mono _ _ _ _ _
      | exact LeO.none _
      | refine LeO.ite ?_ ?_
      | refine LeO.bind ?_ (fun _ => ?_)
set_option maxHeartbeats 8000000 in
set_option maxRecDepth 100000 in
theorem marginaliaref06_Has.calls (k : Nat) (A0 : Option Addr) (c0 : Nat) (l0 : List (S35)) (A1 : Option Addr) (c1 : Nat) (l1 : List ByteArray) (a2 : Int) (r : Bool) (w : World) (hr0 : Kd.C k35 w A0 l0.length l0) (hc0 : l0.length ≤ c0) (hr1 : Kd.C Kd.string w A1 l1.length l1) (hc1 : l1.length ≤ c1) (h : marginaliaref06_Has.f k l0 l1 a2 = some r) :
    Calls Try.prog 12 #[.slice A0 l0.length c0, .slice A1 l1.length c1, .int .i64 a2] w fun e w' => e = .returned (.bool r) ∧ Below w.heap.size w w' := by
  have hu35 := Try.underlying35
  have HR0 := Aside0.mk hr0
  have HC0 := Aside0.mk hc0
  clear hr0 hc0
  have HR1 := Aside0.mk hr1
  have HC1 := Aside0.mk hc1
  clear hr1 hc1
  have HB := Aside0.mk (Below.refl w.heap.size w)
  have H : (marginaliaref06_Has.l0 k l0 l1 a2 (wrap64 ((l0.length : Int) - 1))) = some r := h
  clear h
  have H' := Aside0.mk H
  clear H
  go_enter Try.func12, Try.ntmps12
  go_wp2
  go_loopg [7] k (fun kq v7 w' => ∃ (x7_1 : Int), v7 = .int .i64 x7_1 ∧ Aside0 (marginaliaref06_Has.l0 kq l0 l1 a2 x7_1 = some r) ∧ Aside0 (kq ≤ k) ∧ Aside0 (Below w.heap.size w w'))
  case atStart => exact ⟨(wrap64 ((l0.length : Int) - 1)), (by first | rfl | (simp; done) | (simp [*]; done)), H', ⟨Nat.le_refl _⟩, ⟨by repeat (first | (with_reducible first | exact HB.out | apply below_alloc | apply pw_below_drewN | apply below_drew1) | exact HB.out)⟩⟩
  case round =>
    clear H'
    try clear c1
    try clear p2
    obtain ⟨x7_1, rfl, HA, HK1, HB⟩ := hrel
    cases gk with
    | zero => exact absurd HA.out (by simp [marginaliaref06_Has.l0])
    | succ k1 =>
      have H := HA.out
      clear HA
      simp only [marginaliaref06_Has.l0] at H
      by_cases c4 : x7_1 ≥ 0
      · rw [if_pos c4] at H
        have c4b0 : decide (0 ≤ x7_1) = true := decide_eq_true c4
        clear c4
        by_cases c5 : 0 ≤ x7_1
        · rw [if_pos c5] at H
          have c5b0 : decide (0 ≤ x7_1) = true := decide_eq_true c5
          clear c5
          by_cases c6 : x7_1 < (l0.length : Int)
          · rw [if_pos c6] at H
            have c6b0 : decide (x7_1 < (l0.length : Int)) = true := decide_eq_true c6
            clear c6
            replace H := Option.bind_eq_some_iff.mp H
            obtain ⟨t199, A70, H⟩ := H
            replace H : (if t199 = true then (some true) else ((marginaliaref06_Ends.f k1 ((rd_T35 l0 x7_1).f0) ((rd_T35 l0 x7_1).f1) ((rd_T35 l0 x7_1).f2) a2).bind fun t201 => (if t201 = true then (some false) else (marginaliaref06_Has.l0 k1 l0 l1 a2 (wrap64 (x7_1 - 1)))))) = some r := H
            have A7 := Aside0.mk A70
            clear A70
            by_cases c8 : t199 = true
            · subst c8
              have H1 : (some true) = some r := by rw [if_pos rfl] at H; exact H
              clear H
              have H := H1
              clear H1
              obtain rfl := Option.some.inj H
              have p198 : 0 ≤ (x7_1 : Int) := of_decide_eq_true (by first | (with_reducible assumption) | assumption)
              have q198 : x7_1 < (l0.length : Int) := of_decide_eq_true (by first | (with_reducible assumption) | assumption)
              obtain ⟨ad198, e198, hx198_0, hx198_1, hx198_2⟩ := at_T35 HR0.out x7_1 p198 q198
              cases e198
              replace hx198_0 := (HB.out.cell (World.block_lt_of_cell? w _ hx198_0)).trans hx198_0
              replace hx198_1 := (HB.out.cell (World.block_lt_of_cell? w _ hx198_1)).trans hx198_1
              replace hx198_2 := (HB.out.cell (World.block_lt_of_cell? w _ hx198_2)).trans hx198_2
              replace p198 := eq_true p198
              replace q198 := eq_true q198
              go_wp2_with (first | ((with_reducible refine gate_callee (f := 29) rfl ?_); refine goesL_ (some 20) rfl rfl Try.func29 (by kernel_rfl) rfl #[.agg #[.int .i64 ((rd_T35 l0 x7_1).f0), .int .i64 ((rd_T35 l0 x7_1).f1), .string ((rd_T35 l0 x7_1).f2)], .slice A1 l1.length c1] rfl (by (try simp only [List.map_toArray, List.map_cons, List.map_nil]); first | done | rfl | (simp only [List.length_drop, List.length_take]; rfl)) ?_; (with_reducible refine (marginaliaref06_among.calls k1 ((rd_T35 l0 x7_1).f0) ((rd_T35 l0 x7_1).f1) ((rd_T35 l0 x7_1).f2) _ _ l1 true _ ?side1 ?side2 A7.out).mono ?_); (case side1 => repeat (first | exact (Kd.C_below HR1.out HB.out) | (with_reducible refine Kd.C_alloc ?_ _) | (with_reducible refine Kd.C_drewN ?_ _) | (with_reducible refine Kd.C_drew ?_))); (case side2 => exact HC1.out); rintro e w9 ⟨rfl, hb⟩; refine ⟨_, rfl, ?_⟩; have n0_ := Aside0.mk (below_step (by repeat (first | (with_reducible first | exact HB.out | apply below_alloc | apply pw_below_drewN | apply below_drew1) | exact HB.out)) hb); clear HB; have HB := n0_; clear n0_; (try clear hb); (try clear hb2); (try clear hk); (try clear hi)))
              go_ret
              exact ⟨by first | rfl | (simp [errW_none, errW_some] <;> rfl) | (simp [*, errW_none, errW_some] <;> rfl), by repeat (first | (with_reducible first | exact HB.out | apply below_alloc | apply pw_below_drewN | apply below_drew1) | exact HB.out)⟩
            · replace c8 := Bool.eq_false_iff.mpr c8
              subst c8
              have H1 : ((marginaliaref06_Ends.f k1 ((rd_T35 l0 x7_1).f0) ((rd_T35 l0 x7_1).f1) ((rd_T35 l0 x7_1).f2) a2).bind fun t201 => (if t201 = true then (some false) else (marginaliaref06_Has.l0 k1 l0 l1 a2 (wrap64 (x7_1 - 1))))) = some r := by rw [if_neg (show ¬ (false = true) by decide)] at H; exact H
              clear H
              have H := H1
              clear H1
              replace H := Option.bind_eq_some_iff.mp H
              obtain ⟨t201, A100, H⟩ := H
              replace H : (if t201 = true then (some false) else (marginaliaref06_Has.l0 k1 l0 l1 a2 (wrap64 (x7_1 - 1)))) = some r := H
              have A10 := Aside0.mk A100
              clear A100
              by_cases c11 : t201 = true
              · subst c11
                have H1 : (some false) = some r := by rw [if_pos rfl] at H; exact H
                clear H
                have H := H1
                clear H1
                obtain rfl := Option.some.inj H
                have p198 : 0 ≤ (x7_1 : Int) := of_decide_eq_true (by first | (with_reducible assumption) | assumption)
                have q198 : x7_1 < (l0.length : Int) := of_decide_eq_true (by first | (with_reducible assumption) | assumption)
                obtain ⟨ad198, e198, hx198_0, hx198_1, hx198_2⟩ := at_T35 HR0.out x7_1 p198 q198
                cases e198
                replace hx198_0 := (HB.out.cell (World.block_lt_of_cell? w _ hx198_0)).trans hx198_0
                replace hx198_1 := (HB.out.cell (World.block_lt_of_cell? w _ hx198_1)).trans hx198_1
                replace hx198_2 := (HB.out.cell (World.block_lt_of_cell? w _ hx198_2)).trans hx198_2
                replace p198 := eq_true p198
                replace q198 := eq_true q198
                go_wp2_with (first | ((with_reducible refine gate_callee (f := 29) rfl ?_); refine goesL_ (some 20) rfl rfl Try.func29 (by kernel_rfl) rfl #[.agg #[.int .i64 ((rd_T35 l0 x7_1).f0), .int .i64 ((rd_T35 l0 x7_1).f1), .string ((rd_T35 l0 x7_1).f2)], .slice A1 l1.length c1] rfl (by (try simp only [List.map_toArray, List.map_cons, List.map_nil]); first | done | rfl | (simp only [List.length_drop, List.length_take]; rfl)) ?_; (with_reducible refine (marginaliaref06_among.calls k1 ((rd_T35 l0 x7_1).f0) ((rd_T35 l0 x7_1).f1) ((rd_T35 l0 x7_1).f2) _ _ l1 false _ ?side1 ?side2 A7.out).mono ?_); (case side1 => repeat (first | exact (Kd.C_below HR1.out HB.out) | (with_reducible refine Kd.C_alloc ?_ _) | (with_reducible refine Kd.C_drewN ?_ _) | (with_reducible refine Kd.C_drew ?_))); (case side2 => exact HC1.out); rintro e w12 ⟨rfl, hb⟩; refine ⟨_, rfl, ?_⟩; have n0_ := Aside0.mk (below_step (by repeat (first | (with_reducible first | exact HB.out | apply below_alloc | apply pw_below_drewN | apply below_drew1) | exact HB.out)) hb); clear HB; have HB := n0_; clear n0_; (try clear hb); (try clear hb2); (try clear hk); (try clear hi); have p200 : 0 ≤ (x7_1 : Int) := of_decide_eq_true (by first | (with_reducible assumption) | assumption); have q200 : x7_1 < (l0.length : Int) := of_decide_eq_true (by first | (with_reducible assumption) | assumption); obtain ⟨ad200, e200, hx200_0, hx200_1, hx200_2⟩ := at_T35 HR0.out x7_1 p200 q200; obtain rfl : ad198 = ad200 := (by injection e200); replace hx200_0 := (HB.out.cell (World.block_lt_of_cell? w _ hx200_0)).trans hx200_0; replace hx200_1 := (HB.out.cell (World.block_lt_of_cell? w _ hx200_1)).trans hx200_1; replace hx200_2 := (HB.out.cell (World.block_lt_of_cell? w _ hx200_2)).trans hx200_2; replace p200 := eq_true p200; replace q200 := eq_true q200) | ((with_reducible refine gate_callee (f := 21) rfl ?_); refine goesL_ (some 26) rfl rfl Try.func21 (by kernel_rfl) rfl #[.agg #[.int .i64 ((rd_T35 l0 x7_1).f0), .int .i64 ((rd_T35 l0 x7_1).f1), .string ((rd_T35 l0 x7_1).f2)], .int .i64 a2] rfl (by (try simp only [List.map_toArray, List.map_cons, List.map_nil]); first | done | rfl | (simp only [List.length_drop, List.length_take]; rfl)) ?_; (with_reducible refine (marginaliaref06_Ends.calls k1 ((rd_T35 l0 x7_1).f0) ((rd_T35 l0 x7_1).f1) ((rd_T35 l0 x7_1).f2) a2 true _ A10.out).mono ?_); rintro e w13 ⟨rfl, hb⟩; refine ⟨_, rfl, ?_⟩; have n0_ := Aside0.mk (below_step (by repeat (first | (with_reducible first | exact HB.out | apply below_alloc | apply pw_below_drewN | apply below_drew1) | exact HB.out)) hb); clear HB; have HB := n0_; clear n0_; (try clear hb); (try clear hb2); (try clear hk); (try clear hi)))
                go_ret
                exact ⟨by first | rfl | (simp [errW_none, errW_some] <;> rfl) | (simp [*, errW_none, errW_some] <;> rfl), by repeat (first | (with_reducible first | exact HB.out | apply below_alloc | apply pw_below_drewN | apply below_drew1) | exact HB.out)⟩
              · replace c11 := Bool.eq_false_iff.mpr c11
                subst c11
                have H1 : (marginaliaref06_Has.l0 k1 l0 l1 a2 (wrap64 (x7_1 - 1))) = some r := by rw [if_neg (show ¬ (false = true) by decide)] at H; exact H
                clear H
                have H := H1
                clear H1
                have H' := Aside0.mk H
                clear H
                have p198 : 0 ≤ (x7_1 : Int) := of_decide_eq_true (by first | (with_reducible assumption) | assumption)
                have q198 : x7_1 < (l0.length : Int) := of_decide_eq_true (by first | (with_reducible assumption) | assumption)
                obtain ⟨ad198, e198, hx198_0, hx198_1, hx198_2⟩ := at_T35 HR0.out x7_1 p198 q198
                cases e198
                replace hx198_0 := (HB.out.cell (World.block_lt_of_cell? w _ hx198_0)).trans hx198_0
                replace hx198_1 := (HB.out.cell (World.block_lt_of_cell? w _ hx198_1)).trans hx198_1
                replace hx198_2 := (HB.out.cell (World.block_lt_of_cell? w _ hx198_2)).trans hx198_2
                replace p198 := eq_true p198
                replace q198 := eq_true q198
                go_wp2_with (first | ((with_reducible refine gate_callee (f := 29) rfl ?_); refine goesL_ (some 20) rfl rfl Try.func29 (by kernel_rfl) rfl #[.agg #[.int .i64 ((rd_T35 l0 x7_1).f0), .int .i64 ((rd_T35 l0 x7_1).f1), .string ((rd_T35 l0 x7_1).f2)], .slice A1 l1.length c1] rfl (by (try simp only [List.map_toArray, List.map_cons, List.map_nil]); first | done | rfl | (simp only [List.length_drop, List.length_take]; rfl)) ?_; (with_reducible refine (marginaliaref06_among.calls k1 ((rd_T35 l0 x7_1).f0) ((rd_T35 l0 x7_1).f1) ((rd_T35 l0 x7_1).f2) _ _ l1 false _ ?side1 ?side2 A7.out).mono ?_); (case side1 => repeat (first | exact (Kd.C_below HR1.out HB.out) | (with_reducible refine Kd.C_alloc ?_ _) | (with_reducible refine Kd.C_drewN ?_ _) | (with_reducible refine Kd.C_drew ?_))); (case side2 => exact HC1.out); rintro e w14 ⟨rfl, hb⟩; refine ⟨_, rfl, ?_⟩; have n0_ := Aside0.mk (below_step (by repeat (first | (with_reducible first | exact HB.out | apply below_alloc | apply pw_below_drewN | apply below_drew1) | exact HB.out)) hb); clear HB; have HB := n0_; clear n0_; (try clear hb); (try clear hb2); (try clear hk); (try clear hi); have p200 : 0 ≤ (x7_1 : Int) := of_decide_eq_true (by first | (with_reducible assumption) | assumption); have q200 : x7_1 < (l0.length : Int) := of_decide_eq_true (by first | (with_reducible assumption) | assumption); obtain ⟨ad200, e200, hx200_0, hx200_1, hx200_2⟩ := at_T35 HR0.out x7_1 p200 q200; obtain rfl : ad198 = ad200 := (by injection e200); replace hx200_0 := (HB.out.cell (World.block_lt_of_cell? w _ hx200_0)).trans hx200_0; replace hx200_1 := (HB.out.cell (World.block_lt_of_cell? w _ hx200_1)).trans hx200_1; replace hx200_2 := (HB.out.cell (World.block_lt_of_cell? w _ hx200_2)).trans hx200_2; replace p200 := eq_true p200; replace q200 := eq_true q200) | ((with_reducible refine gate_callee (f := 21) rfl ?_); refine goesL_ (some 26) rfl rfl Try.func21 (by kernel_rfl) rfl #[.agg #[.int .i64 ((rd_T35 l0 x7_1).f0), .int .i64 ((rd_T35 l0 x7_1).f1), .string ((rd_T35 l0 x7_1).f2)], .int .i64 a2] rfl (by (try simp only [List.map_toArray, List.map_cons, List.map_nil]); first | done | rfl | (simp only [List.length_drop, List.length_take]; rfl)) ?_; (with_reducible refine (marginaliaref06_Ends.calls k1 ((rd_T35 l0 x7_1).f0) ((rd_T35 l0 x7_1).f1) ((rd_T35 l0 x7_1).f2) a2 false _ A10.out).mono ?_); rintro e w15 ⟨rfl, hb⟩; refine ⟨_, rfl, ?_⟩; have n0_ := Aside0.mk (below_step (by repeat (first | (with_reducible first | exact HB.out | apply below_alloc | apply pw_below_drewN | apply below_drew1) | exact HB.out)) hb); clear HB; have HB := n0_; clear n0_; (try clear hb); (try clear hb2); (try clear hk); (try clear hi)))
                go_roundg k1
                case measure => have := HK1.out; omega
                case rel => exact ⟨(wrap64 (x7_1 - 1)), (by first | rfl | (simp; done) | (simp [*]; done)), H', ⟨by have := HK1.out; omega⟩, ⟨by repeat (first | (with_reducible first | exact HB.out | apply below_alloc | apply pw_below_drewN | apply below_drew1) | exact HB.out)⟩⟩
          · rw [if_neg c6] at H
            exact absurd H (by simp)
        · rw [if_neg c5] at H
          exact absurd H (by simp)
      · rw [if_neg c4] at H
        have c4b0 : decide (0 ≤ x7_1) = false := decide_eq_false c4
        clear c4
        obtain rfl := Option.some.inj H
        go_wp2
        go_ret
        exact ⟨by first | rfl | (simp [errW_none, errW_some] <;> rfl) | (simp [*, errW_none, errW_some] <;> rfl), by repeat (first | (with_reducible first | exact HB.out | apply below_alloc | apply pw_below_drewN | apply below_drew1) | exact HB.out)⟩

/-! ### marginalialaw06_OpensHas: function 3 -/
def marginalialaw06_OpensHas.f (k : Nat) (l0 : List (S35)) (l1 : List ByteArray) (a2 : Int) : Option (Bool) := (marginalialaw06_small.f l0 l1).bind fun t202 => (if t202 = true then ((marginalialaw06_alive.f k).bind fun t203 => (if t203 = true then ((opens_Has.f k l0 l1 a2).bind fun t204 => ((marginaliaref06_Has.f k l0 l1 a2).bind fun t205 => (some (t204 == t205)))) else (some false))) else ((marginalialaw06_alive.f k).bind fun t206 => (some t206)))
theorem marginalialaw06_OpensHas.mono : ∀ a0 a1 a2 k, LeO (marginalialaw06_OpensHas.f k a0 a1 a2) (marginalialaw06_OpensHas.f (k + 1) a0 a1 a2) := by
  intro a0 a1 a2 k
  unfold marginalialaw06_OpensHas.f
  repeat' first
      | (with_reducible exact marginalialaw06_alive.mono _)
      | (with_reducible exact marginaliaref06_Has.mono _ _ _ _)
      | (with_reducible exact opens_Has.mono _ _ _ _)
      | (with_reducible exact LeO.refl _)
      | (with_reducible exact LeO.none _)
      | (with_reducible refine LeO.ite ?_ ?_)
      | (with_reducible refine LeO.bind ?_ (fun _ => ?_))
      | exact marginalialaw06_alive.mono _
      | exact marginaliaref06_Has.mono _ _ _ _
      | exact opens_Has.mono _ _ _ _
      | exact LeO.none _
      | refine LeO.ite ?_ ?_
      | refine LeO.bind ?_ (fun _ => ?_)
set_option maxHeartbeats 8000000 in
set_option maxRecDepth 100000 in
theorem marginalialaw06_OpensHas.calls (k : Nat) (A0 : Option Addr) (c0 : Nat) (l0 : List (S35)) (A1 : Option Addr) (c1 : Nat) (l1 : List ByteArray) (a2 : Int) (r : Bool) (w : World) (hr0 : Kd.C k35 w A0 l0.length l0) (hc0 : l0.length ≤ c0) (hr1 : Kd.C Kd.string w A1 l1.length l1) (hc1 : l1.length ≤ c1) (h : marginalialaw06_OpensHas.f k l0 l1 a2 = some r) :
    Calls Try.prog 3 #[.slice A0 l0.length c0, .slice A1 l1.length c1, .int .i64 a2] w fun e w' => e = .returned (.bool r) ∧ Below w.heap.size w w' := by
  have HR0 := Aside0.mk hr0
  have HC0 := Aside0.mk hc0
  clear hr0 hc0
  have HR1 := Aside0.mk hr1
  have HC1 := Aside0.mk hc1
  clear hr1 hc1
  have HB := Aside0.mk (Below.refl w.heap.size w)
  have H : ((marginalialaw06_small.f l0 l1).bind fun t202 => (if t202 = true then ((marginalialaw06_alive.f k).bind fun t203 => (if t203 = true then ((opens_Has.f k l0 l1 a2).bind fun t204 => ((marginaliaref06_Has.f k l0 l1 a2).bind fun t205 => (some (t204 == t205)))) else (some false))) else ((marginalialaw06_alive.f k).bind fun t206 => (some t206)))) = some r := h
  clear h
  replace H := Option.bind_eq_some_iff.mp H
  obtain ⟨t202, A40, H⟩ := H
  replace H : (if t202 = true then ((marginalialaw06_alive.f k).bind fun t203 => (if t203 = true then ((opens_Has.f k l0 l1 a2).bind fun t204 => ((marginaliaref06_Has.f k l0 l1 a2).bind fun t205 => (some (t204 == t205)))) else (some false))) else ((marginalialaw06_alive.f k).bind fun t206 => (some t206))) = some r := H
  have A4 := Aside0.mk A40
  clear A40
  by_cases c5 : t202 = true
  · subst c5
    have H1 : ((marginalialaw06_alive.f k).bind fun t203 => (if t203 = true then ((opens_Has.f k l0 l1 a2).bind fun t204 => ((marginaliaref06_Has.f k l0 l1 a2).bind fun t205 => (some (t204 == t205)))) else (some false))) = some r := by rw [if_pos rfl] at H; exact H
    clear H
    have H := H1
    clear H1
    replace H := Option.bind_eq_some_iff.mp H
    obtain ⟨t203, A60, H⟩ := H
    replace H : (if t203 = true then ((opens_Has.f k l0 l1 a2).bind fun t204 => ((marginaliaref06_Has.f k l0 l1 a2).bind fun t205 => (some (t204 == t205)))) else (some false)) = some r := H
    have A6 := Aside0.mk A60
    clear A60
    by_cases c7 : t203 = true
    · subst c7
      have H1 : ((opens_Has.f k l0 l1 a2).bind fun t204 => ((marginaliaref06_Has.f k l0 l1 a2).bind fun t205 => (some (t204 == t205)))) = some r := by rw [if_pos rfl] at H; exact H
      clear H
      have H := H1
      clear H1
      replace H := Option.bind_eq_some_iff.mp H
      obtain ⟨t204, A80, H⟩ := H
      replace H : ((marginaliaref06_Has.f k l0 l1 a2).bind fun t205 => (some (t204 == t205))) = some r := H
      have A8 := Aside0.mk A80
      clear A80
      replace H := Option.bind_eq_some_iff.mp H
      obtain ⟨t205, A90, H⟩ := H
      replace H : (some (t204 == t205)) = some r := H
      have A9 := Aside0.mk A90
      clear A90
      obtain rfl := Option.some.inj H
      go_enter Try.func3, Try.ntmps3
      go_wp2_with (first | ((with_reducible refine gate_callee (f := 9) rfl ?_); refine goesL_ (some 9) rfl rfl Try.func9 (by kernel_rfl) rfl #[.slice A0 l0.length c0, .slice A1 l1.length c1] rfl (by (try simp only [List.map_toArray, List.map_cons, List.map_nil]); first | done | rfl | (simp only [List.length_drop, List.length_take]; rfl)) ?_; (with_reducible refine (marginalialaw06_small.calls _ _ l0 _ _ l1 true _ ?side1 ?side2 ?side3 ?side4 A4.out).mono ?_); (case side1 => repeat (first | exact HR0.out | (with_reducible refine Kd.C_alloc ?_ _) | (with_reducible refine Kd.C_drewN ?_ _) | (with_reducible refine Kd.C_drew ?_))); (case side2 => exact HC0.out); (case side3 => repeat (first | exact HR1.out | (with_reducible refine Kd.C_alloc ?_ _) | (with_reducible refine Kd.C_drewN ?_ _) | (with_reducible refine Kd.C_drew ?_))); (case side4 => exact HC1.out); rintro e w' ⟨rfl, ⟨nd, rfl⟩⟩; refine ⟨_, rfl, ?_⟩) | ((with_reducible refine gate_callee (f := 10) rfl ?_); refine goesL_ (some 12) rfl rfl Try.func10 (by kernel_rfl) rfl #[] rfl (by (try simp only [List.map_toArray, List.map_cons, List.map_nil]); first | done | rfl | (simp only [List.length_drop, List.length_take]; rfl)) ?_; (with_reducible refine (marginalialaw06_alive.calls k  true _ A6.out).mono ?_); rintro e w10 ⟨rfl, hb⟩; refine ⟨_, rfl, ?_⟩; have n0_ := Aside0.mk (below_step (by repeat (first | (with_reducible first | exact HB.out | apply below_alloc | apply pw_below_drewN | apply below_drew1) | exact HB.out)) hb); clear HB; have HB := n0_; clear n0_; (try clear hb); (try clear hb2); (try clear hk); (try clear hi)) | (go_at_call 11; (with_reducible refine (opens_Has.calls k _ _ l0 _ _ l1 a2 t204 _ ?side1 ?side2 ?side3 ?side4 A8.out).mono ?_); (case side1 => repeat (first | exact (Kd.C_below HR0.out HB.out) | (with_reducible refine Kd.C_alloc ?_ _) | (with_reducible refine Kd.C_drewN ?_ _) | (with_reducible refine Kd.C_drew ?_))); (case side2 => exact HC0.out); (case side3 => repeat (first | exact (Kd.C_below HR1.out HB.out) | (with_reducible refine Kd.C_alloc ?_ _) | (with_reducible refine Kd.C_drewN ?_ _) | (with_reducible refine Kd.C_drew ?_))); (case side4 => exact HC1.out); rintro e w11 ⟨rfl, hb⟩; have n0_ := Aside0.mk (below_step (by repeat (first | (with_reducible first | exact HB.out | apply below_alloc | apply pw_below_drewN | apply below_drew1) | exact HB.out)) hb); clear HB; have HB := n0_; clear n0_; (try clear hb); (try clear hb2); (try clear hk); (try clear hi)) | (go_at_call 12; (with_reducible refine (marginaliaref06_Has.calls k _ _ l0 _ _ l1 a2 t205 _ ?side1 ?side2 ?side3 ?side4 A9.out).mono ?_); (case side1 => repeat (first | exact (Kd.C_below HR0.out HB.out) | (with_reducible refine Kd.C_alloc ?_ _) | (with_reducible refine Kd.C_drewN ?_ _) | (with_reducible refine Kd.C_drew ?_))); (case side2 => exact HC0.out); (case side3 => repeat (first | exact (Kd.C_below HR1.out HB.out) | (with_reducible refine Kd.C_alloc ?_ _) | (with_reducible refine Kd.C_drewN ?_ _) | (with_reducible refine Kd.C_drew ?_))); (case side4 => exact HC1.out); rintro e w12 ⟨rfl, hb⟩; have n0_ := Aside0.mk (below_step (by repeat (first | (with_reducible first | exact HB.out | apply below_alloc | apply pw_below_drewN | apply below_drew1) | exact HB.out)) hb); clear HB; have HB := n0_; clear n0_; (try clear hb); (try clear hb2); (try clear hk); (try clear hi)))
      go_ret
      exact ⟨by first | rfl | (simp [errW_none, errW_some] <;> rfl) | (simp [*, errW_none, errW_some] <;> rfl), by repeat (first | (with_reducible first | exact HB.out | apply below_alloc | apply pw_below_drewN | apply below_drew1) | exact HB.out)⟩
    · replace c7 := Bool.eq_false_iff.mpr c7
      subst c7
      have H1 : (some false) = some r := by rw [if_neg (show ¬ (false = true) by decide)] at H; exact H
      clear H
      have H := H1
      clear H1
      obtain rfl := Option.some.inj H
      go_enter Try.func3, Try.ntmps3
      go_wp2_with (first | ((with_reducible refine gate_callee (f := 9) rfl ?_); refine goesL_ (some 9) rfl rfl Try.func9 (by kernel_rfl) rfl #[.slice A0 l0.length c0, .slice A1 l1.length c1] rfl (by (try simp only [List.map_toArray, List.map_cons, List.map_nil]); first | done | rfl | (simp only [List.length_drop, List.length_take]; rfl)) ?_; (with_reducible refine (marginalialaw06_small.calls _ _ l0 _ _ l1 true _ ?side1 ?side2 ?side3 ?side4 A4.out).mono ?_); (case side1 => repeat (first | exact HR0.out | (with_reducible refine Kd.C_alloc ?_ _) | (with_reducible refine Kd.C_drewN ?_ _) | (with_reducible refine Kd.C_drew ?_))); (case side2 => exact HC0.out); (case side3 => repeat (first | exact HR1.out | (with_reducible refine Kd.C_alloc ?_ _) | (with_reducible refine Kd.C_drewN ?_ _) | (with_reducible refine Kd.C_drew ?_))); (case side4 => exact HC1.out); rintro e w' ⟨rfl, ⟨nd, rfl⟩⟩; refine ⟨_, rfl, ?_⟩) | ((with_reducible refine gate_callee (f := 10) rfl ?_); refine goesL_ (some 12) rfl rfl Try.func10 (by kernel_rfl) rfl #[] rfl (by (try simp only [List.map_toArray, List.map_cons, List.map_nil]); first | done | rfl | (simp only [List.length_drop, List.length_take]; rfl)) ?_; (with_reducible refine (marginalialaw06_alive.calls k  false _ A6.out).mono ?_); rintro e w13 ⟨rfl, hb⟩; refine ⟨_, rfl, ?_⟩; have n0_ := Aside0.mk (below_step (by repeat (first | (with_reducible first | exact HB.out | apply below_alloc | apply pw_below_drewN | apply below_drew1) | exact HB.out)) hb); clear HB; have HB := n0_; clear n0_; (try clear hb); (try clear hb2); (try clear hk); (try clear hi)))
      go_ret
      exact ⟨by first | rfl | (simp [errW_none, errW_some] <;> rfl) | (simp [*, errW_none, errW_some] <;> rfl), by repeat (first | (with_reducible first | exact HB.out | apply below_alloc | apply pw_below_drewN | apply below_drew1) | exact HB.out)⟩
  · replace c5 := Bool.eq_false_iff.mpr c5
    subst c5
    have H1 : ((marginalialaw06_alive.f k).bind fun t206 => (some t206)) = some r := by rw [if_neg (show ¬ (false = true) by decide)] at H; exact H
    clear H
    have H := H1
    clear H1
    replace H := Option.bind_eq_some_iff.mp H
    obtain ⟨t206, A140, H⟩ := H
    replace H : (some t206) = some r := H
    have A14 := Aside0.mk A140
    clear A140
    obtain rfl := Option.some.inj H
    go_enter Try.func3, Try.ntmps3
    go_wp2_with (first | ((with_reducible refine gate_callee (f := 9) rfl ?_); refine goesL_ (some 9) rfl rfl Try.func9 (by kernel_rfl) rfl #[.slice A0 l0.length c0, .slice A1 l1.length c1] rfl (by (try simp only [List.map_toArray, List.map_cons, List.map_nil]); first | done | rfl | (simp only [List.length_drop, List.length_take]; rfl)) ?_; (with_reducible refine (marginalialaw06_small.calls _ _ l0 _ _ l1 false _ ?side1 ?side2 ?side3 ?side4 A4.out).mono ?_); (case side1 => repeat (first | exact HR0.out | (with_reducible refine Kd.C_alloc ?_ _) | (with_reducible refine Kd.C_drewN ?_ _) | (with_reducible refine Kd.C_drew ?_))); (case side2 => exact HC0.out); (case side3 => repeat (first | exact HR1.out | (with_reducible refine Kd.C_alloc ?_ _) | (with_reducible refine Kd.C_drewN ?_ _) | (with_reducible refine Kd.C_drew ?_))); (case side4 => exact HC1.out); rintro e w' ⟨rfl, ⟨nd, rfl⟩⟩; refine ⟨_, rfl, ?_⟩) | ((with_reducible refine gate_callee (f := 10) rfl ?_); refine goesL_ (some 11) rfl rfl Try.func10 (by kernel_rfl) rfl #[] rfl (by (try simp only [List.map_toArray, List.map_cons, List.map_nil]); first | done | rfl | (simp only [List.length_drop, List.length_take]; rfl)) ?_; (with_reducible refine (marginalialaw06_alive.calls k  t206 _ A14.out).mono ?_); rintro e w15 ⟨rfl, hb⟩; refine ⟨_, rfl, ?_⟩; have n0_ := Aside0.mk (below_step (by repeat (first | (with_reducible first | exact HB.out | apply below_alloc | apply pw_below_drewN | apply below_drew1) | exact HB.out)) hb); clear HB; have HB := n0_; clear n0_; (try clear hb); (try clear hb2); (try clear hk); (try clear hi)))
    go_ret
    exact ⟨by first | rfl | (simp [errW_none, errW_some] <;> rfl) | (simp [*, errW_none, errW_some] <;> rfl), by repeat (first | (with_reducible first | exact HB.out | apply below_alloc | apply pw_below_drewN | apply below_drew1) | exact HB.out)⟩

/-! ### marginaliaref06_Cut: function 16 -/
def marginaliaref06_Cut.l0 : Nat → List (S35) → List ByteArray → Int → Option (Int)
  | 0, _, _, _ => none
  | k + 1, x0, x1, x5 => if x5 ≥ 0 then (if 0 ≤ x5 then (if x5 < (x0.length : Int) then ((marginaliaref06_among.f k ((rd_T35 x0 x5).f0) ((rd_T35 x0 x5).f1) ((rd_T35 x0 x5).f2) x1).bind fun t208 => (if t208 = true then (some x5) else (marginaliaref06_Cut.l0 k x0 x1 (wrap64 (x5 - 1))))) else (none)) else (none)) else (some (-1))
def marginaliaref06_Cut.f (k : Nat) (l0 : List (S35)) (l1 : List ByteArray) : Option (Int) := marginaliaref06_Cut.l0 k l0 l1 (wrap64 ((l0.length : Int) - 1))
theorem marginaliaref06_Cut.mono_l : ∀ k, (∀ y0 y1 y2, LeO (marginaliaref06_Cut.l0 k y0 y1 y2) (marginaliaref06_Cut.l0 (k + 1) y0 y1 y2))
  | 0 => fun _ _ _ r h => by simp [marginaliaref06_Cut.l0] at h
  | k + 1 => by
    have ih0 := marginaliaref06_Cut.mono_l k
    · intro y0 y1 y2
      unfold marginaliaref06_Cut.l0
      repeat' first
      | (with_reducible exact ih0 _ _ _)
      | (with_reducible exact marginaliaref06_among.mono _ _ _ _ _)
      | (with_reducible exact LeO.refl _)
      | (with_reducible exact LeO.none _)
      | (with_reducible refine LeO.ite ?_ ?_)
      | (with_reducible refine LeO.bind ?_ (fun _ => ?_))
      | exact ih0 _ _ _
      | exact marginaliaref06_among.mono _ _ _ _ _
      | exact LeO.none _
      | refine LeO.ite ?_ ?_
      | refine LeO.bind ?_ (fun _ => ?_)
theorem marginaliaref06_Cut.mono : ∀ a0 a1 k, LeO (marginaliaref06_Cut.f k a0 a1) (marginaliaref06_Cut.f (k + 1) a0 a1) := by
  intro a0 a1 k
  have ih0 := marginaliaref06_Cut.mono_l k
  unfold marginaliaref06_Cut.f
  repeat' first
      | (with_reducible exact ih0 _ _ _)
      | (with_reducible exact marginaliaref06_among.mono _ _ _ _ _)
      | (with_reducible exact LeO.refl _)
      | (with_reducible exact LeO.none _)
      | (with_reducible refine LeO.ite ?_ ?_)
      | (with_reducible refine LeO.bind ?_ (fun _ => ?_))
      | exact ih0 _ _ _
      | exact marginaliaref06_among.mono _ _ _ _ _
      | exact LeO.none _
      | refine LeO.ite ?_ ?_
      | refine LeO.bind ?_ (fun _ => ?_)
set_option maxHeartbeats 8000000 in
set_option maxRecDepth 100000 in
theorem marginaliaref06_Cut.calls (k : Nat) (A0 : Option Addr) (c0 : Nat) (l0 : List (S35)) (A1 : Option Addr) (c1 : Nat) (l1 : List ByteArray) (r : Int) (w : World) (hr0 : Kd.C k35 w A0 l0.length l0) (hc0 : l0.length ≤ c0) (hr1 : Kd.C Kd.string w A1 l1.length l1) (hc1 : l1.length ≤ c1) (h : marginaliaref06_Cut.f k l0 l1 = some r) :
    Calls Try.prog 16 #[.slice A0 l0.length c0, .slice A1 l1.length c1] w fun e w' => e = .returned (.int .i64 r) ∧ Below w.heap.size w w' := by
  have hu35 := Try.underlying35
  have HR0 := Aside0.mk hr0
  have HC0 := Aside0.mk hc0
  clear hr0 hc0
  have HR1 := Aside0.mk hr1
  have HC1 := Aside0.mk hc1
  clear hr1 hc1
  have HB := Aside0.mk (Below.refl w.heap.size w)
  have H : (marginaliaref06_Cut.l0 k l0 l1 (wrap64 ((l0.length : Int) - 1))) = some r := h
  clear h
  have H' := Aside0.mk H
  clear H
  go_enter Try.func16, Try.ntmps16
  go_wp2
  go_loopg [5] k (fun kq v5 w' => ∃ (x5_1 : Int), v5 = .int .i64 x5_1 ∧ Aside0 (marginaliaref06_Cut.l0 kq l0 l1 x5_1 = some r) ∧ Aside0 (kq ≤ k) ∧ Aside0 (Below w.heap.size w w'))
  case atStart => exact ⟨(wrap64 ((l0.length : Int) - 1)), (by first | rfl | (simp; done) | (simp [*]; done)), H', ⟨Nat.le_refl _⟩, ⟨by repeat (first | (with_reducible first | exact HB.out | apply below_alloc | apply pw_below_drewN | apply below_drew1) | exact HB.out)⟩⟩
  case round =>
    clear H'
    try clear c1
    try clear p2
    obtain ⟨x5_1, rfl, HA, HK1, HB⟩ := hrel
    cases gk with
    | zero => exact absurd HA.out (by simp [marginaliaref06_Cut.l0])
    | succ k1 =>
      have H := HA.out
      clear HA
      simp only [marginaliaref06_Cut.l0] at H
      by_cases c3 : x5_1 ≥ 0
      · rw [if_pos c3] at H
        have c3b0 : decide (0 ≤ x5_1) = true := decide_eq_true c3
        clear c3
        by_cases c4 : 0 ≤ x5_1
        · rw [if_pos c4] at H
          have c4b0 : decide (0 ≤ x5_1) = true := decide_eq_true c4
          clear c4
          by_cases c5 : x5_1 < (l0.length : Int)
          · rw [if_pos c5] at H
            have c5b0 : decide (x5_1 < (l0.length : Int)) = true := decide_eq_true c5
            clear c5
            replace H := Option.bind_eq_some_iff.mp H
            obtain ⟨t208, A60, H⟩ := H
            replace H : (if t208 = true then (some x5_1) else (marginaliaref06_Cut.l0 k1 l0 l1 (wrap64 (x5_1 - 1)))) = some r := H
            have A6 := Aside0.mk A60
            clear A60
            by_cases c7 : t208 = true
            · subst c7
              have H1 : (some x5_1) = some r := by rw [if_pos rfl] at H; exact H
              clear H
              have H := H1
              clear H1
              obtain rfl := Option.some.inj H
              have p207 : 0 ≤ (x5_1 : Int) := of_decide_eq_true (by first | (with_reducible assumption) | assumption)
              have q207 : x5_1 < (l0.length : Int) := of_decide_eq_true (by first | (with_reducible assumption) | assumption)
              obtain ⟨ad207, e207, hx207_0, hx207_1, hx207_2⟩ := at_T35 HR0.out x5_1 p207 q207
              cases e207
              replace hx207_0 := (HB.out.cell (World.block_lt_of_cell? w _ hx207_0)).trans hx207_0
              replace hx207_1 := (HB.out.cell (World.block_lt_of_cell? w _ hx207_1)).trans hx207_1
              replace hx207_2 := (HB.out.cell (World.block_lt_of_cell? w _ hx207_2)).trans hx207_2
              replace p207 := eq_true p207
              replace q207 := eq_true q207
              go_wp2_with (first | ((with_reducible refine gate_callee (f := 29) rfl ?_); refine goesL_ (some 18) rfl rfl Try.func29 (by kernel_rfl) rfl #[.agg #[.int .i64 ((rd_T35 l0 x5_1).f0), .int .i64 ((rd_T35 l0 x5_1).f1), .string ((rd_T35 l0 x5_1).f2)], .slice A1 l1.length c1] rfl (by (try simp only [List.map_toArray, List.map_cons, List.map_nil]); first | done | rfl | (simp only [List.length_drop, List.length_take]; rfl)) ?_; (with_reducible refine (marginaliaref06_among.calls k1 ((rd_T35 l0 x5_1).f0) ((rd_T35 l0 x5_1).f1) ((rd_T35 l0 x5_1).f2) _ _ l1 true _ ?side1 ?side2 A6.out).mono ?_); (case side1 => repeat (first | exact (Kd.C_below HR1.out HB.out) | (with_reducible refine Kd.C_alloc ?_ _) | (with_reducible refine Kd.C_drewN ?_ _) | (with_reducible refine Kd.C_drew ?_))); (case side2 => exact HC1.out); rintro e w8 ⟨rfl, hb⟩; refine ⟨_, rfl, ?_⟩; have n0_ := Aside0.mk (below_step (by repeat (first | (with_reducible first | exact HB.out | apply below_alloc | apply pw_below_drewN | apply below_drew1) | exact HB.out)) hb); clear HB; have HB := n0_; clear n0_; (try clear hb); (try clear hb2); (try clear hk); (try clear hi)))
              go_ret
              exact ⟨by first | rfl | (simp [errW_none, errW_some] <;> rfl) | (simp [*, errW_none, errW_some] <;> rfl), by repeat (first | (with_reducible first | exact HB.out | apply below_alloc | apply pw_below_drewN | apply below_drew1) | exact HB.out)⟩
            · replace c7 := Bool.eq_false_iff.mpr c7
              subst c7
              have H1 : (marginaliaref06_Cut.l0 k1 l0 l1 (wrap64 (x5_1 - 1))) = some r := by rw [if_neg (show ¬ (false = true) by decide)] at H; exact H
              clear H
              have H := H1
              clear H1
              have H' := Aside0.mk H
              clear H
              have p207 : 0 ≤ (x5_1 : Int) := of_decide_eq_true (by first | (with_reducible assumption) | assumption)
              have q207 : x5_1 < (l0.length : Int) := of_decide_eq_true (by first | (with_reducible assumption) | assumption)
              obtain ⟨ad207, e207, hx207_0, hx207_1, hx207_2⟩ := at_T35 HR0.out x5_1 p207 q207
              cases e207
              replace hx207_0 := (HB.out.cell (World.block_lt_of_cell? w _ hx207_0)).trans hx207_0
              replace hx207_1 := (HB.out.cell (World.block_lt_of_cell? w _ hx207_1)).trans hx207_1
              replace hx207_2 := (HB.out.cell (World.block_lt_of_cell? w _ hx207_2)).trans hx207_2
              replace p207 := eq_true p207
              replace q207 := eq_true q207
              go_wp2_with (first | ((with_reducible refine gate_callee (f := 29) rfl ?_); refine goesL_ (some 18) rfl rfl Try.func29 (by kernel_rfl) rfl #[.agg #[.int .i64 ((rd_T35 l0 x5_1).f0), .int .i64 ((rd_T35 l0 x5_1).f1), .string ((rd_T35 l0 x5_1).f2)], .slice A1 l1.length c1] rfl (by (try simp only [List.map_toArray, List.map_cons, List.map_nil]); first | done | rfl | (simp only [List.length_drop, List.length_take]; rfl)) ?_; (with_reducible refine (marginaliaref06_among.calls k1 ((rd_T35 l0 x5_1).f0) ((rd_T35 l0 x5_1).f1) ((rd_T35 l0 x5_1).f2) _ _ l1 false _ ?side1 ?side2 A6.out).mono ?_); (case side1 => repeat (first | exact (Kd.C_below HR1.out HB.out) | (with_reducible refine Kd.C_alloc ?_ _) | (with_reducible refine Kd.C_drewN ?_ _) | (with_reducible refine Kd.C_drew ?_))); (case side2 => exact HC1.out); rintro e w9 ⟨rfl, hb⟩; refine ⟨_, rfl, ?_⟩; have n0_ := Aside0.mk (below_step (by repeat (first | (with_reducible first | exact HB.out | apply below_alloc | apply pw_below_drewN | apply below_drew1) | exact HB.out)) hb); clear HB; have HB := n0_; clear n0_; (try clear hb); (try clear hb2); (try clear hk); (try clear hi)))
              go_roundg k1
              case measure => have := HK1.out; omega
              case rel => exact ⟨(wrap64 (x5_1 - 1)), (by first | rfl | (simp; done) | (simp [*]; done)), H', ⟨by have := HK1.out; omega⟩, ⟨by repeat (first | (with_reducible first | exact HB.out | apply below_alloc | apply pw_below_drewN | apply below_drew1) | exact HB.out)⟩⟩
          · rw [if_neg c5] at H
            exact absurd H (by simp)
        · rw [if_neg c4] at H
          exact absurd H (by simp)
      · rw [if_neg c3] at H
        have c3b0 : decide (0 ≤ x5_1) = false := decide_eq_false c3
        clear c3
        obtain rfl := Option.some.inj H
        go_wp2
        go_ret
        exact ⟨by first | rfl | (simp [errW_none, errW_some] <;> rfl) | (simp [*, errW_none, errW_some] <;> rfl), by repeat (first | (with_reducible first | exact HB.out | apply below_alloc | apply pw_below_drewN | apply below_drew1) | exact HB.out)⟩

/-! ### marginaliaref02_names: function 47 -/
def marginaliaref02_names.f (a0 : Int) : Option (List ByteArray) := if a0 = 1 then (some (([(⟨#[97, 114, 101, 97, 32, 98, 97, 115, 101, 32, 98, 114, 32, 99, 111, 108, 32, 101, 109, 98, 101, 100, 32, 104, 114, 32, 105, 109, 103, 32, 105, 110, 112, 117, 116, 32, 108, 105, 110, 107, 32, 109, 101, 116, 97, 32, 112, 97, 114, 97, 109, 32, 115, 111, 117, 114, 99, 101, 32, 116, 114, 97, 99, 107, 32, 119, 98, 114]⟩ : ByteArray)] : List ByteArray))) else (if a0 = 2 then (some (([(⟨#[105, 102, 114, 97, 109, 101, 32, 110, 111, 101, 109, 98, 101, 100, 32, 110, 111, 102, 114, 97, 109, 101, 115, 32, 115, 99, 114, 105, 112, 116, 32, 115, 116, 121, 108, 101, 32, 120, 109, 112]⟩ : ByteArray)] : List ByteArray))) else (if a0 = 3 then (some (([(⟨#[116, 101, 120, 116, 97, 114, 101, 97, 32, 116, 105, 116, 108, 101]⟩ : ByteArray)] : List ByteArray))) else (if a0 = 5 then (some (([(⟨#[97, 32, 98, 32, 98, 105, 103, 32, 99, 111, 100, 101, 32, 101, 109, 32, 102, 111, 110, 116, 32, 105, 32, 110, 111, 98, 114, 32, 115, 32, 115, 109, 97, 108, 108, 32, 115, 116, 114, 105, 107, 101, 32, 115, 116, 114, 111, 110, 103, 32, 116, 116, 32, 117]⟩ : ByteArray)] : List ByteArray))) else (if a0 = 7 then (some (([(⟨#[104, 49, 32, 104, 50, 32, 104, 51, 32, 104, 52, 32, 104, 53, 32, 104, 54]⟩ : ByteArray)] : List ByteArray))) else (if a0 = 6 then (some (([(⟨#[97, 100, 100, 114, 101, 115, 115, 32, 97, 114, 116, 105, 99, 108, 101, 32, 97, 115, 105, 100, 101, 32, 98, 108, 111, 99, 107, 113, 117, 111, 116, 101, 32, 99, 101, 110, 116, 101, 114, 32, 100, 101, 116, 97, 105, 108, 115, 32, 100, 105, 97, 108, 111, 103, 32, 100, 105, 114, 32, 100, 105, 118, 32, 100, 108, 32, 102, 105, 101, 108, 100, 115, 101, 116, 32, 102, 105, 103, 99, 97, 112, 116, 105, 111, 110, 32, 102, 105, 103, 117, 114, 101, 32, 102, 111, 111, 116, 101, 114, 32, 104, 101, 97, 100, 101, 114, 32, 104, 103, 114, 111, 117, 112, 32, 109, 97, 105, 110, 32, 109, 101, 110, 117, 32, 110, 97, 118, 32, 111, 108, 32, 112, 32, 115, 101, 97, 114, 99, 104, 32, 115, 101, 99, 116, 105, 111, 110, 32, 115, 117, 109, 109, 97, 114, 121, 32, 117, 108]⟩ : ByteArray)] : List ByteArray))) else (if a0 = 8 then (some (([(⟨#[100, 100, 32, 100, 116, 32, 108, 105, 32, 111, 112, 116, 103, 114, 111, 117, 112, 32, 111, 112, 116, 105, 111, 110, 32, 112, 32, 114, 98, 32, 114, 112, 32, 114, 116, 32, 114, 116, 99]⟩ : ByteArray)] : List ByteArray))) else (if a0 = 9 then (some (([(⟨#[99, 97, 112, 116, 105, 111, 110, 32, 99, 111, 108, 32, 99, 111, 108, 103, 114, 111, 117, 112, 32, 116, 98, 111, 100, 121, 32, 116, 100, 32, 116, 102, 111, 111, 116, 32, 116, 104, 32, 116, 104, 101, 97, 100, 32, 116, 114]⟩ : ByteArray)] : List ByteArray))) else (if a0 = 11 then (some (([(⟨#[97, 112, 112, 108, 101, 116, 32, 109, 97, 114, 113, 117, 101, 101, 32, 111, 98, 106, 101, 99, 116]⟩ : ByteArray)] : List ByteArray))) else (if a0 = 12 then (some (([(⟨#[98, 111, 100, 121, 32, 102, 114, 97, 109, 101, 32, 102, 114, 97, 109, 101, 115, 101, 116, 32, 104, 101, 97, 100, 32, 104, 116, 109, 108]⟩ : ByteArray), (⟨#[99, 97, 112, 116, 105, 111, 110, 32, 99, 111, 108, 32, 99, 111, 108, 103, 114, 111, 117, 112, 32, 116, 98, 111, 100, 121, 32, 116, 100, 32, 116, 102, 111, 111, 116, 32, 116, 104, 32, 116, 104, 101, 97, 100, 32, 116, 114]⟩ : ByteArray)] : List ByteArray))) else (if a0 = 10 then (some (([(⟨#[98, 32, 98, 105, 103, 32, 98, 108, 111, 99, 107, 113, 117, 111, 116, 101, 32, 98, 111, 100, 121, 32, 98, 114, 32, 99, 101, 110, 116, 101, 114, 32, 99, 111, 100, 101, 32, 100, 100, 32, 100, 105, 118, 32, 100, 108, 32, 100, 116, 32, 101, 109, 32, 101, 109, 98, 101, 100, 32, 104, 49, 32, 104, 50, 32, 104, 51, 32, 104, 52, 32, 104, 53, 32, 104, 54, 32, 104, 101, 97, 100, 32, 104, 114, 32, 105, 32, 105, 109, 103, 32, 108, 105, 32, 108, 105, 115, 116, 105, 110, 103, 32, 109, 101, 110, 117, 32, 109, 101, 116, 97, 32, 110, 111, 98, 114, 32, 111, 108, 32, 112, 32, 112, 114, 101, 32, 114, 117, 98, 121, 32, 115, 32, 115, 109, 97, 108, 108, 32, 115, 112, 97, 110, 32, 115, 116, 114, 105, 107, 101, 32, 115, 116, 114, 111, 110, 103, 32, 115, 117, 98, 32, 115, 117, 112, 32, 116, 97, 98, 108, 101, 32, 116, 116, 32, 117, 32, 117, 108, 32, 118, 97, 114]⟩ : ByteArray)] : List ByteArray))) else (if a0 = 4 then (some (([(⟨#[97, 114, 101, 97, 32, 98, 97, 115, 101, 32, 98, 114, 32, 99, 111, 108, 32, 101, 109, 98, 101, 100, 32, 104, 114, 32, 105, 109, 103, 32, 105, 110, 112, 117, 116, 32, 108, 105, 110, 107, 32, 109, 101, 116, 97, 32, 112, 97, 114, 97, 109, 32, 115, 111, 117, 114, 99, 101, 32, 116, 114, 97, 99, 107, 32, 119, 98, 114]⟩ : ByteArray), (⟨#[105, 102, 114, 97, 109, 101, 32, 110, 111, 101, 109, 98, 101, 100, 32, 110, 111, 102, 114, 97, 109, 101, 115, 32, 115, 99, 114, 105, 112, 116, 32, 115, 116, 121, 108, 101, 32, 120, 109, 112]⟩ : ByteArray), (⟨#[116, 101, 120, 116, 97, 114, 101, 97, 32, 116, 105, 116, 108, 101]⟩ : ByteArray), (⟨#[104, 49, 32, 104, 50, 32, 104, 51, 32, 104, 52, 32, 104, 53, 32, 104, 54]⟩ : ByteArray), (⟨#[97, 100, 100, 114, 101, 115, 115, 32, 97, 114, 116, 105, 99, 108, 101, 32, 97, 115, 105, 100, 101, 32, 98, 108, 111, 99, 107, 113, 117, 111, 116, 101, 32, 99, 101, 110, 116, 101, 114, 32, 100, 101, 116, 97, 105, 108, 115, 32, 100, 105, 97, 108, 111, 103, 32, 100, 105, 114, 32, 100, 105, 118, 32, 100, 108, 32, 102, 105, 101, 108, 100, 115, 101, 116, 32, 102, 105, 103, 99, 97, 112, 116, 105, 111, 110, 32, 102, 105, 103, 117, 114, 101, 32, 102, 111, 111, 116, 101, 114, 32, 104, 101, 97, 100, 101, 114, 32, 104, 103, 114, 111, 117, 112, 32, 109, 97, 105, 110, 32, 109, 101, 110, 117, 32, 110, 97, 118, 32, 111, 108, 32, 112, 32, 115, 101, 97, 114, 99, 104, 32, 115, 101, 99, 116, 105, 111, 110, 32, 115, 117, 109, 109, 97, 114, 121, 32, 117, 108]⟩ : ByteArray), (⟨#[99, 97, 112, 116, 105, 111, 110, 32, 99, 111, 108, 32, 99, 111, 108, 103, 114, 111, 117, 112, 32, 116, 98, 111, 100, 121, 32, 116, 100, 32, 116, 102, 111, 111, 116, 32, 116, 104, 32, 116, 104, 101, 97, 100, 32, 116, 114]⟩ : ByteArray), (⟨#[97, 112, 112, 108, 101, 116, 32, 109, 97, 114, 113, 117, 101, 101, 32, 111, 98, 106, 101, 99, 116]⟩ : ByteArray), (⟨#[98, 97, 115, 101, 102, 111, 110, 116, 32, 98, 103, 115, 111, 117, 110, 100, 32, 98, 111, 100, 121, 32, 98, 117, 116, 116, 111, 110, 32, 100, 100, 32, 100, 116, 32, 102, 111, 114, 109, 32, 102, 114, 97, 109, 101, 32, 102, 114, 97, 109, 101, 115, 101, 116, 32, 104, 101, 97, 100, 32, 104, 116, 109, 108, 32, 107, 101, 121, 103, 101, 110, 32, 108, 105, 32, 108, 105, 115, 116, 105, 110, 103, 32, 110, 111, 115, 99, 114, 105, 112, 116, 32, 112, 108, 97, 105, 110, 116, 101, 120, 116, 32, 112, 114, 101, 32, 115, 101, 108, 101, 99, 116, 32, 116, 97, 98, 108, 101, 32, 116, 101, 109, 112, 108, 97, 116, 101]⟩ : ByteArray)] : List ByteArray))) else (some ([] : List ByteArray)))))))))))))
set_option maxHeartbeats 8000000 in
set_option maxRecDepth 100000 in
theorem marginaliaref02_names.calls (a0 : Int) (r : List ByteArray) (w : World) (h : marginaliaref02_names.f a0 = some r) :
    Calls Try.prog 47 #[.int .i64 a0] w fun e w' => ∃ v0_ : Value, e = .returned (v0_) ∧ Kd.R Kd.string 9 w' w.heap.size (fun _ => True) v0_ r ∧ Below w.heap.size w w' := by
  have HB := Aside0.mk (Below.refl w.heap.size w)
  have H : (if a0 = 1 then (some (([(⟨#[97, 114, 101, 97, 32, 98, 97, 115, 101, 32, 98, 114, 32, 99, 111, 108, 32, 101, 109, 98, 101, 100, 32, 104, 114, 32, 105, 109, 103, 32, 105, 110, 112, 117, 116, 32, 108, 105, 110, 107, 32, 109, 101, 116, 97, 32, 112, 97, 114, 97, 109, 32, 115, 111, 117, 114, 99, 101, 32, 116, 114, 97, 99, 107, 32, 119, 98, 114]⟩ : ByteArray)] : List ByteArray))) else (if a0 = 2 then (some (([(⟨#[105, 102, 114, 97, 109, 101, 32, 110, 111, 101, 109, 98, 101, 100, 32, 110, 111, 102, 114, 97, 109, 101, 115, 32, 115, 99, 114, 105, 112, 116, 32, 115, 116, 121, 108, 101, 32, 120, 109, 112]⟩ : ByteArray)] : List ByteArray))) else (if a0 = 3 then (some (([(⟨#[116, 101, 120, 116, 97, 114, 101, 97, 32, 116, 105, 116, 108, 101]⟩ : ByteArray)] : List ByteArray))) else (if a0 = 5 then (some (([(⟨#[97, 32, 98, 32, 98, 105, 103, 32, 99, 111, 100, 101, 32, 101, 109, 32, 102, 111, 110, 116, 32, 105, 32, 110, 111, 98, 114, 32, 115, 32, 115, 109, 97, 108, 108, 32, 115, 116, 114, 105, 107, 101, 32, 115, 116, 114, 111, 110, 103, 32, 116, 116, 32, 117]⟩ : ByteArray)] : List ByteArray))) else (if a0 = 7 then (some (([(⟨#[104, 49, 32, 104, 50, 32, 104, 51, 32, 104, 52, 32, 104, 53, 32, 104, 54]⟩ : ByteArray)] : List ByteArray))) else (if a0 = 6 then (some (([(⟨#[97, 100, 100, 114, 101, 115, 115, 32, 97, 114, 116, 105, 99, 108, 101, 32, 97, 115, 105, 100, 101, 32, 98, 108, 111, 99, 107, 113, 117, 111, 116, 101, 32, 99, 101, 110, 116, 101, 114, 32, 100, 101, 116, 97, 105, 108, 115, 32, 100, 105, 97, 108, 111, 103, 32, 100, 105, 114, 32, 100, 105, 118, 32, 100, 108, 32, 102, 105, 101, 108, 100, 115, 101, 116, 32, 102, 105, 103, 99, 97, 112, 116, 105, 111, 110, 32, 102, 105, 103, 117, 114, 101, 32, 102, 111, 111, 116, 101, 114, 32, 104, 101, 97, 100, 101, 114, 32, 104, 103, 114, 111, 117, 112, 32, 109, 97, 105, 110, 32, 109, 101, 110, 117, 32, 110, 97, 118, 32, 111, 108, 32, 112, 32, 115, 101, 97, 114, 99, 104, 32, 115, 101, 99, 116, 105, 111, 110, 32, 115, 117, 109, 109, 97, 114, 121, 32, 117, 108]⟩ : ByteArray)] : List ByteArray))) else (if a0 = 8 then (some (([(⟨#[100, 100, 32, 100, 116, 32, 108, 105, 32, 111, 112, 116, 103, 114, 111, 117, 112, 32, 111, 112, 116, 105, 111, 110, 32, 112, 32, 114, 98, 32, 114, 112, 32, 114, 116, 32, 114, 116, 99]⟩ : ByteArray)] : List ByteArray))) else (if a0 = 9 then (some (([(⟨#[99, 97, 112, 116, 105, 111, 110, 32, 99, 111, 108, 32, 99, 111, 108, 103, 114, 111, 117, 112, 32, 116, 98, 111, 100, 121, 32, 116, 100, 32, 116, 102, 111, 111, 116, 32, 116, 104, 32, 116, 104, 101, 97, 100, 32, 116, 114]⟩ : ByteArray)] : List ByteArray))) else (if a0 = 11 then (some (([(⟨#[97, 112, 112, 108, 101, 116, 32, 109, 97, 114, 113, 117, 101, 101, 32, 111, 98, 106, 101, 99, 116]⟩ : ByteArray)] : List ByteArray))) else (if a0 = 12 then (some (([(⟨#[98, 111, 100, 121, 32, 102, 114, 97, 109, 101, 32, 102, 114, 97, 109, 101, 115, 101, 116, 32, 104, 101, 97, 100, 32, 104, 116, 109, 108]⟩ : ByteArray), (⟨#[99, 97, 112, 116, 105, 111, 110, 32, 99, 111, 108, 32, 99, 111, 108, 103, 114, 111, 117, 112, 32, 116, 98, 111, 100, 121, 32, 116, 100, 32, 116, 102, 111, 111, 116, 32, 116, 104, 32, 116, 104, 101, 97, 100, 32, 116, 114]⟩ : ByteArray)] : List ByteArray))) else (if a0 = 10 then (some (([(⟨#[98, 32, 98, 105, 103, 32, 98, 108, 111, 99, 107, 113, 117, 111, 116, 101, 32, 98, 111, 100, 121, 32, 98, 114, 32, 99, 101, 110, 116, 101, 114, 32, 99, 111, 100, 101, 32, 100, 100, 32, 100, 105, 118, 32, 100, 108, 32, 100, 116, 32, 101, 109, 32, 101, 109, 98, 101, 100, 32, 104, 49, 32, 104, 50, 32, 104, 51, 32, 104, 52, 32, 104, 53, 32, 104, 54, 32, 104, 101, 97, 100, 32, 104, 114, 32, 105, 32, 105, 109, 103, 32, 108, 105, 32, 108, 105, 115, 116, 105, 110, 103, 32, 109, 101, 110, 117, 32, 109, 101, 116, 97, 32, 110, 111, 98, 114, 32, 111, 108, 32, 112, 32, 112, 114, 101, 32, 114, 117, 98, 121, 32, 115, 32, 115, 109, 97, 108, 108, 32, 115, 112, 97, 110, 32, 115, 116, 114, 105, 107, 101, 32, 115, 116, 114, 111, 110, 103, 32, 115, 117, 98, 32, 115, 117, 112, 32, 116, 97, 98, 108, 101, 32, 116, 116, 32, 117, 32, 117, 108, 32, 118, 97, 114]⟩ : ByteArray)] : List ByteArray))) else (if a0 = 4 then (some (([(⟨#[97, 114, 101, 97, 32, 98, 97, 115, 101, 32, 98, 114, 32, 99, 111, 108, 32, 101, 109, 98, 101, 100, 32, 104, 114, 32, 105, 109, 103, 32, 105, 110, 112, 117, 116, 32, 108, 105, 110, 107, 32, 109, 101, 116, 97, 32, 112, 97, 114, 97, 109, 32, 115, 111, 117, 114, 99, 101, 32, 116, 114, 97, 99, 107, 32, 119, 98, 114]⟩ : ByteArray), (⟨#[105, 102, 114, 97, 109, 101, 32, 110, 111, 101, 109, 98, 101, 100, 32, 110, 111, 102, 114, 97, 109, 101, 115, 32, 115, 99, 114, 105, 112, 116, 32, 115, 116, 121, 108, 101, 32, 120, 109, 112]⟩ : ByteArray), (⟨#[116, 101, 120, 116, 97, 114, 101, 97, 32, 116, 105, 116, 108, 101]⟩ : ByteArray), (⟨#[104, 49, 32, 104, 50, 32, 104, 51, 32, 104, 52, 32, 104, 53, 32, 104, 54]⟩ : ByteArray), (⟨#[97, 100, 100, 114, 101, 115, 115, 32, 97, 114, 116, 105, 99, 108, 101, 32, 97, 115, 105, 100, 101, 32, 98, 108, 111, 99, 107, 113, 117, 111, 116, 101, 32, 99, 101, 110, 116, 101, 114, 32, 100, 101, 116, 97, 105, 108, 115, 32, 100, 105, 97, 108, 111, 103, 32, 100, 105, 114, 32, 100, 105, 118, 32, 100, 108, 32, 102, 105, 101, 108, 100, 115, 101, 116, 32, 102, 105, 103, 99, 97, 112, 116, 105, 111, 110, 32, 102, 105, 103, 117, 114, 101, 32, 102, 111, 111, 116, 101, 114, 32, 104, 101, 97, 100, 101, 114, 32, 104, 103, 114, 111, 117, 112, 32, 109, 97, 105, 110, 32, 109, 101, 110, 117, 32, 110, 97, 118, 32, 111, 108, 32, 112, 32, 115, 101, 97, 114, 99, 104, 32, 115, 101, 99, 116, 105, 111, 110, 32, 115, 117, 109, 109, 97, 114, 121, 32, 117, 108]⟩ : ByteArray), (⟨#[99, 97, 112, 116, 105, 111, 110, 32, 99, 111, 108, 32, 99, 111, 108, 103, 114, 111, 117, 112, 32, 116, 98, 111, 100, 121, 32, 116, 100, 32, 116, 102, 111, 111, 116, 32, 116, 104, 32, 116, 104, 101, 97, 100, 32, 116, 114]⟩ : ByteArray), (⟨#[97, 112, 112, 108, 101, 116, 32, 109, 97, 114, 113, 117, 101, 101, 32, 111, 98, 106, 101, 99, 116]⟩ : ByteArray), (⟨#[98, 97, 115, 101, 102, 111, 110, 116, 32, 98, 103, 115, 111, 117, 110, 100, 32, 98, 111, 100, 121, 32, 98, 117, 116, 116, 111, 110, 32, 100, 100, 32, 100, 116, 32, 102, 111, 114, 109, 32, 102, 114, 97, 109, 101, 32, 102, 114, 97, 109, 101, 115, 101, 116, 32, 104, 101, 97, 100, 32, 104, 116, 109, 108, 32, 107, 101, 121, 103, 101, 110, 32, 108, 105, 32, 108, 105, 115, 116, 105, 110, 103, 32, 110, 111, 115, 99, 114, 105, 112, 116, 32, 112, 108, 97, 105, 110, 116, 101, 120, 116, 32, 112, 114, 101, 32, 115, 101, 108, 101, 99, 116, 32, 116, 97, 98, 108, 101, 32, 116, 101, 109, 112, 108, 97, 116, 101]⟩ : ByteArray)] : List ByteArray))) else (some ([] : List ByteArray)))))))))))))) = some r := h
  clear h
  by_cases c2 : a0 = 1
  · rw [if_pos c2] at H
    have c2b0 : (a0 == 1) = true := beq_iff_eq.mpr c2
    have c2b1 : (a0 != 1) = false := bne_eq_false_iff_eq.mpr c2
    clear c2
    obtain ⟨y209, hy209⟩ : ∃ y_ : List ByteArray, y_ = (([(⟨#[97, 114, 101, 97, 32, 98, 97, 115, 101, 32, 98, 114, 32, 99, 111, 108, 32, 101, 109, 98, 101, 100, 32, 104, 114, 32, 105, 109, 103, 32, 105, 110, 112, 117, 116, 32, 108, 105, 110, 107, 32, 109, 101, 116, 97, 32, 112, 97, 114, 97, 109, 32, 115, 111, 117, 114, 99, 101, 32, 116, 114, 97, 99, 107, 32, 119, 98, 114]⟩ : ByteArray)] : List ByteArray)) := ⟨_, rfl⟩
    replace H : (some y209) = some r := by first | (rw [hy209]; with_reducible exact H) | (have H2_ := (Option.bind_some _ _).symm.trans H; rw [hy209]; with_reducible exact H2_) | (have H2_ := (Option.bind_some _ _).symm.trans H; with_reducible exact H2_) | with_reducible exact H | (rw [hy209]; exact H) | exact H
    have Ny209 := Aside0.mk hy209
    clear hy209
    obtain rfl := Option.some.inj H
    go_enter Try.func47, Try.ntmps47
    go_wp2_with (first | ((with_reducible refine gate_dst (N := 6) rfl ?_); refine Kd.R_lit Kd.string _ 9 ?hg (N := 6) ?hd (xs := ([(⟨#[97, 114, 101, 97, 32, 98, 97, 115, 101, 32, 98, 114, 32, 99, 111, 108, 32, 101, 109, 98, 101, 100, 32, 104, 114, 32, 105, 109, 103, 32, 105, 110, 112, 117, 116, 32, 108, 105, 110, 107, 32, 109, 101, 116, 97, 32, 112, 97, 114, 97, 109, 32, 115, 111, 117, 114, 99, 101, 32, 116, 114, 97, 99, 107, 32, 119, 98, 114]⟩ : ByteArray)] : List ByteArray)) (inner := [.string (⟨#[97, 114, 101, 97, 32, 98, 97, 115, 101, 32, 98, 114, 32, 99, 111, 108, 32, 101, 109, 98, 101, 100, 32, 104, 114, 32, 105, 109, 103, 32, 105, 110, 112, 117, 116, 32, 108, 105, 110, 107, 32, 109, 101, 116, 97, 32, 112, 97, 114, 97, 109, 32, 115, 111, 117, 114, 99, 101, 32, 116, 114, 97, 99, 107, 32, 119, 98, 114]⟩ : ByteArray)]) (ok := fun _ => True) (okp := fun _ => True) ?hr ?hp (fun _ hk => hk) trivial (Below.refl _ _) (Nat.le_refl _) (by simp) ?_; (case hd => rfl); (case hg => rfl); (case hr => first | (go_simp; done) | (go_simp; rfl)); (case hp => exact (Reps.one (show Kd.M Kd.string _ _ _ (⟨#[97, 114, 101, 97, 32, 98, 97, 115, 101, 32, 98, 114, 32, 99, 111, 108, 32, 101, 109, 98, 101, 100, 32, 104, 114, 32, 105, 109, 103, 32, 105, 110, 112, 117, 116, 32, 108, 105, 110, 107, 32, 109, 101, 116, 97, 32, 112, 97, 114, 97, 109, 32, 115, 111, 117, 114, 99, 101, 32, 116, 114, 97, 99, 107, 32, 119, 98, 114]⟩ : ByteArray) [.string (⟨#[97, 114, 101, 97, 32, 98, 97, 115, 101, 32, 98, 114, 32, 99, 111, 108, 32, 101, 109, 98, 101, 100, 32, 104, 114, 32, 105, 109, 103, 32, 105, 110, 112, 117, 116, 32, 108, 105, 110, 107, 32, 109, 101, 116, 97, 32, 112, 97, 114, 97, 109, 32, 115, 111, 117, 114, 99, 101, 32, 116, 114, 97, 99, 107, 32, 119, 98, 114]⟩ : ByteArray)] from rfl) (Reps.none _ _))); intro v210 w3 ho4 hb hg_ hnew_; clear hg_ hnew_; (first | rw [← Ny209.out] at ho4 | (simp only [Int.reduceToNat] at ho4; rw [← Ny209.out] at ho4)); have n0_ := Aside0.mk (Kd.R_lower ho4 (below_size (by repeat (first | (with_reducible first | exact HB.out | apply below_alloc | apply pw_below_drewN | apply below_drew1) | exact HB.out)))); have n1_ := Aside0.mk (below_step (by repeat (first | (with_reducible first | exact HB.out | apply below_alloc | apply pw_below_drewN | apply below_drew1) | exact HB.out)) hb); clear HB; have HO211 := n0_; have HB := n1_; clear n0_ n1_; clear hb ho4))
    go_ret
    exact ⟨_, by first | rfl | (simp [errW_none, errW_some] <;> rfl) | (simp [*, errW_none, errW_some] <;> rfl), by (with_reducible repeat (first | apply Kd.R_alloc | apply Kd.R_drewN | apply Kd.R_drew)); exact HO211.out, by repeat (first | (with_reducible first | exact HB.out | apply below_alloc | apply pw_below_drewN | apply below_drew1) | exact HB.out)⟩
  · rw [if_neg c2] at H
    have c2b0 : (a0 == 1) = false := beq_eq_false_iff_ne.mpr c2
    have c2b1 : (a0 != 1) = true := bne_iff_ne.mpr c2
    by_cases c5 : a0 = 2
    · rw [if_pos c5] at H
      have c5b0 : (a0 == 2) = true := beq_iff_eq.mpr c5
      have c5b1 : (a0 != 2) = false := bne_eq_false_iff_eq.mpr c5
      clear c5
      obtain ⟨y212, hy212⟩ : ∃ y_ : List ByteArray, y_ = (([(⟨#[105, 102, 114, 97, 109, 101, 32, 110, 111, 101, 109, 98, 101, 100, 32, 110, 111, 102, 114, 97, 109, 101, 115, 32, 115, 99, 114, 105, 112, 116, 32, 115, 116, 121, 108, 101, 32, 120, 109, 112]⟩ : ByteArray)] : List ByteArray)) := ⟨_, rfl⟩
      replace H : (some y212) = some r := by first | (rw [hy212]; with_reducible exact H) | (have H2_ := (Option.bind_some _ _).symm.trans H; rw [hy212]; with_reducible exact H2_) | (have H2_ := (Option.bind_some _ _).symm.trans H; with_reducible exact H2_) | with_reducible exact H | (rw [hy212]; exact H) | exact H
      have Ny212 := Aside0.mk hy212
      clear hy212
      obtain rfl := Option.some.inj H
      go_enter Try.func47, Try.ntmps47
      go_wp2_with (first | ((with_reducible refine gate_dst (N := 9) rfl ?_); refine Kd.R_lit Kd.string _ 9 ?hg (N := 9) ?hd (xs := ([(⟨#[105, 102, 114, 97, 109, 101, 32, 110, 111, 101, 109, 98, 101, 100, 32, 110, 111, 102, 114, 97, 109, 101, 115, 32, 115, 99, 114, 105, 112, 116, 32, 115, 116, 121, 108, 101, 32, 120, 109, 112]⟩ : ByteArray)] : List ByteArray)) (inner := [.string (⟨#[105, 102, 114, 97, 109, 101, 32, 110, 111, 101, 109, 98, 101, 100, 32, 110, 111, 102, 114, 97, 109, 101, 115, 32, 115, 99, 114, 105, 112, 116, 32, 115, 116, 121, 108, 101, 32, 120, 109, 112]⟩ : ByteArray)]) (ok := fun _ => True) (okp := fun _ => True) ?hr ?hp (fun _ hk => hk) trivial (Below.refl _ _) (Nat.le_refl _) (by simp) ?_; (case hd => rfl); (case hg => rfl); (case hr => first | (go_simp; done) | (go_simp; rfl)); (case hp => exact (Reps.one (show Kd.M Kd.string _ _ _ (⟨#[105, 102, 114, 97, 109, 101, 32, 110, 111, 101, 109, 98, 101, 100, 32, 110, 111, 102, 114, 97, 109, 101, 115, 32, 115, 99, 114, 105, 112, 116, 32, 115, 116, 121, 108, 101, 32, 120, 109, 112]⟩ : ByteArray) [.string (⟨#[105, 102, 114, 97, 109, 101, 32, 110, 111, 101, 109, 98, 101, 100, 32, 110, 111, 102, 114, 97, 109, 101, 115, 32, 115, 99, 114, 105, 112, 116, 32, 115, 116, 121, 108, 101, 32, 120, 109, 112]⟩ : ByteArray)] from rfl) (Reps.none _ _))); intro v213 w6 ho7 hb hg_ hnew_; clear hg_ hnew_; (first | rw [← Ny212.out] at ho7 | (simp only [Int.reduceToNat] at ho7; rw [← Ny212.out] at ho7)); have n0_ := Aside0.mk (Kd.R_lower ho7 (below_size (by repeat (first | (with_reducible first | exact HB.out | apply below_alloc | apply pw_below_drewN | apply below_drew1) | exact HB.out)))); have n1_ := Aside0.mk (below_step (by repeat (first | (with_reducible first | exact HB.out | apply below_alloc | apply pw_below_drewN | apply below_drew1) | exact HB.out)) hb); clear HB; have HO214 := n0_; have HB := n1_; clear n0_ n1_; clear hb ho7))
      go_ret
      exact ⟨_, by first | rfl | (simp [errW_none, errW_some] <;> rfl) | (simp [*, errW_none, errW_some] <;> rfl), by (with_reducible repeat (first | apply Kd.R_alloc | apply Kd.R_drewN | apply Kd.R_drew)); exact HO214.out, by repeat (first | (with_reducible first | exact HB.out | apply below_alloc | apply pw_below_drewN | apply below_drew1) | exact HB.out)⟩
    · rw [if_neg c5] at H
      have c5b0 : (a0 == 2) = false := beq_eq_false_iff_ne.mpr c5
      have c5b1 : (a0 != 2) = true := bne_iff_ne.mpr c5
      by_cases c8 : a0 = 3
      · rw [if_pos c8] at H
        have c8b0 : (a0 == 3) = true := beq_iff_eq.mpr c8
        have c8b1 : (a0 != 3) = false := bne_eq_false_iff_eq.mpr c8
        clear c8
        obtain ⟨y215, hy215⟩ : ∃ y_ : List ByteArray, y_ = (([(⟨#[116, 101, 120, 116, 97, 114, 101, 97, 32, 116, 105, 116, 108, 101]⟩ : ByteArray)] : List ByteArray)) := ⟨_, rfl⟩
        replace H : (some y215) = some r := by first | (rw [hy215]; with_reducible exact H) | (have H2_ := (Option.bind_some _ _).symm.trans H; rw [hy215]; with_reducible exact H2_) | (have H2_ := (Option.bind_some _ _).symm.trans H; with_reducible exact H2_) | with_reducible exact H | (rw [hy215]; exact H) | exact H
        have Ny215 := Aside0.mk hy215
        clear hy215
        obtain rfl := Option.some.inj H
        go_enter Try.func47, Try.ntmps47
        go_wp2_with (first | ((with_reducible refine gate_dst (N := 12) rfl ?_); refine Kd.R_lit Kd.string _ 9 ?hg (N := 12) ?hd (xs := ([(⟨#[116, 101, 120, 116, 97, 114, 101, 97, 32, 116, 105, 116, 108, 101]⟩ : ByteArray)] : List ByteArray)) (inner := [.string (⟨#[116, 101, 120, 116, 97, 114, 101, 97, 32, 116, 105, 116, 108, 101]⟩ : ByteArray)]) (ok := fun _ => True) (okp := fun _ => True) ?hr ?hp (fun _ hk => hk) trivial (Below.refl _ _) (Nat.le_refl _) (by simp) ?_; (case hd => rfl); (case hg => rfl); (case hr => first | (go_simp; done) | (go_simp; rfl)); (case hp => exact (Reps.one (show Kd.M Kd.string _ _ _ (⟨#[116, 101, 120, 116, 97, 114, 101, 97, 32, 116, 105, 116, 108, 101]⟩ : ByteArray) [.string (⟨#[116, 101, 120, 116, 97, 114, 101, 97, 32, 116, 105, 116, 108, 101]⟩ : ByteArray)] from rfl) (Reps.none _ _))); intro v216 w9 ho10 hb hg_ hnew_; clear hg_ hnew_; (first | rw [← Ny215.out] at ho10 | (simp only [Int.reduceToNat] at ho10; rw [← Ny215.out] at ho10)); have n0_ := Aside0.mk (Kd.R_lower ho10 (below_size (by repeat (first | (with_reducible first | exact HB.out | apply below_alloc | apply pw_below_drewN | apply below_drew1) | exact HB.out)))); have n1_ := Aside0.mk (below_step (by repeat (first | (with_reducible first | exact HB.out | apply below_alloc | apply pw_below_drewN | apply below_drew1) | exact HB.out)) hb); clear HB; have HO217 := n0_; have HB := n1_; clear n0_ n1_; clear hb ho10))
        go_ret
        exact ⟨_, by first | rfl | (simp [errW_none, errW_some] <;> rfl) | (simp [*, errW_none, errW_some] <;> rfl), by (with_reducible repeat (first | apply Kd.R_alloc | apply Kd.R_drewN | apply Kd.R_drew)); exact HO217.out, by repeat (first | (with_reducible first | exact HB.out | apply below_alloc | apply pw_below_drewN | apply below_drew1) | exact HB.out)⟩
      · rw [if_neg c8] at H
        have c8b0 : (a0 == 3) = false := beq_eq_false_iff_ne.mpr c8
        have c8b1 : (a0 != 3) = true := bne_iff_ne.mpr c8
        by_cases c11 : a0 = 5
        · rw [if_pos c11] at H
          have c11b0 : (a0 == 5) = true := beq_iff_eq.mpr c11
          have c11b1 : (a0 != 5) = false := bne_eq_false_iff_eq.mpr c11
          clear c11
          obtain ⟨y218, hy218⟩ : ∃ y_ : List ByteArray, y_ = (([(⟨#[97, 32, 98, 32, 98, 105, 103, 32, 99, 111, 100, 101, 32, 101, 109, 32, 102, 111, 110, 116, 32, 105, 32, 110, 111, 98, 114, 32, 115, 32, 115, 109, 97, 108, 108, 32, 115, 116, 114, 105, 107, 101, 32, 115, 116, 114, 111, 110, 103, 32, 116, 116, 32, 117]⟩ : ByteArray)] : List ByteArray)) := ⟨_, rfl⟩
          replace H : (some y218) = some r := by first | (rw [hy218]; with_reducible exact H) | (have H2_ := (Option.bind_some _ _).symm.trans H; rw [hy218]; with_reducible exact H2_) | (have H2_ := (Option.bind_some _ _).symm.trans H; with_reducible exact H2_) | with_reducible exact H | (rw [hy218]; exact H) | exact H
          have Ny218 := Aside0.mk hy218
          clear hy218
          obtain rfl := Option.some.inj H
          go_enter Try.func47, Try.ntmps47
          go_wp2_with (first | ((with_reducible refine gate_dst (N := 15) rfl ?_); refine Kd.R_lit Kd.string _ 9 ?hg (N := 15) ?hd (xs := ([(⟨#[97, 32, 98, 32, 98, 105, 103, 32, 99, 111, 100, 101, 32, 101, 109, 32, 102, 111, 110, 116, 32, 105, 32, 110, 111, 98, 114, 32, 115, 32, 115, 109, 97, 108, 108, 32, 115, 116, 114, 105, 107, 101, 32, 115, 116, 114, 111, 110, 103, 32, 116, 116, 32, 117]⟩ : ByteArray)] : List ByteArray)) (inner := [.string (⟨#[97, 32, 98, 32, 98, 105, 103, 32, 99, 111, 100, 101, 32, 101, 109, 32, 102, 111, 110, 116, 32, 105, 32, 110, 111, 98, 114, 32, 115, 32, 115, 109, 97, 108, 108, 32, 115, 116, 114, 105, 107, 101, 32, 115, 116, 114, 111, 110, 103, 32, 116, 116, 32, 117]⟩ : ByteArray)]) (ok := fun _ => True) (okp := fun _ => True) ?hr ?hp (fun _ hk => hk) trivial (Below.refl _ _) (Nat.le_refl _) (by simp) ?_; (case hd => rfl); (case hg => rfl); (case hr => first | (go_simp; done) | (go_simp; rfl)); (case hp => exact (Reps.one (show Kd.M Kd.string _ _ _ (⟨#[97, 32, 98, 32, 98, 105, 103, 32, 99, 111, 100, 101, 32, 101, 109, 32, 102, 111, 110, 116, 32, 105, 32, 110, 111, 98, 114, 32, 115, 32, 115, 109, 97, 108, 108, 32, 115, 116, 114, 105, 107, 101, 32, 115, 116, 114, 111, 110, 103, 32, 116, 116, 32, 117]⟩ : ByteArray) [.string (⟨#[97, 32, 98, 32, 98, 105, 103, 32, 99, 111, 100, 101, 32, 101, 109, 32, 102, 111, 110, 116, 32, 105, 32, 110, 111, 98, 114, 32, 115, 32, 115, 109, 97, 108, 108, 32, 115, 116, 114, 105, 107, 101, 32, 115, 116, 114, 111, 110, 103, 32, 116, 116, 32, 117]⟩ : ByteArray)] from rfl) (Reps.none _ _))); intro v219 w12 ho13 hb hg_ hnew_; clear hg_ hnew_; (first | rw [← Ny218.out] at ho13 | (simp only [Int.reduceToNat] at ho13; rw [← Ny218.out] at ho13)); have n0_ := Aside0.mk (Kd.R_lower ho13 (below_size (by repeat (first | (with_reducible first | exact HB.out | apply below_alloc | apply pw_below_drewN | apply below_drew1) | exact HB.out)))); have n1_ := Aside0.mk (below_step (by repeat (first | (with_reducible first | exact HB.out | apply below_alloc | apply pw_below_drewN | apply below_drew1) | exact HB.out)) hb); clear HB; have HO220 := n0_; have HB := n1_; clear n0_ n1_; clear hb ho13))
          go_ret
          exact ⟨_, by first | rfl | (simp [errW_none, errW_some] <;> rfl) | (simp [*, errW_none, errW_some] <;> rfl), by (with_reducible repeat (first | apply Kd.R_alloc | apply Kd.R_drewN | apply Kd.R_drew)); exact HO220.out, by repeat (first | (with_reducible first | exact HB.out | apply below_alloc | apply pw_below_drewN | apply below_drew1) | exact HB.out)⟩
        · rw [if_neg c11] at H
          have c11b0 : (a0 == 5) = false := beq_eq_false_iff_ne.mpr c11
          have c11b1 : (a0 != 5) = true := bne_iff_ne.mpr c11
          by_cases c14 : a0 = 7
          · rw [if_pos c14] at H
            have c14b0 : (a0 == 7) = true := beq_iff_eq.mpr c14
            have c14b1 : (a0 != 7) = false := bne_eq_false_iff_eq.mpr c14
            clear c14
            obtain ⟨y221, hy221⟩ : ∃ y_ : List ByteArray, y_ = (([(⟨#[104, 49, 32, 104, 50, 32, 104, 51, 32, 104, 52, 32, 104, 53, 32, 104, 54]⟩ : ByteArray)] : List ByteArray)) := ⟨_, rfl⟩
            replace H : (some y221) = some r := by first | (rw [hy221]; with_reducible exact H) | (have H2_ := (Option.bind_some _ _).symm.trans H; rw [hy221]; with_reducible exact H2_) | (have H2_ := (Option.bind_some _ _).symm.trans H; with_reducible exact H2_) | with_reducible exact H | (rw [hy221]; exact H) | exact H
            have Ny221 := Aside0.mk hy221
            clear hy221
            obtain rfl := Option.some.inj H
            go_enter Try.func47, Try.ntmps47
            go_wp2_with (first | ((with_reducible refine gate_dst (N := 18) rfl ?_); refine Kd.R_lit Kd.string _ 9 ?hg (N := 18) ?hd (xs := ([(⟨#[104, 49, 32, 104, 50, 32, 104, 51, 32, 104, 52, 32, 104, 53, 32, 104, 54]⟩ : ByteArray)] : List ByteArray)) (inner := [.string (⟨#[104, 49, 32, 104, 50, 32, 104, 51, 32, 104, 52, 32, 104, 53, 32, 104, 54]⟩ : ByteArray)]) (ok := fun _ => True) (okp := fun _ => True) ?hr ?hp (fun _ hk => hk) trivial (Below.refl _ _) (Nat.le_refl _) (by simp) ?_; (case hd => rfl); (case hg => rfl); (case hr => first | (go_simp; done) | (go_simp; rfl)); (case hp => exact (Reps.one (show Kd.M Kd.string _ _ _ (⟨#[104, 49, 32, 104, 50, 32, 104, 51, 32, 104, 52, 32, 104, 53, 32, 104, 54]⟩ : ByteArray) [.string (⟨#[104, 49, 32, 104, 50, 32, 104, 51, 32, 104, 52, 32, 104, 53, 32, 104, 54]⟩ : ByteArray)] from rfl) (Reps.none _ _))); intro v222 w15 ho16 hb hg_ hnew_; clear hg_ hnew_; (first | rw [← Ny221.out] at ho16 | (simp only [Int.reduceToNat] at ho16; rw [← Ny221.out] at ho16)); have n0_ := Aside0.mk (Kd.R_lower ho16 (below_size (by repeat (first | (with_reducible first | exact HB.out | apply below_alloc | apply pw_below_drewN | apply below_drew1) | exact HB.out)))); have n1_ := Aside0.mk (below_step (by repeat (first | (with_reducible first | exact HB.out | apply below_alloc | apply pw_below_drewN | apply below_drew1) | exact HB.out)) hb); clear HB; have HO223 := n0_; have HB := n1_; clear n0_ n1_; clear hb ho16))
            go_ret
            exact ⟨_, by first | rfl | (simp [errW_none, errW_some] <;> rfl) | (simp [*, errW_none, errW_some] <;> rfl), by (with_reducible repeat (first | apply Kd.R_alloc | apply Kd.R_drewN | apply Kd.R_drew)); exact HO223.out, by repeat (first | (with_reducible first | exact HB.out | apply below_alloc | apply pw_below_drewN | apply below_drew1) | exact HB.out)⟩
          · rw [if_neg c14] at H
            have c14b0 : (a0 == 7) = false := beq_eq_false_iff_ne.mpr c14
            have c14b1 : (a0 != 7) = true := bne_iff_ne.mpr c14
            by_cases c17 : a0 = 6
            · rw [if_pos c17] at H
              have c17b0 : (a0 == 6) = true := beq_iff_eq.mpr c17
              have c17b1 : (a0 != 6) = false := bne_eq_false_iff_eq.mpr c17
              clear c17
              obtain ⟨y224, hy224⟩ : ∃ y_ : List ByteArray, y_ = (([(⟨#[97, 100, 100, 114, 101, 115, 115, 32, 97, 114, 116, 105, 99, 108, 101, 32, 97, 115, 105, 100, 101, 32, 98, 108, 111, 99, 107, 113, 117, 111, 116, 101, 32, 99, 101, 110, 116, 101, 114, 32, 100, 101, 116, 97, 105, 108, 115, 32, 100, 105, 97, 108, 111, 103, 32, 100, 105, 114, 32, 100, 105, 118, 32, 100, 108, 32, 102, 105, 101, 108, 100, 115, 101, 116, 32, 102, 105, 103, 99, 97, 112, 116, 105, 111, 110, 32, 102, 105, 103, 117, 114, 101, 32, 102, 111, 111, 116, 101, 114, 32, 104, 101, 97, 100, 101, 114, 32, 104, 103, 114, 111, 117, 112, 32, 109, 97, 105, 110, 32, 109, 101, 110, 117, 32, 110, 97, 118, 32, 111, 108, 32, 112, 32, 115, 101, 97, 114, 99, 104, 32, 115, 101, 99, 116, 105, 111, 110, 32, 115, 117, 109, 109, 97, 114, 121, 32, 117, 108]⟩ : ByteArray)] : List ByteArray)) := ⟨_, rfl⟩
              replace H : (some y224) = some r := by first | (rw [hy224]; with_reducible exact H) | (have H2_ := (Option.bind_some _ _).symm.trans H; rw [hy224]; with_reducible exact H2_) | (have H2_ := (Option.bind_some _ _).symm.trans H; with_reducible exact H2_) | with_reducible exact H | (rw [hy224]; exact H) | exact H
              have Ny224 := Aside0.mk hy224
              clear hy224
              obtain rfl := Option.some.inj H
              go_enter Try.func47, Try.ntmps47
              go_wp2_with (first | ((with_reducible refine gate_dst (N := 21) rfl ?_); refine Kd.R_lit Kd.string _ 9 ?hg (N := 21) ?hd (xs := ([(⟨#[97, 100, 100, 114, 101, 115, 115, 32, 97, 114, 116, 105, 99, 108, 101, 32, 97, 115, 105, 100, 101, 32, 98, 108, 111, 99, 107, 113, 117, 111, 116, 101, 32, 99, 101, 110, 116, 101, 114, 32, 100, 101, 116, 97, 105, 108, 115, 32, 100, 105, 97, 108, 111, 103, 32, 100, 105, 114, 32, 100, 105, 118, 32, 100, 108, 32, 102, 105, 101, 108, 100, 115, 101, 116, 32, 102, 105, 103, 99, 97, 112, 116, 105, 111, 110, 32, 102, 105, 103, 117, 114, 101, 32, 102, 111, 111, 116, 101, 114, 32, 104, 101, 97, 100, 101, 114, 32, 104, 103, 114, 111, 117, 112, 32, 109, 97, 105, 110, 32, 109, 101, 110, 117, 32, 110, 97, 118, 32, 111, 108, 32, 112, 32, 115, 101, 97, 114, 99, 104, 32, 115, 101, 99, 116, 105, 111, 110, 32, 115, 117, 109, 109, 97, 114, 121, 32, 117, 108]⟩ : ByteArray)] : List ByteArray)) (inner := [.string (⟨#[97, 100, 100, 114, 101, 115, 115, 32, 97, 114, 116, 105, 99, 108, 101, 32, 97, 115, 105, 100, 101, 32, 98, 108, 111, 99, 107, 113, 117, 111, 116, 101, 32, 99, 101, 110, 116, 101, 114, 32, 100, 101, 116, 97, 105, 108, 115, 32, 100, 105, 97, 108, 111, 103, 32, 100, 105, 114, 32, 100, 105, 118, 32, 100, 108, 32, 102, 105, 101, 108, 100, 115, 101, 116, 32, 102, 105, 103, 99, 97, 112, 116, 105, 111, 110, 32, 102, 105, 103, 117, 114, 101, 32, 102, 111, 111, 116, 101, 114, 32, 104, 101, 97, 100, 101, 114, 32, 104, 103, 114, 111, 117, 112, 32, 109, 97, 105, 110, 32, 109, 101, 110, 117, 32, 110, 97, 118, 32, 111, 108, 32, 112, 32, 115, 101, 97, 114, 99, 104, 32, 115, 101, 99, 116, 105, 111, 110, 32, 115, 117, 109, 109, 97, 114, 121, 32, 117, 108]⟩ : ByteArray)]) (ok := fun _ => True) (okp := fun _ => True) ?hr ?hp (fun _ hk => hk) trivial (Below.refl _ _) (Nat.le_refl _) (by simp) ?_; (case hd => rfl); (case hg => rfl); (case hr => first | (go_simp; done) | (go_simp; rfl)); (case hp => exact (Reps.one (show Kd.M Kd.string _ _ _ (⟨#[97, 100, 100, 114, 101, 115, 115, 32, 97, 114, 116, 105, 99, 108, 101, 32, 97, 115, 105, 100, 101, 32, 98, 108, 111, 99, 107, 113, 117, 111, 116, 101, 32, 99, 101, 110, 116, 101, 114, 32, 100, 101, 116, 97, 105, 108, 115, 32, 100, 105, 97, 108, 111, 103, 32, 100, 105, 114, 32, 100, 105, 118, 32, 100, 108, 32, 102, 105, 101, 108, 100, 115, 101, 116, 32, 102, 105, 103, 99, 97, 112, 116, 105, 111, 110, 32, 102, 105, 103, 117, 114, 101, 32, 102, 111, 111, 116, 101, 114, 32, 104, 101, 97, 100, 101, 114, 32, 104, 103, 114, 111, 117, 112, 32, 109, 97, 105, 110, 32, 109, 101, 110, 117, 32, 110, 97, 118, 32, 111, 108, 32, 112, 32, 115, 101, 97, 114, 99, 104, 32, 115, 101, 99, 116, 105, 111, 110, 32, 115, 117, 109, 109, 97, 114, 121, 32, 117, 108]⟩ : ByteArray) [.string (⟨#[97, 100, 100, 114, 101, 115, 115, 32, 97, 114, 116, 105, 99, 108, 101, 32, 97, 115, 105, 100, 101, 32, 98, 108, 111, 99, 107, 113, 117, 111, 116, 101, 32, 99, 101, 110, 116, 101, 114, 32, 100, 101, 116, 97, 105, 108, 115, 32, 100, 105, 97, 108, 111, 103, 32, 100, 105, 114, 32, 100, 105, 118, 32, 100, 108, 32, 102, 105, 101, 108, 100, 115, 101, 116, 32, 102, 105, 103, 99, 97, 112, 116, 105, 111, 110, 32, 102, 105, 103, 117, 114, 101, 32, 102, 111, 111, 116, 101, 114, 32, 104, 101, 97, 100, 101, 114, 32, 104, 103, 114, 111, 117, 112, 32, 109, 97, 105, 110, 32, 109, 101, 110, 117, 32, 110, 97, 118, 32, 111, 108, 32, 112, 32, 115, 101, 97, 114, 99, 104, 32, 115, 101, 99, 116, 105, 111, 110, 32, 115, 117, 109, 109, 97, 114, 121, 32, 117, 108]⟩ : ByteArray)] from rfl) (Reps.none _ _))); intro v225 w18 ho19 hb hg_ hnew_; clear hg_ hnew_; (first | rw [← Ny224.out] at ho19 | (simp only [Int.reduceToNat] at ho19; rw [← Ny224.out] at ho19)); have n0_ := Aside0.mk (Kd.R_lower ho19 (below_size (by repeat (first | (with_reducible first | exact HB.out | apply below_alloc | apply pw_below_drewN | apply below_drew1) | exact HB.out)))); have n1_ := Aside0.mk (below_step (by repeat (first | (with_reducible first | exact HB.out | apply below_alloc | apply pw_below_drewN | apply below_drew1) | exact HB.out)) hb); clear HB; have HO226 := n0_; have HB := n1_; clear n0_ n1_; clear hb ho19))
              go_ret
              exact ⟨_, by first | rfl | (simp [errW_none, errW_some] <;> rfl) | (simp [*, errW_none, errW_some] <;> rfl), by (with_reducible repeat (first | apply Kd.R_alloc | apply Kd.R_drewN | apply Kd.R_drew)); exact HO226.out, by repeat (first | (with_reducible first | exact HB.out | apply below_alloc | apply pw_below_drewN | apply below_drew1) | exact HB.out)⟩
            · rw [if_neg c17] at H
              have c17b0 : (a0 == 6) = false := beq_eq_false_iff_ne.mpr c17
              have c17b1 : (a0 != 6) = true := bne_iff_ne.mpr c17
              by_cases c20 : a0 = 8
              · rw [if_pos c20] at H
                have c20b0 : (a0 == 8) = true := beq_iff_eq.mpr c20
                have c20b1 : (a0 != 8) = false := bne_eq_false_iff_eq.mpr c20
                clear c20
                obtain ⟨y227, hy227⟩ : ∃ y_ : List ByteArray, y_ = (([(⟨#[100, 100, 32, 100, 116, 32, 108, 105, 32, 111, 112, 116, 103, 114, 111, 117, 112, 32, 111, 112, 116, 105, 111, 110, 32, 112, 32, 114, 98, 32, 114, 112, 32, 114, 116, 32, 114, 116, 99]⟩ : ByteArray)] : List ByteArray)) := ⟨_, rfl⟩
                replace H : (some y227) = some r := by first | (rw [hy227]; with_reducible exact H) | (have H2_ := (Option.bind_some _ _).symm.trans H; rw [hy227]; with_reducible exact H2_) | (have H2_ := (Option.bind_some _ _).symm.trans H; with_reducible exact H2_) | with_reducible exact H | (rw [hy227]; exact H) | exact H
                have Ny227 := Aside0.mk hy227
                clear hy227
                obtain rfl := Option.some.inj H
                go_enter Try.func47, Try.ntmps47
                go_wp2_with (first | ((with_reducible refine gate_dst (N := 24) rfl ?_); refine Kd.R_lit Kd.string _ 9 ?hg (N := 24) ?hd (xs := ([(⟨#[100, 100, 32, 100, 116, 32, 108, 105, 32, 111, 112, 116, 103, 114, 111, 117, 112, 32, 111, 112, 116, 105, 111, 110, 32, 112, 32, 114, 98, 32, 114, 112, 32, 114, 116, 32, 114, 116, 99]⟩ : ByteArray)] : List ByteArray)) (inner := [.string (⟨#[100, 100, 32, 100, 116, 32, 108, 105, 32, 111, 112, 116, 103, 114, 111, 117, 112, 32, 111, 112, 116, 105, 111, 110, 32, 112, 32, 114, 98, 32, 114, 112, 32, 114, 116, 32, 114, 116, 99]⟩ : ByteArray)]) (ok := fun _ => True) (okp := fun _ => True) ?hr ?hp (fun _ hk => hk) trivial (Below.refl _ _) (Nat.le_refl _) (by simp) ?_; (case hd => rfl); (case hg => rfl); (case hr => first | (go_simp; done) | (go_simp; rfl)); (case hp => exact (Reps.one (show Kd.M Kd.string _ _ _ (⟨#[100, 100, 32, 100, 116, 32, 108, 105, 32, 111, 112, 116, 103, 114, 111, 117, 112, 32, 111, 112, 116, 105, 111, 110, 32, 112, 32, 114, 98, 32, 114, 112, 32, 114, 116, 32, 114, 116, 99]⟩ : ByteArray) [.string (⟨#[100, 100, 32, 100, 116, 32, 108, 105, 32, 111, 112, 116, 103, 114, 111, 117, 112, 32, 111, 112, 116, 105, 111, 110, 32, 112, 32, 114, 98, 32, 114, 112, 32, 114, 116, 32, 114, 116, 99]⟩ : ByteArray)] from rfl) (Reps.none _ _))); intro v228 w21 ho22 hb hg_ hnew_; clear hg_ hnew_; (first | rw [← Ny227.out] at ho22 | (simp only [Int.reduceToNat] at ho22; rw [← Ny227.out] at ho22)); have n0_ := Aside0.mk (Kd.R_lower ho22 (below_size (by repeat (first | (with_reducible first | exact HB.out | apply below_alloc | apply pw_below_drewN | apply below_drew1) | exact HB.out)))); have n1_ := Aside0.mk (below_step (by repeat (first | (with_reducible first | exact HB.out | apply below_alloc | apply pw_below_drewN | apply below_drew1) | exact HB.out)) hb); clear HB; have HO229 := n0_; have HB := n1_; clear n0_ n1_; clear hb ho22))
                go_ret
                exact ⟨_, by first | rfl | (simp [errW_none, errW_some] <;> rfl) | (simp [*, errW_none, errW_some] <;> rfl), by (with_reducible repeat (first | apply Kd.R_alloc | apply Kd.R_drewN | apply Kd.R_drew)); exact HO229.out, by repeat (first | (with_reducible first | exact HB.out | apply below_alloc | apply pw_below_drewN | apply below_drew1) | exact HB.out)⟩
              · rw [if_neg c20] at H
                have c20b0 : (a0 == 8) = false := beq_eq_false_iff_ne.mpr c20
                have c20b1 : (a0 != 8) = true := bne_iff_ne.mpr c20
                by_cases c23 : a0 = 9
                · rw [if_pos c23] at H
                  have c23b0 : (a0 == 9) = true := beq_iff_eq.mpr c23
                  have c23b1 : (a0 != 9) = false := bne_eq_false_iff_eq.mpr c23
                  clear c23
                  obtain ⟨y230, hy230⟩ : ∃ y_ : List ByteArray, y_ = (([(⟨#[99, 97, 112, 116, 105, 111, 110, 32, 99, 111, 108, 32, 99, 111, 108, 103, 114, 111, 117, 112, 32, 116, 98, 111, 100, 121, 32, 116, 100, 32, 116, 102, 111, 111, 116, 32, 116, 104, 32, 116, 104, 101, 97, 100, 32, 116, 114]⟩ : ByteArray)] : List ByteArray)) := ⟨_, rfl⟩
                  replace H : (some y230) = some r := by first | (rw [hy230]; with_reducible exact H) | (have H2_ := (Option.bind_some _ _).symm.trans H; rw [hy230]; with_reducible exact H2_) | (have H2_ := (Option.bind_some _ _).symm.trans H; with_reducible exact H2_) | with_reducible exact H | (rw [hy230]; exact H) | exact H
                  have Ny230 := Aside0.mk hy230
                  clear hy230
                  obtain rfl := Option.some.inj H
                  go_enter Try.func47, Try.ntmps47
                  go_wp2_with (first | ((with_reducible refine gate_dst (N := 27) rfl ?_); refine Kd.R_lit Kd.string _ 9 ?hg (N := 27) ?hd (xs := ([(⟨#[99, 97, 112, 116, 105, 111, 110, 32, 99, 111, 108, 32, 99, 111, 108, 103, 114, 111, 117, 112, 32, 116, 98, 111, 100, 121, 32, 116, 100, 32, 116, 102, 111, 111, 116, 32, 116, 104, 32, 116, 104, 101, 97, 100, 32, 116, 114]⟩ : ByteArray)] : List ByteArray)) (inner := [.string (⟨#[99, 97, 112, 116, 105, 111, 110, 32, 99, 111, 108, 32, 99, 111, 108, 103, 114, 111, 117, 112, 32, 116, 98, 111, 100, 121, 32, 116, 100, 32, 116, 102, 111, 111, 116, 32, 116, 104, 32, 116, 104, 101, 97, 100, 32, 116, 114]⟩ : ByteArray)]) (ok := fun _ => True) (okp := fun _ => True) ?hr ?hp (fun _ hk => hk) trivial (Below.refl _ _) (Nat.le_refl _) (by simp) ?_; (case hd => rfl); (case hg => rfl); (case hr => first | (go_simp; done) | (go_simp; rfl)); (case hp => exact (Reps.one (show Kd.M Kd.string _ _ _ (⟨#[99, 97, 112, 116, 105, 111, 110, 32, 99, 111, 108, 32, 99, 111, 108, 103, 114, 111, 117, 112, 32, 116, 98, 111, 100, 121, 32, 116, 100, 32, 116, 102, 111, 111, 116, 32, 116, 104, 32, 116, 104, 101, 97, 100, 32, 116, 114]⟩ : ByteArray) [.string (⟨#[99, 97, 112, 116, 105, 111, 110, 32, 99, 111, 108, 32, 99, 111, 108, 103, 114, 111, 117, 112, 32, 116, 98, 111, 100, 121, 32, 116, 100, 32, 116, 102, 111, 111, 116, 32, 116, 104, 32, 116, 104, 101, 97, 100, 32, 116, 114]⟩ : ByteArray)] from rfl) (Reps.none _ _))); intro v231 w24 ho25 hb hg_ hnew_; clear hg_ hnew_; (first | rw [← Ny230.out] at ho25 | (simp only [Int.reduceToNat] at ho25; rw [← Ny230.out] at ho25)); have n0_ := Aside0.mk (Kd.R_lower ho25 (below_size (by repeat (first | (with_reducible first | exact HB.out | apply below_alloc | apply pw_below_drewN | apply below_drew1) | exact HB.out)))); have n1_ := Aside0.mk (below_step (by repeat (first | (with_reducible first | exact HB.out | apply below_alloc | apply pw_below_drewN | apply below_drew1) | exact HB.out)) hb); clear HB; have HO232 := n0_; have HB := n1_; clear n0_ n1_; clear hb ho25))
                  go_ret
                  exact ⟨_, by first | rfl | (simp [errW_none, errW_some] <;> rfl) | (simp [*, errW_none, errW_some] <;> rfl), by (with_reducible repeat (first | apply Kd.R_alloc | apply Kd.R_drewN | apply Kd.R_drew)); exact HO232.out, by repeat (first | (with_reducible first | exact HB.out | apply below_alloc | apply pw_below_drewN | apply below_drew1) | exact HB.out)⟩
                · rw [if_neg c23] at H
                  have c23b0 : (a0 == 9) = false := beq_eq_false_iff_ne.mpr c23
                  have c23b1 : (a0 != 9) = true := bne_iff_ne.mpr c23
                  by_cases c26 : a0 = 11
                  · rw [if_pos c26] at H
                    have c26b0 : (a0 == 11) = true := beq_iff_eq.mpr c26
                    have c26b1 : (a0 != 11) = false := bne_eq_false_iff_eq.mpr c26
                    clear c26
                    obtain ⟨y233, hy233⟩ : ∃ y_ : List ByteArray, y_ = (([(⟨#[97, 112, 112, 108, 101, 116, 32, 109, 97, 114, 113, 117, 101, 101, 32, 111, 98, 106, 101, 99, 116]⟩ : ByteArray)] : List ByteArray)) := ⟨_, rfl⟩
                    replace H : (some y233) = some r := by first | (rw [hy233]; with_reducible exact H) | (have H2_ := (Option.bind_some _ _).symm.trans H; rw [hy233]; with_reducible exact H2_) | (have H2_ := (Option.bind_some _ _).symm.trans H; with_reducible exact H2_) | with_reducible exact H | (rw [hy233]; exact H) | exact H
                    have Ny233 := Aside0.mk hy233
                    clear hy233
                    obtain rfl := Option.some.inj H
                    go_enter Try.func47, Try.ntmps47
                    go_wp2_with (first | ((with_reducible refine gate_dst (N := 30) rfl ?_); refine Kd.R_lit Kd.string _ 9 ?hg (N := 30) ?hd (xs := ([(⟨#[97, 112, 112, 108, 101, 116, 32, 109, 97, 114, 113, 117, 101, 101, 32, 111, 98, 106, 101, 99, 116]⟩ : ByteArray)] : List ByteArray)) (inner := [.string (⟨#[97, 112, 112, 108, 101, 116, 32, 109, 97, 114, 113, 117, 101, 101, 32, 111, 98, 106, 101, 99, 116]⟩ : ByteArray)]) (ok := fun _ => True) (okp := fun _ => True) ?hr ?hp (fun _ hk => hk) trivial (Below.refl _ _) (Nat.le_refl _) (by simp) ?_; (case hd => rfl); (case hg => rfl); (case hr => first | (go_simp; done) | (go_simp; rfl)); (case hp => exact (Reps.one (show Kd.M Kd.string _ _ _ (⟨#[97, 112, 112, 108, 101, 116, 32, 109, 97, 114, 113, 117, 101, 101, 32, 111, 98, 106, 101, 99, 116]⟩ : ByteArray) [.string (⟨#[97, 112, 112, 108, 101, 116, 32, 109, 97, 114, 113, 117, 101, 101, 32, 111, 98, 106, 101, 99, 116]⟩ : ByteArray)] from rfl) (Reps.none _ _))); intro v234 w27 ho28 hb hg_ hnew_; clear hg_ hnew_; (first | rw [← Ny233.out] at ho28 | (simp only [Int.reduceToNat] at ho28; rw [← Ny233.out] at ho28)); have n0_ := Aside0.mk (Kd.R_lower ho28 (below_size (by repeat (first | (with_reducible first | exact HB.out | apply below_alloc | apply pw_below_drewN | apply below_drew1) | exact HB.out)))); have n1_ := Aside0.mk (below_step (by repeat (first | (with_reducible first | exact HB.out | apply below_alloc | apply pw_below_drewN | apply below_drew1) | exact HB.out)) hb); clear HB; have HO235 := n0_; have HB := n1_; clear n0_ n1_; clear hb ho28))
                    go_ret
                    exact ⟨_, by first | rfl | (simp [errW_none, errW_some] <;> rfl) | (simp [*, errW_none, errW_some] <;> rfl), by (with_reducible repeat (first | apply Kd.R_alloc | apply Kd.R_drewN | apply Kd.R_drew)); exact HO235.out, by repeat (first | (with_reducible first | exact HB.out | apply below_alloc | apply pw_below_drewN | apply below_drew1) | exact HB.out)⟩
                  · rw [if_neg c26] at H
                    have c26b0 : (a0 == 11) = false := beq_eq_false_iff_ne.mpr c26
                    have c26b1 : (a0 != 11) = true := bne_iff_ne.mpr c26
                    by_cases c29 : a0 = 12
                    · rw [if_pos c29] at H
                      have c29b0 : (a0 == 12) = true := beq_iff_eq.mpr c29
                      have c29b1 : (a0 != 12) = false := bne_eq_false_iff_eq.mpr c29
                      clear c29
                      obtain ⟨y236, hy236⟩ : ∃ y_ : List ByteArray, y_ = (([(⟨#[98, 111, 100, 121, 32, 102, 114, 97, 109, 101, 32, 102, 114, 97, 109, 101, 115, 101, 116, 32, 104, 101, 97, 100, 32, 104, 116, 109, 108]⟩ : ByteArray), (⟨#[99, 97, 112, 116, 105, 111, 110, 32, 99, 111, 108, 32, 99, 111, 108, 103, 114, 111, 117, 112, 32, 116, 98, 111, 100, 121, 32, 116, 100, 32, 116, 102, 111, 111, 116, 32, 116, 104, 32, 116, 104, 101, 97, 100, 32, 116, 114]⟩ : ByteArray)] : List ByteArray)) := ⟨_, rfl⟩
                      replace H : (some y236) = some r := by first | (rw [hy236]; with_reducible exact H) | (have H2_ := (Option.bind_some _ _).symm.trans H; rw [hy236]; with_reducible exact H2_) | (have H2_ := (Option.bind_some _ _).symm.trans H; with_reducible exact H2_) | with_reducible exact H | (rw [hy236]; exact H) | exact H
                      have Ny236 := Aside0.mk hy236
                      clear hy236
                      obtain rfl := Option.some.inj H
                      go_enter Try.func47, Try.ntmps47
                      go_wp2_with (first | ((with_reducible refine gate_dst (N := 33) rfl ?_); refine Kd.R_lit Kd.string _ 9 ?hg (N := 33) ?hd (xs := ([(⟨#[98, 111, 100, 121, 32, 102, 114, 97, 109, 101, 32, 102, 114, 97, 109, 101, 115, 101, 116, 32, 104, 101, 97, 100, 32, 104, 116, 109, 108]⟩ : ByteArray), (⟨#[99, 97, 112, 116, 105, 111, 110, 32, 99, 111, 108, 32, 99, 111, 108, 103, 114, 111, 117, 112, 32, 116, 98, 111, 100, 121, 32, 116, 100, 32, 116, 102, 111, 111, 116, 32, 116, 104, 32, 116, 104, 101, 97, 100, 32, 116, 114]⟩ : ByteArray)] : List ByteArray)) (inner := [.string (⟨#[98, 111, 100, 121, 32, 102, 114, 97, 109, 101, 32, 102, 114, 97, 109, 101, 115, 101, 116, 32, 104, 101, 97, 100, 32, 104, 116, 109, 108]⟩ : ByteArray), .string (⟨#[99, 97, 112, 116, 105, 111, 110, 32, 99, 111, 108, 32, 99, 111, 108, 103, 114, 111, 117, 112, 32, 116, 98, 111, 100, 121, 32, 116, 100, 32, 116, 102, 111, 111, 116, 32, 116, 104, 32, 116, 104, 101, 97, 100, 32, 116, 114]⟩ : ByteArray)]) (ok := fun _ => True) (okp := fun _ => True) ?hr ?hp (fun _ hk => hk) trivial (Below.refl _ _) (Nat.le_refl _) (by simp) ?_; (case hd => rfl); (case hg => rfl); (case hr => first | (go_simp; done) | (go_simp; rfl)); (case hp => exact (Reps.one (show Kd.M Kd.string _ _ _ (⟨#[98, 111, 100, 121, 32, 102, 114, 97, 109, 101, 32, 102, 114, 97, 109, 101, 115, 101, 116, 32, 104, 101, 97, 100, 32, 104, 116, 109, 108]⟩ : ByteArray) [.string (⟨#[98, 111, 100, 121, 32, 102, 114, 97, 109, 101, 32, 102, 114, 97, 109, 101, 115, 101, 116, 32, 104, 101, 97, 100, 32, 104, 116, 109, 108]⟩ : ByteArray)] from rfl) (Reps.one (show Kd.M Kd.string _ _ _ (⟨#[99, 97, 112, 116, 105, 111, 110, 32, 99, 111, 108, 32, 99, 111, 108, 103, 114, 111, 117, 112, 32, 116, 98, 111, 100, 121, 32, 116, 100, 32, 116, 102, 111, 111, 116, 32, 116, 104, 32, 116, 104, 101, 97, 100, 32, 116, 114]⟩ : ByteArray) [.string (⟨#[99, 97, 112, 116, 105, 111, 110, 32, 99, 111, 108, 32, 99, 111, 108, 103, 114, 111, 117, 112, 32, 116, 98, 111, 100, 121, 32, 116, 100, 32, 116, 102, 111, 111, 116, 32, 116, 104, 32, 116, 104, 101, 97, 100, 32, 116, 114]⟩ : ByteArray)] from rfl) (Reps.none _ _)))); intro v237 w30 ho31 hb hg_ hnew_; clear hg_ hnew_; (first | rw [← Ny236.out] at ho31 | (simp only [Int.reduceToNat] at ho31; rw [← Ny236.out] at ho31)); have n0_ := Aside0.mk (Kd.R_lower ho31 (below_size (by repeat (first | (with_reducible first | exact HB.out | apply below_alloc | apply pw_below_drewN | apply below_drew1) | exact HB.out)))); have n1_ := Aside0.mk (below_step (by repeat (first | (with_reducible first | exact HB.out | apply below_alloc | apply pw_below_drewN | apply below_drew1) | exact HB.out)) hb); clear HB; have HO238 := n0_; have HB := n1_; clear n0_ n1_; clear hb ho31))
                      go_ret
                      exact ⟨_, by first | rfl | (simp [errW_none, errW_some] <;> rfl) | (simp [*, errW_none, errW_some] <;> rfl), by (with_reducible repeat (first | apply Kd.R_alloc | apply Kd.R_drewN | apply Kd.R_drew)); exact HO238.out, by repeat (first | (with_reducible first | exact HB.out | apply below_alloc | apply pw_below_drewN | apply below_drew1) | exact HB.out)⟩
                    · rw [if_neg c29] at H
                      have c29b0 : (a0 == 12) = false := beq_eq_false_iff_ne.mpr c29
                      have c29b1 : (a0 != 12) = true := bne_iff_ne.mpr c29
                      by_cases c32 : a0 = 10
                      · rw [if_pos c32] at H
                        have c32b0 : (a0 == 10) = true := beq_iff_eq.mpr c32
                        have c32b1 : (a0 != 10) = false := bne_eq_false_iff_eq.mpr c32
                        clear c32
                        obtain ⟨y239, hy239⟩ : ∃ y_ : List ByteArray, y_ = (([(⟨#[98, 32, 98, 105, 103, 32, 98, 108, 111, 99, 107, 113, 117, 111, 116, 101, 32, 98, 111, 100, 121, 32, 98, 114, 32, 99, 101, 110, 116, 101, 114, 32, 99, 111, 100, 101, 32, 100, 100, 32, 100, 105, 118, 32, 100, 108, 32, 100, 116, 32, 101, 109, 32, 101, 109, 98, 101, 100, 32, 104, 49, 32, 104, 50, 32, 104, 51, 32, 104, 52, 32, 104, 53, 32, 104, 54, 32, 104, 101, 97, 100, 32, 104, 114, 32, 105, 32, 105, 109, 103, 32, 108, 105, 32, 108, 105, 115, 116, 105, 110, 103, 32, 109, 101, 110, 117, 32, 109, 101, 116, 97, 32, 110, 111, 98, 114, 32, 111, 108, 32, 112, 32, 112, 114, 101, 32, 114, 117, 98, 121, 32, 115, 32, 115, 109, 97, 108, 108, 32, 115, 112, 97, 110, 32, 115, 116, 114, 105, 107, 101, 32, 115, 116, 114, 111, 110, 103, 32, 115, 117, 98, 32, 115, 117, 112, 32, 116, 97, 98, 108, 101, 32, 116, 116, 32, 117, 32, 117, 108, 32, 118, 97, 114]⟩ : ByteArray)] : List ByteArray)) := ⟨_, rfl⟩
                        replace H : (some y239) = some r := by first | (rw [hy239]; with_reducible exact H) | (have H2_ := (Option.bind_some _ _).symm.trans H; rw [hy239]; with_reducible exact H2_) | (have H2_ := (Option.bind_some _ _).symm.trans H; with_reducible exact H2_) | with_reducible exact H | (rw [hy239]; exact H) | exact H
                        have Ny239 := Aside0.mk hy239
                        clear hy239
                        obtain rfl := Option.some.inj H
                        go_enter Try.func47, Try.ntmps47
                        go_wp2_with (first | ((with_reducible refine gate_dst (N := 36) rfl ?_); refine Kd.R_lit Kd.string _ 9 ?hg (N := 36) ?hd (xs := ([(⟨#[98, 32, 98, 105, 103, 32, 98, 108, 111, 99, 107, 113, 117, 111, 116, 101, 32, 98, 111, 100, 121, 32, 98, 114, 32, 99, 101, 110, 116, 101, 114, 32, 99, 111, 100, 101, 32, 100, 100, 32, 100, 105, 118, 32, 100, 108, 32, 100, 116, 32, 101, 109, 32, 101, 109, 98, 101, 100, 32, 104, 49, 32, 104, 50, 32, 104, 51, 32, 104, 52, 32, 104, 53, 32, 104, 54, 32, 104, 101, 97, 100, 32, 104, 114, 32, 105, 32, 105, 109, 103, 32, 108, 105, 32, 108, 105, 115, 116, 105, 110, 103, 32, 109, 101, 110, 117, 32, 109, 101, 116, 97, 32, 110, 111, 98, 114, 32, 111, 108, 32, 112, 32, 112, 114, 101, 32, 114, 117, 98, 121, 32, 115, 32, 115, 109, 97, 108, 108, 32, 115, 112, 97, 110, 32, 115, 116, 114, 105, 107, 101, 32, 115, 116, 114, 111, 110, 103, 32, 115, 117, 98, 32, 115, 117, 112, 32, 116, 97, 98, 108, 101, 32, 116, 116, 32, 117, 32, 117, 108, 32, 118, 97, 114]⟩ : ByteArray)] : List ByteArray)) (inner := [.string (⟨#[98, 32, 98, 105, 103, 32, 98, 108, 111, 99, 107, 113, 117, 111, 116, 101, 32, 98, 111, 100, 121, 32, 98, 114, 32, 99, 101, 110, 116, 101, 114, 32, 99, 111, 100, 101, 32, 100, 100, 32, 100, 105, 118, 32, 100, 108, 32, 100, 116, 32, 101, 109, 32, 101, 109, 98, 101, 100, 32, 104, 49, 32, 104, 50, 32, 104, 51, 32, 104, 52, 32, 104, 53, 32, 104, 54, 32, 104, 101, 97, 100, 32, 104, 114, 32, 105, 32, 105, 109, 103, 32, 108, 105, 32, 108, 105, 115, 116, 105, 110, 103, 32, 109, 101, 110, 117, 32, 109, 101, 116, 97, 32, 110, 111, 98, 114, 32, 111, 108, 32, 112, 32, 112, 114, 101, 32, 114, 117, 98, 121, 32, 115, 32, 115, 109, 97, 108, 108, 32, 115, 112, 97, 110, 32, 115, 116, 114, 105, 107, 101, 32, 115, 116, 114, 111, 110, 103, 32, 115, 117, 98, 32, 115, 117, 112, 32, 116, 97, 98, 108, 101, 32, 116, 116, 32, 117, 32, 117, 108, 32, 118, 97, 114]⟩ : ByteArray)]) (ok := fun _ => True) (okp := fun _ => True) ?hr ?hp (fun _ hk => hk) trivial (Below.refl _ _) (Nat.le_refl _) (by simp) ?_; (case hd => rfl); (case hg => rfl); (case hr => first | (go_simp; done) | (go_simp; rfl)); (case hp => exact (Reps.one (show Kd.M Kd.string _ _ _ (⟨#[98, 32, 98, 105, 103, 32, 98, 108, 111, 99, 107, 113, 117, 111, 116, 101, 32, 98, 111, 100, 121, 32, 98, 114, 32, 99, 101, 110, 116, 101, 114, 32, 99, 111, 100, 101, 32, 100, 100, 32, 100, 105, 118, 32, 100, 108, 32, 100, 116, 32, 101, 109, 32, 101, 109, 98, 101, 100, 32, 104, 49, 32, 104, 50, 32, 104, 51, 32, 104, 52, 32, 104, 53, 32, 104, 54, 32, 104, 101, 97, 100, 32, 104, 114, 32, 105, 32, 105, 109, 103, 32, 108, 105, 32, 108, 105, 115, 116, 105, 110, 103, 32, 109, 101, 110, 117, 32, 109, 101, 116, 97, 32, 110, 111, 98, 114, 32, 111, 108, 32, 112, 32, 112, 114, 101, 32, 114, 117, 98, 121, 32, 115, 32, 115, 109, 97, 108, 108, 32, 115, 112, 97, 110, 32, 115, 116, 114, 105, 107, 101, 32, 115, 116, 114, 111, 110, 103, 32, 115, 117, 98, 32, 115, 117, 112, 32, 116, 97, 98, 108, 101, 32, 116, 116, 32, 117, 32, 117, 108, 32, 118, 97, 114]⟩ : ByteArray) [.string (⟨#[98, 32, 98, 105, 103, 32, 98, 108, 111, 99, 107, 113, 117, 111, 116, 101, 32, 98, 111, 100, 121, 32, 98, 114, 32, 99, 101, 110, 116, 101, 114, 32, 99, 111, 100, 101, 32, 100, 100, 32, 100, 105, 118, 32, 100, 108, 32, 100, 116, 32, 101, 109, 32, 101, 109, 98, 101, 100, 32, 104, 49, 32, 104, 50, 32, 104, 51, 32, 104, 52, 32, 104, 53, 32, 104, 54, 32, 104, 101, 97, 100, 32, 104, 114, 32, 105, 32, 105, 109, 103, 32, 108, 105, 32, 108, 105, 115, 116, 105, 110, 103, 32, 109, 101, 110, 117, 32, 109, 101, 116, 97, 32, 110, 111, 98, 114, 32, 111, 108, 32, 112, 32, 112, 114, 101, 32, 114, 117, 98, 121, 32, 115, 32, 115, 109, 97, 108, 108, 32, 115, 112, 97, 110, 32, 115, 116, 114, 105, 107, 101, 32, 115, 116, 114, 111, 110, 103, 32, 115, 117, 98, 32, 115, 117, 112, 32, 116, 97, 98, 108, 101, 32, 116, 116, 32, 117, 32, 117, 108, 32, 118, 97, 114]⟩ : ByteArray)] from rfl) (Reps.none _ _))); intro v240 w33 ho34 hb hg_ hnew_; clear hg_ hnew_; (first | rw [← Ny239.out] at ho34 | (simp only [Int.reduceToNat] at ho34; rw [← Ny239.out] at ho34)); have n0_ := Aside0.mk (Kd.R_lower ho34 (below_size (by repeat (first | (with_reducible first | exact HB.out | apply below_alloc | apply pw_below_drewN | apply below_drew1) | exact HB.out)))); have n1_ := Aside0.mk (below_step (by repeat (first | (with_reducible first | exact HB.out | apply below_alloc | apply pw_below_drewN | apply below_drew1) | exact HB.out)) hb); clear HB; have HO241 := n0_; have HB := n1_; clear n0_ n1_; clear hb ho34))
                        go_ret
                        exact ⟨_, by first | rfl | (simp [errW_none, errW_some] <;> rfl) | (simp [*, errW_none, errW_some] <;> rfl), by (with_reducible repeat (first | apply Kd.R_alloc | apply Kd.R_drewN | apply Kd.R_drew)); exact HO241.out, by repeat (first | (with_reducible first | exact HB.out | apply below_alloc | apply pw_below_drewN | apply below_drew1) | exact HB.out)⟩
                      · rw [if_neg c32] at H
                        have c32b0 : (a0 == 10) = false := beq_eq_false_iff_ne.mpr c32
                        have c32b1 : (a0 != 10) = true := bne_iff_ne.mpr c32
                        by_cases c35 : a0 = 4
                        · rw [if_pos c35] at H
                          have c35b0 : (a0 == 4) = true := beq_iff_eq.mpr c35
                          have c35b1 : (a0 != 4) = false := bne_eq_false_iff_eq.mpr c35
                          clear c35
                          obtain ⟨y242, hy242⟩ : ∃ y_ : List ByteArray, y_ = (([(⟨#[97, 114, 101, 97, 32, 98, 97, 115, 101, 32, 98, 114, 32, 99, 111, 108, 32, 101, 109, 98, 101, 100, 32, 104, 114, 32, 105, 109, 103, 32, 105, 110, 112, 117, 116, 32, 108, 105, 110, 107, 32, 109, 101, 116, 97, 32, 112, 97, 114, 97, 109, 32, 115, 111, 117, 114, 99, 101, 32, 116, 114, 97, 99, 107, 32, 119, 98, 114]⟩ : ByteArray), (⟨#[105, 102, 114, 97, 109, 101, 32, 110, 111, 101, 109, 98, 101, 100, 32, 110, 111, 102, 114, 97, 109, 101, 115, 32, 115, 99, 114, 105, 112, 116, 32, 115, 116, 121, 108, 101, 32, 120, 109, 112]⟩ : ByteArray), (⟨#[116, 101, 120, 116, 97, 114, 101, 97, 32, 116, 105, 116, 108, 101]⟩ : ByteArray), (⟨#[104, 49, 32, 104, 50, 32, 104, 51, 32, 104, 52, 32, 104, 53, 32, 104, 54]⟩ : ByteArray), (⟨#[97, 100, 100, 114, 101, 115, 115, 32, 97, 114, 116, 105, 99, 108, 101, 32, 97, 115, 105, 100, 101, 32, 98, 108, 111, 99, 107, 113, 117, 111, 116, 101, 32, 99, 101, 110, 116, 101, 114, 32, 100, 101, 116, 97, 105, 108, 115, 32, 100, 105, 97, 108, 111, 103, 32, 100, 105, 114, 32, 100, 105, 118, 32, 100, 108, 32, 102, 105, 101, 108, 100, 115, 101, 116, 32, 102, 105, 103, 99, 97, 112, 116, 105, 111, 110, 32, 102, 105, 103, 117, 114, 101, 32, 102, 111, 111, 116, 101, 114, 32, 104, 101, 97, 100, 101, 114, 32, 104, 103, 114, 111, 117, 112, 32, 109, 97, 105, 110, 32, 109, 101, 110, 117, 32, 110, 97, 118, 32, 111, 108, 32, 112, 32, 115, 101, 97, 114, 99, 104, 32, 115, 101, 99, 116, 105, 111, 110, 32, 115, 117, 109, 109, 97, 114, 121, 32, 117, 108]⟩ : ByteArray), (⟨#[99, 97, 112, 116, 105, 111, 110, 32, 99, 111, 108, 32, 99, 111, 108, 103, 114, 111, 117, 112, 32, 116, 98, 111, 100, 121, 32, 116, 100, 32, 116, 102, 111, 111, 116, 32, 116, 104, 32, 116, 104, 101, 97, 100, 32, 116, 114]⟩ : ByteArray), (⟨#[97, 112, 112, 108, 101, 116, 32, 109, 97, 114, 113, 117, 101, 101, 32, 111, 98, 106, 101, 99, 116]⟩ : ByteArray), (⟨#[98, 97, 115, 101, 102, 111, 110, 116, 32, 98, 103, 115, 111, 117, 110, 100, 32, 98, 111, 100, 121, 32, 98, 117, 116, 116, 111, 110, 32, 100, 100, 32, 100, 116, 32, 102, 111, 114, 109, 32, 102, 114, 97, 109, 101, 32, 102, 114, 97, 109, 101, 115, 101, 116, 32, 104, 101, 97, 100, 32, 104, 116, 109, 108, 32, 107, 101, 121, 103, 101, 110, 32, 108, 105, 32, 108, 105, 115, 116, 105, 110, 103, 32, 110, 111, 115, 99, 114, 105, 112, 116, 32, 112, 108, 97, 105, 110, 116, 101, 120, 116, 32, 112, 114, 101, 32, 115, 101, 108, 101, 99, 116, 32, 116, 97, 98, 108, 101, 32, 116, 101, 109, 112, 108, 97, 116, 101]⟩ : ByteArray)] : List ByteArray)) := ⟨_, rfl⟩
                          replace H : (some y242) = some r := by first | (rw [hy242]; with_reducible exact H) | (have H2_ := (Option.bind_some _ _).symm.trans H; rw [hy242]; with_reducible exact H2_) | (have H2_ := (Option.bind_some _ _).symm.trans H; with_reducible exact H2_) | with_reducible exact H | (rw [hy242]; exact H) | exact H
                          have Ny242 := Aside0.mk hy242
                          clear hy242
                          obtain rfl := Option.some.inj H
                          go_enter Try.func47, Try.ntmps47
                          go_wp2_with (first | ((with_reducible refine gate_dst (N := 39) rfl ?_); refine Kd.R_lit Kd.string _ 9 ?hg (N := 39) ?hd (xs := ([(⟨#[97, 114, 101, 97, 32, 98, 97, 115, 101, 32, 98, 114, 32, 99, 111, 108, 32, 101, 109, 98, 101, 100, 32, 104, 114, 32, 105, 109, 103, 32, 105, 110, 112, 117, 116, 32, 108, 105, 110, 107, 32, 109, 101, 116, 97, 32, 112, 97, 114, 97, 109, 32, 115, 111, 117, 114, 99, 101, 32, 116, 114, 97, 99, 107, 32, 119, 98, 114]⟩ : ByteArray), (⟨#[105, 102, 114, 97, 109, 101, 32, 110, 111, 101, 109, 98, 101, 100, 32, 110, 111, 102, 114, 97, 109, 101, 115, 32, 115, 99, 114, 105, 112, 116, 32, 115, 116, 121, 108, 101, 32, 120, 109, 112]⟩ : ByteArray), (⟨#[116, 101, 120, 116, 97, 114, 101, 97, 32, 116, 105, 116, 108, 101]⟩ : ByteArray), (⟨#[104, 49, 32, 104, 50, 32, 104, 51, 32, 104, 52, 32, 104, 53, 32, 104, 54]⟩ : ByteArray), (⟨#[97, 100, 100, 114, 101, 115, 115, 32, 97, 114, 116, 105, 99, 108, 101, 32, 97, 115, 105, 100, 101, 32, 98, 108, 111, 99, 107, 113, 117, 111, 116, 101, 32, 99, 101, 110, 116, 101, 114, 32, 100, 101, 116, 97, 105, 108, 115, 32, 100, 105, 97, 108, 111, 103, 32, 100, 105, 114, 32, 100, 105, 118, 32, 100, 108, 32, 102, 105, 101, 108, 100, 115, 101, 116, 32, 102, 105, 103, 99, 97, 112, 116, 105, 111, 110, 32, 102, 105, 103, 117, 114, 101, 32, 102, 111, 111, 116, 101, 114, 32, 104, 101, 97, 100, 101, 114, 32, 104, 103, 114, 111, 117, 112, 32, 109, 97, 105, 110, 32, 109, 101, 110, 117, 32, 110, 97, 118, 32, 111, 108, 32, 112, 32, 115, 101, 97, 114, 99, 104, 32, 115, 101, 99, 116, 105, 111, 110, 32, 115, 117, 109, 109, 97, 114, 121, 32, 117, 108]⟩ : ByteArray), (⟨#[99, 97, 112, 116, 105, 111, 110, 32, 99, 111, 108, 32, 99, 111, 108, 103, 114, 111, 117, 112, 32, 116, 98, 111, 100, 121, 32, 116, 100, 32, 116, 102, 111, 111, 116, 32, 116, 104, 32, 116, 104, 101, 97, 100, 32, 116, 114]⟩ : ByteArray), (⟨#[97, 112, 112, 108, 101, 116, 32, 109, 97, 114, 113, 117, 101, 101, 32, 111, 98, 106, 101, 99, 116]⟩ : ByteArray), (⟨#[98, 97, 115, 101, 102, 111, 110, 116, 32, 98, 103, 115, 111, 117, 110, 100, 32, 98, 111, 100, 121, 32, 98, 117, 116, 116, 111, 110, 32, 100, 100, 32, 100, 116, 32, 102, 111, 114, 109, 32, 102, 114, 97, 109, 101, 32, 102, 114, 97, 109, 101, 115, 101, 116, 32, 104, 101, 97, 100, 32, 104, 116, 109, 108, 32, 107, 101, 121, 103, 101, 110, 32, 108, 105, 32, 108, 105, 115, 116, 105, 110, 103, 32, 110, 111, 115, 99, 114, 105, 112, 116, 32, 112, 108, 97, 105, 110, 116, 101, 120, 116, 32, 112, 114, 101, 32, 115, 101, 108, 101, 99, 116, 32, 116, 97, 98, 108, 101, 32, 116, 101, 109, 112, 108, 97, 116, 101]⟩ : ByteArray)] : List ByteArray)) (inner := [.string (⟨#[97, 114, 101, 97, 32, 98, 97, 115, 101, 32, 98, 114, 32, 99, 111, 108, 32, 101, 109, 98, 101, 100, 32, 104, 114, 32, 105, 109, 103, 32, 105, 110, 112, 117, 116, 32, 108, 105, 110, 107, 32, 109, 101, 116, 97, 32, 112, 97, 114, 97, 109, 32, 115, 111, 117, 114, 99, 101, 32, 116, 114, 97, 99, 107, 32, 119, 98, 114]⟩ : ByteArray), .string (⟨#[105, 102, 114, 97, 109, 101, 32, 110, 111, 101, 109, 98, 101, 100, 32, 110, 111, 102, 114, 97, 109, 101, 115, 32, 115, 99, 114, 105, 112, 116, 32, 115, 116, 121, 108, 101, 32, 120, 109, 112]⟩ : ByteArray), .string (⟨#[116, 101, 120, 116, 97, 114, 101, 97, 32, 116, 105, 116, 108, 101]⟩ : ByteArray), .string (⟨#[104, 49, 32, 104, 50, 32, 104, 51, 32, 104, 52, 32, 104, 53, 32, 104, 54]⟩ : ByteArray), .string (⟨#[97, 100, 100, 114, 101, 115, 115, 32, 97, 114, 116, 105, 99, 108, 101, 32, 97, 115, 105, 100, 101, 32, 98, 108, 111, 99, 107, 113, 117, 111, 116, 101, 32, 99, 101, 110, 116, 101, 114, 32, 100, 101, 116, 97, 105, 108, 115, 32, 100, 105, 97, 108, 111, 103, 32, 100, 105, 114, 32, 100, 105, 118, 32, 100, 108, 32, 102, 105, 101, 108, 100, 115, 101, 116, 32, 102, 105, 103, 99, 97, 112, 116, 105, 111, 110, 32, 102, 105, 103, 117, 114, 101, 32, 102, 111, 111, 116, 101, 114, 32, 104, 101, 97, 100, 101, 114, 32, 104, 103, 114, 111, 117, 112, 32, 109, 97, 105, 110, 32, 109, 101, 110, 117, 32, 110, 97, 118, 32, 111, 108, 32, 112, 32, 115, 101, 97, 114, 99, 104, 32, 115, 101, 99, 116, 105, 111, 110, 32, 115, 117, 109, 109, 97, 114, 121, 32, 117, 108]⟩ : ByteArray), .string (⟨#[99, 97, 112, 116, 105, 111, 110, 32, 99, 111, 108, 32, 99, 111, 108, 103, 114, 111, 117, 112, 32, 116, 98, 111, 100, 121, 32, 116, 100, 32, 116, 102, 111, 111, 116, 32, 116, 104, 32, 116, 104, 101, 97, 100, 32, 116, 114]⟩ : ByteArray), .string (⟨#[97, 112, 112, 108, 101, 116, 32, 109, 97, 114, 113, 117, 101, 101, 32, 111, 98, 106, 101, 99, 116]⟩ : ByteArray), .string (⟨#[98, 97, 115, 101, 102, 111, 110, 116, 32, 98, 103, 115, 111, 117, 110, 100, 32, 98, 111, 100, 121, 32, 98, 117, 116, 116, 111, 110, 32, 100, 100, 32, 100, 116, 32, 102, 111, 114, 109, 32, 102, 114, 97, 109, 101, 32, 102, 114, 97, 109, 101, 115, 101, 116, 32, 104, 101, 97, 100, 32, 104, 116, 109, 108, 32, 107, 101, 121, 103, 101, 110, 32, 108, 105, 32, 108, 105, 115, 116, 105, 110, 103, 32, 110, 111, 115, 99, 114, 105, 112, 116, 32, 112, 108, 97, 105, 110, 116, 101, 120, 116, 32, 112, 114, 101, 32, 115, 101, 108, 101, 99, 116, 32, 116, 97, 98, 108, 101, 32, 116, 101, 109, 112, 108, 97, 116, 101]⟩ : ByteArray)]) (ok := fun _ => True) (okp := fun _ => True) ?hr ?hp (fun _ hk => hk) trivial (Below.refl _ _) (Nat.le_refl _) (by simp) ?_; (case hd => rfl); (case hg => rfl); (case hr => first | (go_simp; done) | (go_simp; rfl)); (case hp => exact (Reps.one (show Kd.M Kd.string _ _ _ (⟨#[97, 114, 101, 97, 32, 98, 97, 115, 101, 32, 98, 114, 32, 99, 111, 108, 32, 101, 109, 98, 101, 100, 32, 104, 114, 32, 105, 109, 103, 32, 105, 110, 112, 117, 116, 32, 108, 105, 110, 107, 32, 109, 101, 116, 97, 32, 112, 97, 114, 97, 109, 32, 115, 111, 117, 114, 99, 101, 32, 116, 114, 97, 99, 107, 32, 119, 98, 114]⟩ : ByteArray) [.string (⟨#[97, 114, 101, 97, 32, 98, 97, 115, 101, 32, 98, 114, 32, 99, 111, 108, 32, 101, 109, 98, 101, 100, 32, 104, 114, 32, 105, 109, 103, 32, 105, 110, 112, 117, 116, 32, 108, 105, 110, 107, 32, 109, 101, 116, 97, 32, 112, 97, 114, 97, 109, 32, 115, 111, 117, 114, 99, 101, 32, 116, 114, 97, 99, 107, 32, 119, 98, 114]⟩ : ByteArray)] from rfl) (Reps.one (show Kd.M Kd.string _ _ _ (⟨#[105, 102, 114, 97, 109, 101, 32, 110, 111, 101, 109, 98, 101, 100, 32, 110, 111, 102, 114, 97, 109, 101, 115, 32, 115, 99, 114, 105, 112, 116, 32, 115, 116, 121, 108, 101, 32, 120, 109, 112]⟩ : ByteArray) [.string (⟨#[105, 102, 114, 97, 109, 101, 32, 110, 111, 101, 109, 98, 101, 100, 32, 110, 111, 102, 114, 97, 109, 101, 115, 32, 115, 99, 114, 105, 112, 116, 32, 115, 116, 121, 108, 101, 32, 120, 109, 112]⟩ : ByteArray)] from rfl) (Reps.one (show Kd.M Kd.string _ _ _ (⟨#[116, 101, 120, 116, 97, 114, 101, 97, 32, 116, 105, 116, 108, 101]⟩ : ByteArray) [.string (⟨#[116, 101, 120, 116, 97, 114, 101, 97, 32, 116, 105, 116, 108, 101]⟩ : ByteArray)] from rfl) (Reps.one (show Kd.M Kd.string _ _ _ (⟨#[104, 49, 32, 104, 50, 32, 104, 51, 32, 104, 52, 32, 104, 53, 32, 104, 54]⟩ : ByteArray) [.string (⟨#[104, 49, 32, 104, 50, 32, 104, 51, 32, 104, 52, 32, 104, 53, 32, 104, 54]⟩ : ByteArray)] from rfl) (Reps.one (show Kd.M Kd.string _ _ _ (⟨#[97, 100, 100, 114, 101, 115, 115, 32, 97, 114, 116, 105, 99, 108, 101, 32, 97, 115, 105, 100, 101, 32, 98, 108, 111, 99, 107, 113, 117, 111, 116, 101, 32, 99, 101, 110, 116, 101, 114, 32, 100, 101, 116, 97, 105, 108, 115, 32, 100, 105, 97, 108, 111, 103, 32, 100, 105, 114, 32, 100, 105, 118, 32, 100, 108, 32, 102, 105, 101, 108, 100, 115, 101, 116, 32, 102, 105, 103, 99, 97, 112, 116, 105, 111, 110, 32, 102, 105, 103, 117, 114, 101, 32, 102, 111, 111, 116, 101, 114, 32, 104, 101, 97, 100, 101, 114, 32, 104, 103, 114, 111, 117, 112, 32, 109, 97, 105, 110, 32, 109, 101, 110, 117, 32, 110, 97, 118, 32, 111, 108, 32, 112, 32, 115, 101, 97, 114, 99, 104, 32, 115, 101, 99, 116, 105, 111, 110, 32, 115, 117, 109, 109, 97, 114, 121, 32, 117, 108]⟩ : ByteArray) [.string (⟨#[97, 100, 100, 114, 101, 115, 115, 32, 97, 114, 116, 105, 99, 108, 101, 32, 97, 115, 105, 100, 101, 32, 98, 108, 111, 99, 107, 113, 117, 111, 116, 101, 32, 99, 101, 110, 116, 101, 114, 32, 100, 101, 116, 97, 105, 108, 115, 32, 100, 105, 97, 108, 111, 103, 32, 100, 105, 114, 32, 100, 105, 118, 32, 100, 108, 32, 102, 105, 101, 108, 100, 115, 101, 116, 32, 102, 105, 103, 99, 97, 112, 116, 105, 111, 110, 32, 102, 105, 103, 117, 114, 101, 32, 102, 111, 111, 116, 101, 114, 32, 104, 101, 97, 100, 101, 114, 32, 104, 103, 114, 111, 117, 112, 32, 109, 97, 105, 110, 32, 109, 101, 110, 117, 32, 110, 97, 118, 32, 111, 108, 32, 112, 32, 115, 101, 97, 114, 99, 104, 32, 115, 101, 99, 116, 105, 111, 110, 32, 115, 117, 109, 109, 97, 114, 121, 32, 117, 108]⟩ : ByteArray)] from rfl) (Reps.one (show Kd.M Kd.string _ _ _ (⟨#[99, 97, 112, 116, 105, 111, 110, 32, 99, 111, 108, 32, 99, 111, 108, 103, 114, 111, 117, 112, 32, 116, 98, 111, 100, 121, 32, 116, 100, 32, 116, 102, 111, 111, 116, 32, 116, 104, 32, 116, 104, 101, 97, 100, 32, 116, 114]⟩ : ByteArray) [.string (⟨#[99, 97, 112, 116, 105, 111, 110, 32, 99, 111, 108, 32, 99, 111, 108, 103, 114, 111, 117, 112, 32, 116, 98, 111, 100, 121, 32, 116, 100, 32, 116, 102, 111, 111, 116, 32, 116, 104, 32, 116, 104, 101, 97, 100, 32, 116, 114]⟩ : ByteArray)] from rfl) (Reps.one (show Kd.M Kd.string _ _ _ (⟨#[97, 112, 112, 108, 101, 116, 32, 109, 97, 114, 113, 117, 101, 101, 32, 111, 98, 106, 101, 99, 116]⟩ : ByteArray) [.string (⟨#[97, 112, 112, 108, 101, 116, 32, 109, 97, 114, 113, 117, 101, 101, 32, 111, 98, 106, 101, 99, 116]⟩ : ByteArray)] from rfl) (Reps.one (show Kd.M Kd.string _ _ _ (⟨#[98, 97, 115, 101, 102, 111, 110, 116, 32, 98, 103, 115, 111, 117, 110, 100, 32, 98, 111, 100, 121, 32, 98, 117, 116, 116, 111, 110, 32, 100, 100, 32, 100, 116, 32, 102, 111, 114, 109, 32, 102, 114, 97, 109, 101, 32, 102, 114, 97, 109, 101, 115, 101, 116, 32, 104, 101, 97, 100, 32, 104, 116, 109, 108, 32, 107, 101, 121, 103, 101, 110, 32, 108, 105, 32, 108, 105, 115, 116, 105, 110, 103, 32, 110, 111, 115, 99, 114, 105, 112, 116, 32, 112, 108, 97, 105, 110, 116, 101, 120, 116, 32, 112, 114, 101, 32, 115, 101, 108, 101, 99, 116, 32, 116, 97, 98, 108, 101, 32, 116, 101, 109, 112, 108, 97, 116, 101]⟩ : ByteArray) [.string (⟨#[98, 97, 115, 101, 102, 111, 110, 116, 32, 98, 103, 115, 111, 117, 110, 100, 32, 98, 111, 100, 121, 32, 98, 117, 116, 116, 111, 110, 32, 100, 100, 32, 100, 116, 32, 102, 111, 114, 109, 32, 102, 114, 97, 109, 101, 32, 102, 114, 97, 109, 101, 115, 101, 116, 32, 104, 101, 97, 100, 32, 104, 116, 109, 108, 32, 107, 101, 121, 103, 101, 110, 32, 108, 105, 32, 108, 105, 115, 116, 105, 110, 103, 32, 110, 111, 115, 99, 114, 105, 112, 116, 32, 112, 108, 97, 105, 110, 116, 101, 120, 116, 32, 112, 114, 101, 32, 115, 101, 108, 101, 99, 116, 32, 116, 97, 98, 108, 101, 32, 116, 101, 109, 112, 108, 97, 116, 101]⟩ : ByteArray)] from rfl) (Reps.none _ _)))))))))); intro v243 w36 ho37 hb hg_ hnew_; clear hg_ hnew_; (first | rw [← Ny242.out] at ho37 | (simp only [Int.reduceToNat] at ho37; rw [← Ny242.out] at ho37)); have n0_ := Aside0.mk (Kd.R_lower ho37 (below_size (by repeat (first | (with_reducible first | exact HB.out | apply below_alloc | apply pw_below_drewN | apply below_drew1) | exact HB.out)))); have n1_ := Aside0.mk (below_step (by repeat (first | (with_reducible first | exact HB.out | apply below_alloc | apply pw_below_drewN | apply below_drew1) | exact HB.out)) hb); clear HB; have HO244 := n0_; have HB := n1_; clear n0_ n1_; clear hb ho37))
                          go_ret
                          exact ⟨_, by first | rfl | (simp [errW_none, errW_some] <;> rfl) | (simp [*, errW_none, errW_some] <;> rfl), by (with_reducible repeat (first | apply Kd.R_alloc | apply Kd.R_drewN | apply Kd.R_drew)); exact HO244.out, by repeat (first | (with_reducible first | exact HB.out | apply below_alloc | apply pw_below_drewN | apply below_drew1) | exact HB.out)⟩
                        · rw [if_neg c35] at H
                          have c35b0 : (a0 == 4) = false := beq_eq_false_iff_ne.mpr c35
                          have c35b1 : (a0 != 4) = true := bne_iff_ne.mpr c35
                          obtain rfl := Option.some.inj H
                          go_enter Try.func47, Try.ntmps47
                          go_wp2
                          go_ret
                          exact ⟨_, by first | rfl | (simp [errW_none, errW_some] <;> rfl) | (simp [*, errW_none, errW_some] <;> rfl), by first | exact Kd.R_nil _ _ _ _ _ | exact Kd.N_nil _ _ _ _ _ | exact Kd.V_nil _ _ _ _ _ | exact Kd.Q_nil _ _ _ _ _ | exact Kd.S_nil _ _ _ _ _, by repeat (first | (with_reducible first | exact HB.out | apply below_alloc | apply pw_below_drewN | apply below_drew1) | exact HB.out)⟩

/-! ### marginaliaref02_Is: function 33 -/
def marginaliaref02_Is.l0 : Nat → ByteArray → List ByteArray → Int → Option (Bool)
  | 0, _, _, _ => none
  | k + 1, x1, x5, x6 => if x6 < (x5.length : Int) then (if 0 ≤ x6 then ((marginaliaref02_In.f k (rdOf ByteArray.empty x5 x6) x1).bind fun t249 => (if t249 = true then (some true) else (marginaliaref02_Is.l0 k x1 x5 (wrap64 (x6 + 1))))) else (none)) else (some false)
def marginaliaref02_Is.f (k : Nat) (a0 : Int) (a1 : ByteArray) : Option (Bool) := (marginaliaref02_names.f a0).bind fun t245 => (marginaliaref02_Is.l0 k a1 t245 0)
theorem marginaliaref02_Is.mono_l : ∀ k, (∀ y0 y1 y2, LeO (marginaliaref02_Is.l0 k y0 y1 y2) (marginaliaref02_Is.l0 (k + 1) y0 y1 y2))
  | 0 => fun _ _ _ r h => by simp [marginaliaref02_Is.l0] at h
  | k + 1 => by
    have ih0 := marginaliaref02_Is.mono_l k
    · intro y0 y1 y2
      unfold marginaliaref02_Is.l0
      repeat' first
      | (with_reducible exact ih0 _ _ _)
      | (with_reducible exact marginaliaref02_In.mono _ _ _)
      | (with_reducible exact LeO.refl _)
      | (with_reducible exact LeO.none _)
      | (with_reducible refine LeO.ite ?_ ?_)
      | (with_reducible refine LeO.bind ?_ (fun _ => ?_))
      | exact ih0 _ _ _
      | exact marginaliaref02_In.mono _ _ _
      | exact LeO.none _
      | refine LeO.ite ?_ ?_
      | refine LeO.bind ?_ (fun _ => ?_)
theorem marginaliaref02_Is.mono : ∀ a0 a1 k, LeO (marginaliaref02_Is.f k a0 a1) (marginaliaref02_Is.f (k + 1) a0 a1) := by
  intro a0 a1 k
  have ih0 := marginaliaref02_Is.mono_l k
  unfold marginaliaref02_Is.f
  repeat' first
      | (with_reducible exact ih0 _ _ _)
      | (with_reducible exact marginaliaref02_In.mono _ _ _)
      | (with_reducible exact LeO.refl _)
      | (with_reducible exact LeO.none _)
      | (with_reducible refine LeO.ite ?_ ?_)
      | (with_reducible refine LeO.bind ?_ (fun _ => ?_))
      | exact ih0 _ _ _
      | exact marginaliaref02_In.mono _ _ _
      | exact LeO.none _
      | refine LeO.ite ?_ ?_
      | refine LeO.bind ?_ (fun _ => ?_)
set_option maxHeartbeats 8000000 in
set_option maxRecDepth 100000 in
theorem marginaliaref02_Is.calls (k : Nat) (a0 : Int) (a1 : ByteArray) (r : Bool) (w : World) (h : marginaliaref02_Is.f k a0 a1 = some r) :
    Calls Try.prog 33 #[.int .i64 a0, .string a1] w fun e w' => e = .returned (.bool r) ∧ Below w.heap.size w w' := by
  have HB := Aside0.mk (Below.refl w.heap.size w)
  have H : ((marginaliaref02_names.f a0).bind fun t245 => (marginaliaref02_Is.l0 k a1 t245 0)) = some r := h
  clear h
  replace H := Option.bind_eq_some_iff.mp H
  obtain ⟨t245, A30, H⟩ := H
  replace H : (marginaliaref02_Is.l0 k a1 t245 0) = some r := H
  have A3 := Aside0.mk A30
  clear A30
  have H' := Aside0.mk H
  clear H
  go_enter Try.func33, Try.ntmps33
  go_wp2_with (first | ((with_reducible refine gate_callee (f := 47) rfl ?_); refine goesL_ (some 8) rfl rfl Try.func47 (by kernel_rfl) rfl #[.int .i64 a0] rfl (by (try simp only [List.map_toArray, List.map_cons, List.map_nil]); first | done | rfl | (simp only [List.length_drop, List.length_take]; rfl)) ?_; (with_reducible refine (marginaliaref02_names.calls a0 t245 _ A3.out).mono ?_); rintro e w4 ⟨v246, rfl, ho0, hb⟩; refine ⟨_, rfl, ?_⟩; have n0_ := Aside0.mk (Kd.R_lower ho0 (below_size (by repeat (first | (with_reducible first | exact HB.out | apply below_alloc | apply pw_below_drewN | apply below_drew1) | exact HB.out)))); have n1_ := Aside0.mk (below_step (by repeat (first | (with_reducible first | exact HB.out | apply below_alloc | apply pw_below_drewN | apply below_drew1) | exact HB.out)) hb); clear HB; have HO247 := n0_; have HB := n1_; clear n0_ n1_; (try clear hb); (try clear hb2); (try clear hk); (try clear hi); (try clear ho0)))
  go_loopg [6] k (fun kq v6 w' => ∃ (x6_1 : Int), v6 = .int .i64 x6_1 ∧ Aside0 (marginaliaref02_Is.l0 kq a1 t245 x6_1 = some r) ∧ Aside0 (kq ≤ k) ∧ Aside0 (Kd.R Kd.string 9 w' w.heap.size (fun _ => True) v246 t245) ∧ Aside0 (Below w.heap.size w w'))
  case atStart => exact ⟨(0), (by first | rfl | (simp; done) | (simp [*]; done)), H', ⟨Nat.le_refl _⟩, ⟨by (with_reducible repeat (first | apply Kd.R_alloc | apply Kd.R_drewN | apply Kd.R_drew)); exact HO247.out⟩, ⟨by repeat (first | (with_reducible first | exact HB.out | apply below_alloc | apply pw_below_drewN | apply below_drew1) | exact HB.out)⟩⟩
  case round =>
    clear H'
    try clear p2
    try clear c3
    try clear c4
    obtain ⟨x6_1, rfl, HA, HK1, HO_5, HB⟩ := hrel
    cases gk with
    | zero => exact absurd HA.out (by simp [marginaliaref02_Is.l0])
    | succ k1 =>
      have H := HA.out
      clear HA
      simp only [marginaliaref02_Is.l0] at H
      by_cases c5 : x6_1 < (t245.length : Int)
      · rw [if_pos c5] at H
        have c5b0 : decide (x6_1 < (t245.length : Int)) = true := decide_eq_true c5
        clear c5
        by_cases c6 : 0 ≤ x6_1
        · rw [if_pos c6] at H
          have c6b0 : decide (0 ≤ x6_1) = true := decide_eq_true c6
          clear c6
          replace H := Option.bind_eq_some_iff.mp H
          obtain ⟨t249, A70, H⟩ := H
          replace H : (if t249 = true then (some true) else (marginaliaref02_Is.l0 k1 a1 t245 (wrap64 (x6_1 + 1)))) = some r := H
          have A7 := Aside0.mk A70
          clear A70
          by_cases c8 : t249 = true
          · subst c8
            have H1 : (some true) = some r := by rw [if_pos rfl] at H; exact H
            clear H
            have H := H1
            clear H1
            obtain rfl := Option.some.inj H
            obtain ⟨Ao9, co9, eo9⟩ := Kd.R_slice HO_5.out
            subst eo9
            have p248 : 0 ≤ (x6_1 : Int) := of_decide_eq_true (by first | (with_reducible assumption) | assumption)
            have q248 : x6_1 < (t245.length : Int) := of_decide_eq_true (by first | (with_reducible assumption) | assumption)
            obtain ⟨ad248, e248, hx248_0⟩ := Kd.at_string (Kd.R_reads' HO_5.out).2.2 x6_1 p248 q248
            cases e248
            replace p248 := eq_true p248
            replace q248 := eq_true q248
            go_wp2_with (first | ((with_reducible refine gate_callee (f := 44) rfl ?_); refine goesL_ (some 20) rfl rfl Try.func44 (by kernel_rfl) rfl #[.string (rdOf ByteArray.empty t245 x6_1), .string a1] rfl (by (try simp only [List.map_toArray, List.map_cons, List.map_nil]); first | done | rfl | (simp only [List.length_drop, List.length_take]; rfl)) ?_; (with_reducible refine (marginaliaref02_In.calls k1 (rdOf ByteArray.empty t245 x6_1) a1 true _ A7.out).mono ?_); rintro e w' ⟨rfl, ⟨nd, rfl⟩⟩; refine ⟨_, rfl, ?_⟩))
            go_ret
            exact ⟨by first | rfl | (simp [errW_none, errW_some] <;> rfl) | (simp [*, errW_none, errW_some] <;> rfl), by repeat (first | (with_reducible first | exact HB.out | apply below_alloc | apply pw_below_drewN | apply below_drew1) | exact HB.out)⟩
          · replace c8 := Bool.eq_false_iff.mpr c8
            subst c8
            have H1 : (marginaliaref02_Is.l0 k1 a1 t245 (wrap64 (x6_1 + 1))) = some r := by rw [if_neg (show ¬ (false = true) by decide)] at H; exact H
            clear H
            have H := H1
            clear H1
            have H' := Aside0.mk H
            clear H
            obtain ⟨Ao10, co10, eo10⟩ := Kd.R_slice HO_5.out
            subst eo10
            have p248 : 0 ≤ (x6_1 : Int) := of_decide_eq_true (by first | (with_reducible assumption) | assumption)
            have q248 : x6_1 < (t245.length : Int) := of_decide_eq_true (by first | (with_reducible assumption) | assumption)
            obtain ⟨ad248, e248, hx248_0⟩ := Kd.at_string (Kd.R_reads' HO_5.out).2.2 x6_1 p248 q248
            cases e248
            replace p248 := eq_true p248
            replace q248 := eq_true q248
            go_wp2_with (first | ((with_reducible refine gate_callee (f := 44) rfl ?_); refine goesL_ (some 20) rfl rfl Try.func44 (by kernel_rfl) rfl #[.string (rdOf ByteArray.empty t245 x6_1), .string a1] rfl (by (try simp only [List.map_toArray, List.map_cons, List.map_nil]); first | done | rfl | (simp only [List.length_drop, List.length_take]; rfl)) ?_; (with_reducible refine (marginaliaref02_In.calls k1 (rdOf ByteArray.empty t245 x6_1) a1 false _ A7.out).mono ?_); rintro e w' ⟨rfl, ⟨nd, rfl⟩⟩; refine ⟨_, rfl, ?_⟩))
            go_roundg k1
            case measure => have := HK1.out; omega
            case rel => exact ⟨(wrap64 (x6_1 + 1)), (by first | rfl | (simp; done) | (simp [*]; done)), H', ⟨by have := HK1.out; omega⟩, ⟨by (with_reducible repeat (first | apply Kd.R_alloc | apply Kd.R_drewN | apply Kd.R_drew)); exact HO_5.out⟩, ⟨by repeat (first | (with_reducible first | exact HB.out | apply below_alloc | apply pw_below_drewN | apply below_drew1) | exact HB.out)⟩⟩
        · rw [if_neg c6] at H
          exact absurd H (by simp)
      · rw [if_neg c5] at H
        have c5b0 : decide (x6_1 < (t245.length : Int)) = false := decide_eq_false c5
        clear c5
        obtain rfl := Option.some.inj H
        obtain ⟨Ao11, co11, eo11⟩ := Kd.R_slice HO_5.out
        subst eo11
        go_wp2
        go_ret
        exact ⟨by first | rfl | (simp [errW_none, errW_some] <;> rfl) | (simp [*, errW_none, errW_some] <;> rfl), by repeat (first | (with_reducible first | exact HB.out | apply below_alloc | apply pw_below_drewN | apply below_drew1) | exact HB.out)⟩

end Go.Proofs.Ytobdmbebgdkelaa.PAll
