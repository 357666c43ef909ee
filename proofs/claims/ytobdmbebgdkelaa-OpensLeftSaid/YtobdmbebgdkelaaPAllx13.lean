-- Written by a program of this session (hprint.py: the kit's print over several laws at once, with functions proved by hand). Lean checks it.
import Derived.Test.YtobdmbebgdkelaaPAllx0
import Derived.Test.YtobdmbebgdkelaaPAllx2
import Derived.Test.YtobdmbebgdkelaaPAllx3
import Derived.Test.YtobdmbebgdkelaaPAllx6
import Derived.Test.YtobdmbebgdkelaaPAllx7
import Derived.Test.YtobdmbebgdkelaaPAllx9
namespace Go.Proofs.Ytobdmbebgdkelaa.PAll
open Go.RowKit Go.Proofs.YtobdmbebgdkelaaW.PrintWords Go.Proofs.YtobdmbebgdkelaaW.PrintLast Go.Proofs.YtobdmbebgdkelaaW.PrintMore
attribute [local go_sem] max2_int min2_int max_two min_two max_three min_three max_four min_four   -- for this text's walks alone
set_option linter.unusedVariables false
set_option linter.unusedSimpArgs false

/-! ### marginalialaw06_OpensLeft: function 6 -/
mutual
def marginalialaw06_OpensLeft.j0 : Nat → List (S35) → List ByteArray → ByteArray → Int → Bool → Option (Bool)
  | 0, _, _, _, _, _ => none
  | k + 1, x0, x1, x2, x7, x29 => if x29 = true then (some false) else (marginalialaw06_OpensLeft.l0 k x0 x1 x2 x7 x7)
def marginalialaw06_OpensLeft.l0 : Nat → List (S35) → List ByteArray → ByteArray → Int → Int → Option (Bool)
  | 0, _, _, _, _, _ => none
  | k + 1, x0, x1, x2, x7, x8 => if x8 < (x0.length : Int) then (marginalialaw06_OpensLeft.l1 k x0 x1 x2 x7 x8 false 0) else ((opens_Implied.f k x0 x2).bind fun t291 => (if t291 < 0 then (marginalialaw06_OpensLeft.j3 k x0 x2 t291 true) else (marginalialaw06_OpensLeft.j3 k x0 x2 t291 (decide (t291 > (x0.length : Int))))))
def marginalialaw06_OpensLeft.l1 : Nat → List (S35) → List ByteArray → ByteArray → Int → Int → Bool → Int → Option (Bool)
  | 0, _, _, _, _, _, _, _ => none
  | k + 1, x0, x1, x2, x7, x8, x9, x10 => if x10 < (x1.length : Int) then (if x8 ≥ 0 then (if x9 = true then (marginalialaw06_OpensLeft.l1 k x0 x1 x2 x7 x8 true (wrap64 (x10 + 1))) else (if 0 ≤ x8 then (if x8 < (x0.length : Int) then (if ((rd_T35 x0 x8).f1) = 0 then (if 0 ≤ x10 then (marginalialaw06_OpensLeft.l1 k x0 x1 x2 x7 x8 (((rd_T35 x0 x8).f2).toList == (rdOf ByteArray.empty x1 x10).toList) (wrap64 (x10 + 1))) else (none)) else (marginalialaw06_OpensLeft.l1 k x0 x1 x2 x7 x8 false (wrap64 (x10 + 1)))) else (none)) else (none))) else (marginalialaw06_OpensLeft.l0 k x0 x1 x2 x7 (wrap64 (x8 + 1)))) else (if x8 ≥ 0 then (if (x9 != (x8 == x7)) = true then (some false) else (marginalialaw06_OpensLeft.l0 k x0 x1 x2 x7 (wrap64 (x8 + 1)))) else (marginalialaw06_OpensLeft.l0 k x0 x1 x2 x7 (wrap64 (x8 + 1))))
def marginalialaw06_OpensLeft.j3 : Nat → List (S35) → ByteArray → Int → Bool → Option (Bool)
  | 0, _, _, _, _ => none
  | k + 1, x0, x2, x11, x87 => if x87 = true then (some false) else (marginalialaw06_OpensLeft.l2 k x0 x2 x11 (wrap64 (x11 - 1)))
def marginalialaw06_OpensLeft.l2 : Nat → List (S35) → ByteArray → Int → Int → Option (Bool)
  | 0, _, _, _, _ => none
  | k + 1, x0, x2, x11, x12 => if x12 < (x0.length : Int) then (if x12 < 0 then (marginalialaw06_OpensLeft.l2 k x0 x2 x11 (wrap64 (x12 + 1))) else (if 0 ≤ x12 then (if ((rd_T35 x0 x12).f1) = 0 then (if ((rd_T35 x0 x12).f2).toList = x2.toList then (if (false != (decide (x12 ≥ x11))) = true then (some false) else (marginalialaw06_OpensLeft.l2 k x0 x2 x11 (wrap64 (x12 + 1)))) else ((kind_Is.f k 8 ((rd_T35 x0 x12).f2)).bind fun t296 => (if (t296 != (decide (x12 ≥ x11))) = true then (some false) else (marginalialaw06_OpensLeft.l2 k x0 x2 x11 (wrap64 (x12 + 1)))))) else (if (false != (decide (x12 ≥ x11))) = true then (some false) else (marginalialaw06_OpensLeft.l2 k x0 x2 x11 (wrap64 (x12 + 1))))) else (none))) else ((marginalialaw06_alive.f k).bind fun t292 => (some t292))
end
def marginalialaw06_OpensLeft.f (k : Nat) (l0 : List (S35)) (l1 : List ByteArray) (a2 : ByteArray) : Option (Bool) := (marginalialaw06_small.f l0 l1).bind fun t285 => (if t285 = true then ((opens_Cut.f k l0 l1).bind fun t287 => (if t287 ≥ (l0.length : Int) then (marginalialaw06_OpensLeft.j0 k l0 l1 a2 t287 true) else (marginalialaw06_OpensLeft.j0 k l0 l1 a2 t287 (decide (t287 < (-1)))))) else ((marginalialaw06_alive.f k).bind fun t286 => (some t286)))
theorem marginalialaw06_OpensLeft.mono_l : ∀ k, (∀ y0 y1 y2 y3 y4, LeO (marginalialaw06_OpensLeft.j0 k y0 y1 y2 y3 y4) (marginalialaw06_OpensLeft.j0 (k + 1) y0 y1 y2 y3 y4)) ∧ (∀ y0 y1 y2 y3 y4, LeO (marginalialaw06_OpensLeft.l0 k y0 y1 y2 y3 y4) (marginalialaw06_OpensLeft.l0 (k + 1) y0 y1 y2 y3 y4)) ∧ (∀ y0 y1 y2 y3 y4 y5 y6, LeO (marginalialaw06_OpensLeft.l1 k y0 y1 y2 y3 y4 y5 y6) (marginalialaw06_OpensLeft.l1 (k + 1) y0 y1 y2 y3 y4 y5 y6)) ∧ (∀ y0 y1 y2 y3, LeO (marginalialaw06_OpensLeft.j3 k y0 y1 y2 y3) (marginalialaw06_OpensLeft.j3 (k + 1) y0 y1 y2 y3)) ∧ (∀ y0 y1 y2 y3, LeO (marginalialaw06_OpensLeft.l2 k y0 y1 y2 y3) (marginalialaw06_OpensLeft.l2 (k + 1) y0 y1 y2 y3))
  | 0 => ⟨fun _ _ _ _ _ r h => by simp [marginalialaw06_OpensLeft.j0] at h, fun _ _ _ _ _ r h => by simp [marginalialaw06_OpensLeft.l0] at h, fun _ _ _ _ _ _ _ r h => by simp [marginalialaw06_OpensLeft.l1] at h, fun _ _ _ _ r h => by simp [marginalialaw06_OpensLeft.j3] at h, fun _ _ _ _ r h => by simp [marginalialaw06_OpensLeft.l2] at h⟩
  | k + 1 => by
    obtain ⟨ih0, ih1, ih2, ih3, ih4⟩ := marginalialaw06_OpensLeft.mono_l k
    refine ⟨?_, ?_, ?_, ?_, ?_⟩
    · intro y0 y1 y2 y3 y4
      unfold marginalialaw06_OpensLeft.j0
      repeat' first
      | (with_reducible exact ih0 _ _ _ _ _)
      | (with_reducible exact ih1 _ _ _ _ _)
      | (with_reducible exact ih2 _ _ _ _ _ _ _)
      | (with_reducible exact ih3 _ _ _ _)
      | (with_reducible exact ih4 _ _ _ _)
      | (with_reducible exact kind_Is.mono _ _ _)
      | (with_reducible exact marginalialaw06_alive.mono _)
      | (with_reducible exact opens_Cut.mono _ _ _)
      | (with_reducible exact opens_Implied.mono _ _ _)
      | (with_reducible exact LeO.refl _)
      | (with_reducible exact LeO.none _)
      | (with_reducible refine LeO.ite ?_ ?_)
      | (with_reducible refine LeO.bind ?_ (fun _ => ?_))
      | exact ih0 _ _ _ _ _
      | exact ih1 _ _ _ _ _
      | exact ih2 _ _ _ _ _ _ _
      | exact ih3 _ _ _ _
      | exact ih4 _ _ _ _
      | exact kind_Is.mono _ _ _
      | exact marginalialaw06_alive.mono _
      | exact opens_Cut.mono _ _ _
      | exact opens_Implied.mono _ _ _
      | exact LeO.none _
      | refine LeO.ite ?_ ?_
      | refine LeO.bind ?_ (fun _ => ?_)
    · intro y0 y1 y2 y3 y4
      unfold marginalialaw06_OpensLeft.l0
      repeat' first
      | (with_reducible exact ih0 _ _ _ _ _)
      | (with_reducible exact ih1 _ _ _ _ _)
      | (with_reducible exact ih2 _ _ _ _ _ _ _)
      | (with_reducible exact ih3 _ _ _ _)
      | (with_reducible exact ih4 _ _ _ _)
      | (with_reducible exact kind_Is.mono _ _ _)
      | (with_reducible exact marginalialaw06_alive.mono _)
      | (with_reducible exact opens_Cut.mono _ _ _)
      | (with_reducible exact opens_Implied.mono _ _ _)
      | (with_reducible exact LeO.refl _)
      | (with_reducible exact LeO.none _)
      | (with_reducible refine LeO.ite ?_ ?_)
      | (with_reducible refine LeO.bind ?_ (fun _ => ?_))
      | exact ih0 _ _ _ _ _
      | exact ih1 _ _ _ _ _
      | exact ih2 _ _ _ _ _ _ _
      | exact ih3 _ _ _ _
      | exact ih4 _ _ _ _
      | exact kind_Is.mono _ _ _
      | exact marginalialaw06_alive.mono _
      | exact opens_Cut.mono _ _ _
      | exact opens_Implied.mono _ _ _
      | exact LeO.none _
      | refine LeO.ite ?_ ?_
      | refine LeO.bind ?_ (fun _ => ?_)
    · intro y0 y1 y2 y3 y4 y5 y6
      unfold marginalialaw06_OpensLeft.l1
      repeat' first
      | (with_reducible exact ih0 _ _ _ _ _)
      | (with_reducible exact ih1 _ _ _ _ _)
      | (with_reducible exact ih2 _ _ _ _ _ _ _)
      | (with_reducible exact ih3 _ _ _ _)
      | (with_reducible exact ih4 _ _ _ _)
      | (with_reducible exact kind_Is.mono _ _ _)
      | (with_reducible exact marginalialaw06_alive.mono _)
      | (with_reducible exact opens_Cut.mono _ _ _)
      | (with_reducible exact opens_Implied.mono _ _ _)
      | (with_reducible exact LeO.refl _)
      | (with_reducible exact LeO.none _)
      | (with_reducible refine LeO.ite ?_ ?_)
      | (with_reducible refine LeO.bind ?_ (fun _ => ?_))
      | exact ih0 _ _ _ _ _
      | exact ih1 _ _ _ _ _
      | exact ih2 _ _ _ _ _ _ _
      | exact ih3 _ _ _ _
      | exact ih4 _ _ _ _
      | exact kind_Is.mono _ _ _
      | exact marginalialaw06_alive.mono _
      | exact opens_Cut.mono _ _ _
      | exact opens_Implied.mono _ _ _
      | exact LeO.none _
      | refine LeO.ite ?_ ?_
      | refine LeO.bind ?_ (fun _ => ?_)
    · intro y0 y1 y2 y3
      unfold marginalialaw06_OpensLeft.j3
      repeat' first
      | (with_reducible exact ih0 _ _ _ _ _)
      | (with_reducible exact ih1 _ _ _ _ _)
      | (with_reducible exact ih2 _ _ _ _ _ _ _)
      | (with_reducible exact ih3 _ _ _ _)
      | (with_reducible exact ih4 _ _ _ _)
      | (with_reducible exact kind_Is.mono _ _ _)
      | (with_reducible exact marginalialaw06_alive.mono _)
      | (with_reducible exact opens_Cut.mono _ _ _)
      | (with_reducible exact opens_Implied.mono _ _ _)
      | (with_reducible exact LeO.refl _)
      | (with_reducible exact LeO.none _)
      | (with_reducible refine LeO.ite ?_ ?_)
      | (with_reducible refine LeO.bind ?_ (fun _ => ?_))
      | exact ih0 _ _ _ _ _
      | exact ih1 _ _ _ _ _
      | exact ih2 _ _ _ _ _ _ _
      | exact ih3 _ _ _ _
      | exact ih4 _ _ _ _
      | exact kind_Is.mono _ _ _
      | exact marginalialaw06_alive.mono _
      | exact opens_Cut.mono _ _ _
      | exact opens_Implied.mono _ _ _
      | exact LeO.none _
      | refine LeO.ite ?_ ?_
      | refine LeO.bind ?_ (fun _ => ?_)
    · intro y0 y1 y2 y3
      unfold marginalialaw06_OpensLeft.l2
      repeat' first
      | (with_reducible exact ih0 _ _ _ _ _)
      | (with_reducible exact ih1 _ _ _ _ _)
      | (with_reducible exact ih2 _ _ _ _ _ _ _)
      | (with_reducible exact ih3 _ _ _ _)
      | (with_reducible exact ih4 _ _ _ _)
      | (with_reducible exact kind_Is.mono _ _ _)
      | (with_reducible exact marginalialaw06_alive.mono _)
      | (with_reducible exact opens_Cut.mono _ _ _)
      | (with_reducible exact opens_Implied.mono _ _ _)
      | (with_reducible exact LeO.refl _)
      | (with_reducible exact LeO.none _)
      | (with_reducible refine LeO.ite ?_ ?_)
      | (with_reducible refine LeO.bind ?_ (fun _ => ?_))
      | exact ih0 _ _ _ _ _
      | exact ih1 _ _ _ _ _
      | exact ih2 _ _ _ _ _ _ _
      | exact ih3 _ _ _ _
      | exact ih4 _ _ _ _
      | exact kind_Is.mono _ _ _
      | exact marginalialaw06_alive.mono _
      | exact opens_Cut.mono _ _ _
      | exact opens_Implied.mono _ _ _
      | exact LeO.none _
      | refine LeO.ite ?_ ?_
      | refine LeO.bind ?_ (fun _ => ?_)
theorem marginalialaw06_OpensLeft.mono : ∀ a0 a1 a2 k, LeO (marginalialaw06_OpensLeft.f k a0 a1 a2) (marginalialaw06_OpensLeft.f (k + 1) a0 a1 a2) := by
  intro a0 a1 a2 k
  obtain ⟨ih0, ih1, ih2, ih3, ih4⟩ := marginalialaw06_OpensLeft.mono_l k
  unfold marginalialaw06_OpensLeft.f
  repeat' first
      | (with_reducible exact ih0 _ _ _ _ _)
      | (with_reducible exact ih1 _ _ _ _ _)
      | (with_reducible exact ih2 _ _ _ _ _ _ _)
      | (with_reducible exact ih3 _ _ _ _)
      | (with_reducible exact ih4 _ _ _ _)
      | (with_reducible exact kind_Is.mono _ _ _)
      | (with_reducible exact marginalialaw06_alive.mono _)
      | (with_reducible exact opens_Cut.mono _ _ _)
      | (with_reducible exact opens_Implied.mono _ _ _)
      | (with_reducible exact LeO.refl _)
      | (with_reducible exact LeO.none _)
      | (with_reducible refine LeO.ite ?_ ?_)
      | (with_reducible refine LeO.bind ?_ (fun _ => ?_))
      | exact ih0 _ _ _ _ _
      | exact ih1 _ _ _ _ _
      | exact ih2 _ _ _ _ _ _ _
      | exact ih3 _ _ _ _
      | exact ih4 _ _ _ _
      | exact kind_Is.mono _ _ _
      | exact marginalialaw06_alive.mono _
      | exact opens_Cut.mono _ _ _
      | exact opens_Implied.mono _ _ _
      | exact LeO.none _
      | refine LeO.ite ?_ ?_
      | refine LeO.bind ?_ (fun _ => ?_)
set_option maxHeartbeats 8000000 in
set_option maxRecDepth 100000 in
theorem marginalialaw06_OpensLeft.calls (k : Nat) (A0 : Option Addr) (c0 : Nat) (l0 : List (S35)) (A1 : Option Addr) (c1 : Nat) (l1 : List ByteArray) (a2 : ByteArray) (r : Bool) (w : World) (hr0 : Kd.C k35 w A0 l0.length l0) (hc0 : l0.length ≤ c0) (hr1 : Kd.C Kd.string w A1 l1.length l1) (hc1 : l1.length ≤ c1) (h : marginalialaw06_OpensLeft.f k l0 l1 a2 = some r) :
    Calls Try.prog 6 #[.slice A0 l0.length c0, .slice A1 l1.length c1, .string a2] w fun e w' => e = .returned (.bool r) ∧ Below w.heap.size w w' := by
  have HR0 := Aside0.mk hr0
  have HC0 := Aside0.mk hc0
  clear hr0 hc0
  have HR1 := Aside0.mk hr1
  have HC1 := Aside0.mk hc1
  clear hr1 hc1
  have HB := Aside0.mk (Below.refl w.heap.size w)
  have H : ((marginalialaw06_small.f l0 l1).bind fun t285 => (if t285 = true then ((opens_Cut.f k l0 l1).bind fun t287 => (if t287 ≥ (l0.length : Int) then (marginalialaw06_OpensLeft.j0 k l0 l1 a2 t287 true) else (marginalialaw06_OpensLeft.j0 k l0 l1 a2 t287 (decide (t287 < (-1)))))) else ((marginalialaw06_alive.f k).bind fun t286 => (some t286)))) = some r := h
  clear h
  replace H := Option.bind_eq_some_iff.mp H
  obtain ⟨t285, A40, H⟩ := H
  replace H : (if t285 = true then ((opens_Cut.f k l0 l1).bind fun t287 => (if t287 ≥ (l0.length : Int) then (marginalialaw06_OpensLeft.j0 k l0 l1 a2 t287 true) else (marginalialaw06_OpensLeft.j0 k l0 l1 a2 t287 (decide (t287 < (-1)))))) else ((marginalialaw06_alive.f k).bind fun t286 => (some t286))) = some r := H
  have A4 := Aside0.mk A40
  clear A40
  by_cases c5 : t285 = true
  · subst c5
    have H1 : ((opens_Cut.f k l0 l1).bind fun t287 => (if t287 ≥ (l0.length : Int) then (marginalialaw06_OpensLeft.j0 k l0 l1 a2 t287 true) else (marginalialaw06_OpensLeft.j0 k l0 l1 a2 t287 (decide (t287 < (-1)))))) = some r := by rw [if_pos rfl] at H; exact H
    clear H
    have H := H1
    clear H1
    replace H := Option.bind_eq_some_iff.mp H
    obtain ⟨t287, A60, H⟩ := H
    replace H : (if t287 ≥ (l0.length : Int) then (marginalialaw06_OpensLeft.j0 k l0 l1 a2 t287 true) else (marginalialaw06_OpensLeft.j0 k l0 l1 a2 t287 (decide (t287 < (-1))))) = some r := H
    have A6 := Aside0.mk A60
    clear A60
    have HC7 := Aside0.mk H
    clear H
    go_enter Try.func6, Try.ntmps6
    go_upto_region 4 with (first | (go_at_call 9; (with_reducible refine (marginalialaw06_small.calls _ _ l0 _ _ l1 true _ ?side1 ?side2 ?side3 ?side4 A4.out).mono ?_); (case side1 => repeat (first | exact HR0.out | (with_reducible refine Kd.C_alloc ?_ _) | (with_reducible refine Kd.C_drewN ?_ _) | (with_reducible refine Kd.C_drew ?_))); (case side2 => exact HC0.out); (case side3 => repeat (first | exact HR1.out | (with_reducible refine Kd.C_alloc ?_ _) | (with_reducible refine Kd.C_drewN ?_ _) | (with_reducible refine Kd.C_drew ?_))); (case side4 => exact HC1.out); rintro e w' ⟨rfl, ⟨nd, rfl⟩⟩; (try first | exact ⟨rfl, _, World.drewN_drewN _ _ _⟩ | exact ⟨rfl, _, Eq.trans (World.drewN_drewN _ _ _) (congrArg (World.drewN _) (Nat.add_assoc _ _ _))⟩)) | (go_at_call 13; (with_reducible refine (opens_Cut.calls k _ _ l0 _ _ l1 t287 _ ?side1 ?side2 ?side3 ?side4 A6.out).mono ?_); (case side1 => repeat (first | exact HR0.out | (with_reducible refine Kd.C_alloc ?_ _) | (with_reducible refine Kd.C_drewN ?_ _) | (with_reducible refine Kd.C_drew ?_))); (case side2 => exact HC0.out); (case side3 => repeat (first | exact HR1.out | (with_reducible refine Kd.C_alloc ?_ _) | (with_reducible refine Kd.C_drewN ?_ _) | (with_reducible refine Kd.C_drew ?_))); (case side4 => exact HC1.out); rintro e w8 ⟨rfl, hb⟩; have n0_ := Aside0.mk (below_step (by repeat (first | (with_reducible first | exact HB.out | apply below_alloc | apply pw_below_drewN | apply below_drew1) | exact HB.out)) hb); clear HB; have HB := n0_; clear n0_; (try clear hb); (try clear hb2); (try clear hk); (try clear hi)))
    repeat (go_quiet (first | (go_at_call 9; (with_reducible refine (marginalialaw06_small.calls _ _ l0 _ _ l1 true _ ?side1 ?side2 ?side3 ?side4 A4.out).mono ?_); (case side1 => repeat (first | exact HR0.out | (with_reducible refine Kd.C_alloc ?_ _) | (with_reducible refine Kd.C_drewN ?_ _) | (with_reducible refine Kd.C_drew ?_))); (case side2 => exact HC0.out); (case side3 => repeat (first | exact HR1.out | (with_reducible refine Kd.C_alloc ?_ _) | (with_reducible refine Kd.C_drewN ?_ _) | (with_reducible refine Kd.C_drew ?_))); (case side4 => exact HC1.out); rintro e w' ⟨rfl, ⟨nd, rfl⟩⟩; (try first | exact ⟨rfl, _, World.drewN_drewN _ _ _⟩ | exact ⟨rfl, _, Eq.trans (World.drewN_drewN _ _ _) (congrArg (World.drewN _) (Nat.add_assoc _ _ _))⟩)) | (go_at_call 13; (with_reducible refine (opens_Cut.calls k _ _ l0 _ _ l1 t287 _ ?side1 ?side2 ?side3 ?side4 A6.out).mono ?_); (case side1 => repeat (first | exact HR0.out | (with_reducible refine Kd.C_alloc ?_ _) | (with_reducible refine Kd.C_drewN ?_ _) | (with_reducible refine Kd.C_drew ?_))); (case side2 => exact HC0.out); (case side3 => repeat (first | exact HR1.out | (with_reducible refine Kd.C_alloc ?_ _) | (with_reducible refine Kd.C_drewN ?_ _) | (with_reducible refine Kd.C_drew ?_))); (case side4 => exact HC1.out); rintro e w8 ⟨rfl, hb⟩; have n0_ := Aside0.mk (below_step (by repeat (first | (with_reducible first | exact HB.out | apply below_alloc | apply pw_below_drewN | apply below_drew1) | exact HB.out)) hb); clear HB; have HB := n0_; clear n0_; (try clear hb); (try clear hb2); (try clear hk); (try clear hi))); go_upto_region 4 with (first | (go_at_call 9; (with_reducible refine (marginalialaw06_small.calls _ _ l0 _ _ l1 true _ ?side1 ?side2 ?side3 ?side4 A4.out).mono ?_); (case side1 => repeat (first | exact HR0.out | (with_reducible refine Kd.C_alloc ?_ _) | (with_reducible refine Kd.C_drewN ?_ _) | (with_reducible refine Kd.C_drew ?_))); (case side2 => exact HC0.out); (case side3 => repeat (first | exact HR1.out | (with_reducible refine Kd.C_alloc ?_ _) | (with_reducible refine Kd.C_drewN ?_ _) | (with_reducible refine Kd.C_drew ?_))); (case side4 => exact HC1.out); rintro e w' ⟨rfl, ⟨nd, rfl⟩⟩; (try first | exact ⟨rfl, _, World.drewN_drewN _ _ _⟩ | exact ⟨rfl, _, Eq.trans (World.drewN_drewN _ _ _) (congrArg (World.drewN _) (Nat.add_assoc _ _ _))⟩)) | (go_at_call 13; (with_reducible refine (opens_Cut.calls k _ _ l0 _ _ l1 t287 _ ?side1 ?side2 ?side3 ?side4 A6.out).mono ?_); (case side1 => repeat (first | exact HR0.out | (with_reducible refine Kd.C_alloc ?_ _) | (with_reducible refine Kd.C_drewN ?_ _) | (with_reducible refine Kd.C_drew ?_))); (case side2 => exact HC0.out); (case side3 => repeat (first | exact HR1.out | (with_reducible refine Kd.C_alloc ?_ _) | (with_reducible refine Kd.C_drewN ?_ _) | (with_reducible refine Kd.C_drew ?_))); (case side4 => exact HC1.out); rintro e w8 ⟨rfl, hb⟩; have n0_ := Aside0.mk (below_step (by repeat (first | (with_reducible first | exact HB.out | apply below_alloc | apply pw_below_drewN | apply below_drew1) | exact HB.out)) hb); clear HB; have HB := n0_; clear n0_; (try clear hb); (try clear hb2); (try clear hk); (try clear hi))))
    (try simp only [Act.put, List.setIfInBounds_toArray, List.set_cons_zero, List.set_cons_succ])
    go_cut [29] (fun v29 wc => ∃ (kq : Nat) (x29_6 : Bool), v29 = .bool x29_6 ∧ Aside0 (marginalialaw06_OpensLeft.j0 kq l0 l1 a2 t287 x29_6 = some r) ∧ Aside0 (kq ≤ k) ∧ Aside0 (Below w.heap.size w wc))
    case first =>
      have H := HC7.out
      clear HC7
      by_cases c9 : t287 ≥ (l0.length : Int)
      · rw [if_pos c9] at H
        have c9b0 : decide ((l0.length : Int) ≤ t287) = true := decide_eq_true c9
        clear c9
        (first | rw [c9b0] | (simp only [i64_w, i32_w]; rw [c9b0]) | skip)
        have H' := Aside0.mk H
        clear H
        go_wp2
        repeat (go_quiet (fail); try go_wp2)
        go_meet
        case rel => exact ⟨_, (true), (by first | rfl | (simp; done) | (simp [*]; done)), H', ⟨by first | omega | exact Nat.le_refl _⟩, ⟨by repeat (first | (with_reducible first | exact HB.out | apply below_alloc | apply pw_below_drewN | apply below_drew1) | exact HB.out)⟩⟩
      · rw [if_neg c9] at H
        have c9b0 : decide ((l0.length : Int) ≤ t287) = false := decide_eq_false c9
        clear c9
        (first | rw [c9b0] | (simp only [i64_w, i32_w]; rw [c9b0]) | skip)
        have H' := Aside0.mk H
        clear H
        go_wp2
        repeat (go_quiet (fail); try go_wp2)
        go_meet
        case rel => exact ⟨_, (decide (t287 < (-1))), (by first | rfl | (simp; done) | (simp [*]; done)), H', ⟨by first | omega | exact Nat.le_refl _⟩, ⟨by repeat (first | (with_reducible first | exact HB.out | apply below_alloc | apply pw_below_drewN | apply below_drew1) | exact HB.out)⟩⟩
    case rest =>
      clear HC7
      try clear c1
      try clear p2
      try clear c5
      try clear c6
      try clear c9
      try clear c9b0
      obtain ⟨kq, x29_6, rfl, HA, HJ6, HB⟩ := hcut
      cases kq with
      | zero => exact absurd HA.out (by simp [marginalialaw06_OpensLeft.j0])
      | succ kj6 =>
        have H := HA.out
        clear HA
        simp only [marginalialaw06_OpensLeft.j0] at H
        by_cases c10 : x29_6 = true
        · subst c10
          have H1 : (some false) = some r := by rw [if_pos rfl] at H; exact H
          clear H
          have H := H1
          clear H1
          obtain rfl := Option.some.inj H
          go_wp2
          repeat (go_quiet (fail); try go_wp2)
          go_ret
          exact ⟨by first | rfl | (simp [errW_none, errW_some] <;> rfl) | (simp [*, errW_none, errW_some] <;> rfl), by repeat (first | (with_reducible first | exact HB.out | apply below_alloc | apply pw_below_drewN | apply below_drew1) | exact HB.out)⟩
        · replace c10 := Bool.eq_false_iff.mpr c10
          subst c10
          have H1 : (marginalialaw06_OpensLeft.l0 kj6 l0 l1 a2 t287 t287) = some r := by rw [if_neg (show ¬ (false = true) by decide)] at H; exact H
          clear H
          have H := H1
          clear H1
          have H' := Aside0.mk H
          clear H
          go_wp2
          repeat (go_quiet (fail); try go_wp2)
          go_loopg [8] kj6 (fun kq v8 w' => ∃ (x8_2 : Int), v8 = .int .i64 x8_2 ∧ Aside0 (marginalialaw06_OpensLeft.l0 kq l0 l1 a2 t287 x8_2 = some r) ∧ Aside0 (kq ≤ kj6) ∧ Aside0 (Below w.heap.size w w'))
          case atStart => exact ⟨(t287), (by first | rfl | (simp; done) | (simp [*]; done)), H', ⟨Nat.le_refl _⟩, ⟨by repeat (first | (with_reducible first | exact HB.out | apply below_alloc | apply pw_below_drewN | apply below_drew1) | exact HB.out)⟩⟩
          case round =>
            clear H'
            try clear c1
            try clear p2
            try clear c5
            try clear c6
            try clear c9
            try clear c9b0
            try clear c10
            try clear p2
            obtain ⟨x8_2, rfl, HA, HK2, HB⟩ := hrel
            cases gk with
            | zero => exact absurd HA.out (by simp [marginalialaw06_OpensLeft.l0])
            | succ k2 =>
              have H := HA.out
              clear HA
              simp only [marginalialaw06_OpensLeft.l0] at H
              by_cases c11 : x8_2 < (l0.length : Int)
              · rw [if_pos c11] at H
                have c11b0 : decide (x8_2 < (l0.length : Int)) = true := decide_eq_true c11
                clear c11
                have H' := Aside0.mk H
                clear H
                go_wp2
                repeat (go_quiet (fail); try go_wp2)
                go_loopg [9, 10] k2 (fun kq v9 v10 w' => ∃ (x9_3 : Bool) (x10_3 : Int), v9 = .bool x9_3 ∧ v10 = .int .i64 x10_3 ∧ Aside0 (marginalialaw06_OpensLeft.l1 kq l0 l1 a2 t287 x8_2 x9_3 x10_3 = some r) ∧ Aside0 (kq ≤ k2) ∧ Aside0 (Below w.heap.size w w'))
                case atStart => exact ⟨(false), (0), (by first | rfl | (simp; done) | (simp [*]; done)), (by first | rfl | (simp; done) | (simp [*]; done)), H', ⟨Nat.le_refl _⟩, ⟨by repeat (first | (with_reducible first | exact HB.out | apply below_alloc | apply pw_below_drewN | apply below_drew1) | exact HB.out)⟩⟩
                case round =>
                  clear H'
                  try clear c1
                  try clear p2
                  try clear c5
                  try clear c6
                  try clear c9
                  try clear c9b0
                  try clear c10
                  try clear c11
                  try clear c11b0
                  try clear p2
                  obtain ⟨x9_3, x10_3, rfl, rfl, HA, HK3, HB⟩ := hrel
                  cases gk with
                  | zero => exact absurd HA.out (by simp [marginalialaw06_OpensLeft.l1])
                  | succ k3 =>
                    have H := HA.out
                    clear HA
                    simp only [marginalialaw06_OpensLeft.l1] at H
                    by_cases c12 : x10_3 < (l1.length : Int)
                    · rw [if_pos c12] at H
                      have c12b0 : decide (x10_3 < (l1.length : Int)) = true := decide_eq_true c12
                      clear c12
                      by_cases c13 : x8_2 ≥ 0
                      · rw [if_pos c13] at H
                        have c13b0 : decide (0 ≤ x8_2) = true := decide_eq_true c13
                        clear c13
                        by_cases c14 : x9_3 = true
                        · subst c14
                          have H1 : (marginalialaw06_OpensLeft.l1 k3 l0 l1 a2 t287 x8_2 true (wrap64 (x10_3 + 1))) = some r := by rw [if_pos rfl] at H; exact H
                          clear H
                          have H := H1
                          clear H1
                          have H' := Aside0.mk H
                          clear H
                          go_wp2
                          repeat (go_quiet (fail); try go_wp2)
                          go_roundg k3
                          case measure => have := HJ6.out; have := HK2.out; have := HK3.out; omega
                          case rel => exact ⟨(true), (wrap64 (x10_3 + 1)), (by first | rfl | (simp; done) | (simp [*]; done)), (by first | rfl | (simp; done) | (simp [*]; done)), H', ⟨by have := HJ6.out; have := HK2.out; have := HK3.out; omega⟩, ⟨by repeat (first | (with_reducible first | exact HB.out | apply below_alloc | apply pw_below_drewN | apply below_drew1) | exact HB.out)⟩⟩
                        · replace c14 := Bool.eq_false_iff.mpr c14
                          subst c14
                          have H1 : (if 0 ≤ x8_2 then (if x8_2 < (l0.length : Int) then (if ((rd_T35 l0 x8_2).f1) = 0 then (if 0 ≤ x10_3 then (marginalialaw06_OpensLeft.l1 k3 l0 l1 a2 t287 x8_2 (((rd_T35 l0 x8_2).f2).toList == (rdOf ByteArray.empty l1 x10_3).toList) (wrap64 (x10_3 + 1))) else (none)) else (marginalialaw06_OpensLeft.l1 k3 l0 l1 a2 t287 x8_2 false (wrap64 (x10_3 + 1)))) else (none)) else (none)) = some r := by rw [if_neg (show ¬ (false = true) by decide)] at H; exact H
                          clear H
                          have H := H1
                          clear H1
                          by_cases c15 : 0 ≤ x8_2
                          · rw [if_pos c15] at H
                            have c15b0 : decide (0 ≤ x8_2) = true := decide_eq_true c15
                            clear c15
                            by_cases c16 : x8_2 < (l0.length : Int)
                            · rw [if_pos c16] at H
                              have c16b0 : decide (x8_2 < (l0.length : Int)) = true := decide_eq_true c16
                              clear c16
                              by_cases c17 : ((rd_T35 l0 x8_2).f1) = 0
                              · rw [if_pos c17] at H
                                have c17b0 : (((rd_T35 l0 x8_2).f1) == 0) = true := beq_iff_eq.mpr c17
                                have c17b1 : (((rd_T35 l0 x8_2).f1) != 0) = false := bne_eq_false_iff_eq.mpr c17
                                clear c17
                                by_cases c18 : 0 ≤ x10_3
                                · rw [if_pos c18] at H
                                  have c18b0 : decide (0 ≤ x10_3) = true := decide_eq_true c18
                                  clear c18
                                  have H' := Aside0.mk H
                                  clear H
                                  have p288 : 0 ≤ (x8_2 : Int) := of_decide_eq_true (by first | (with_reducible assumption) | assumption)
                                  have q288 : x8_2 < (l0.length : Int) := of_decide_eq_true (by first | (with_reducible assumption) | assumption)
                                  obtain ⟨ad288, e288, hx288_0, hx288_1, hx288_2⟩ := at_T35 HR0.out x8_2 p288 q288
                                  cases e288
                                  replace hx288_0 := (HB.out.cell (World.block_lt_of_cell? w _ hx288_0)).trans hx288_0
                                  replace hx288_1 := (HB.out.cell (World.block_lt_of_cell? w _ hx288_1)).trans hx288_1
                                  replace hx288_2 := (HB.out.cell (World.block_lt_of_cell? w _ hx288_2)).trans hx288_2
                                  replace p288 := eq_true p288
                                  replace q288 := eq_true q288
                                  have p289 : 0 ≤ (x8_2 : Int) := of_decide_eq_true (by first | (with_reducible assumption) | assumption)
                                  have q289 : x8_2 < (l0.length : Int) := of_decide_eq_true (by first | (with_reducible assumption) | assumption)
                                  obtain ⟨ad289, e289, hx289_0, hx289_1, hx289_2⟩ := at_T35 HR0.out x8_2 p289 q289
                                  obtain rfl : ad288 = ad289 := (by injection e289)
                                  replace hx289_0 := (HB.out.cell (World.block_lt_of_cell? w _ hx289_0)).trans hx289_0
                                  replace hx289_1 := (HB.out.cell (World.block_lt_of_cell? w _ hx289_1)).trans hx289_1
                                  replace hx289_2 := (HB.out.cell (World.block_lt_of_cell? w _ hx289_2)).trans hx289_2
                                  replace p289 := eq_true p289
                                  replace q289 := eq_true q289
                                  have p290 : 0 ≤ (x10_3 : Int) := of_decide_eq_true (by first | (with_reducible assumption) | assumption)
                                  have q290 : x10_3 < (l1.length : Int) := of_decide_eq_true (by first | (with_reducible assumption) | assumption)
                                  obtain ⟨ad290, e290, hx290_0⟩ := Kd.at_string HR1.out x10_3 p290 q290
                                  cases e290
                                  replace hx290_0 := (HB.out.cell (World.block_lt_of_cell? w _ hx290_0)).trans hx290_0
                                  replace p290 := eq_true p290
                                  replace q290 := eq_true q290
                                  go_wp2
                                  repeat (go_quiet (fail); try go_wp2)
                                  go_roundg k3
                                  case measure => have := HJ6.out; have := HK2.out; have := HK3.out; omega
                                  case rel => exact ⟨((((rd_T35 l0 x8_2).f2).toList == (rdOf ByteArray.empty l1 x10_3).toList)), (wrap64 (x10_3 + 1)), (by first | rfl | (simp; done) | (simp [*]; done)), (by first | rfl | (simp; done) | (simp [*]; done)), H', ⟨by have := HJ6.out; have := HK2.out; have := HK3.out; omega⟩, ⟨by repeat (first | (with_reducible first | exact HB.out | apply below_alloc | apply pw_below_drewN | apply below_drew1) | exact HB.out)⟩⟩
                                · rw [if_neg c18] at H
                                  exact absurd H (by simp)
                              · rw [if_neg c17] at H
                                have c17b0 : (((rd_T35 l0 x8_2).f1) == 0) = false := beq_eq_false_iff_ne.mpr c17
                                have c17b1 : (((rd_T35 l0 x8_2).f1) != 0) = true := bne_iff_ne.mpr c17
                                have H' := Aside0.mk H
                                clear H
                                have p288 : 0 ≤ (x8_2 : Int) := of_decide_eq_true (by first | (with_reducible assumption) | assumption)
                                have q288 : x8_2 < (l0.length : Int) := of_decide_eq_true (by first | (with_reducible assumption) | assumption)
                                obtain ⟨ad288, e288, hx288_0, hx288_1, hx288_2⟩ := at_T35 HR0.out x8_2 p288 q288
                                cases e288
                                replace hx288_0 := (HB.out.cell (World.block_lt_of_cell? w _ hx288_0)).trans hx288_0
                                replace hx288_1 := (HB.out.cell (World.block_lt_of_cell? w _ hx288_1)).trans hx288_1
                                replace hx288_2 := (HB.out.cell (World.block_lt_of_cell? w _ hx288_2)).trans hx288_2
                                replace p288 := eq_true p288
                                replace q288 := eq_true q288
                                go_wp2
                                repeat (go_quiet (fail); try go_wp2)
                                go_roundg k3
                                case measure => have := HJ6.out; have := HK2.out; have := HK3.out; omega
                                case rel => exact ⟨(false), (wrap64 (x10_3 + 1)), (by first | rfl | (simp; done) | (simp [*]; done)), (by first | rfl | (simp; done) | (simp [*]; done)), H', ⟨by have := HJ6.out; have := HK2.out; have := HK3.out; omega⟩, ⟨by repeat (first | (with_reducible first | exact HB.out | apply below_alloc | apply pw_below_drewN | apply below_drew1) | exact HB.out)⟩⟩
                            · rw [if_neg c16] at H
                              exact absurd H (by simp)
                          · rw [if_neg c15] at H
                            exact absurd H (by simp)
                      · rw [if_neg c13] at H
                        have c13b0 : decide (0 ≤ x8_2) = false := decide_eq_false c13
                        clear c13
                        have H' := Aside0.mk H
                        clear H
                        go_wp2
                        repeat (go_quiet (fail); try go_wp2)
                        go_roundg k3
                        case measure => have := HJ6.out; have := HK2.out; have := HK3.out; omega
                        case rel => exact ⟨(wrap64 (x8_2 + 1)), (by first | rfl | (simp; done) | (simp [*]; done)), H', ⟨by have := HJ6.out; have := HK2.out; have := HK3.out; omega⟩, ⟨by repeat (first | (with_reducible first | exact HB.out | apply below_alloc | apply pw_below_drewN | apply below_drew1) | exact HB.out)⟩⟩
                    · rw [if_neg c12] at H
                      have c12b0 : decide (x10_3 < (l1.length : Int)) = false := decide_eq_false c12
                      clear c12
                      by_cases c19 : x8_2 ≥ 0
                      · rw [if_pos c19] at H
                        have c19b0 : decide (0 ≤ x8_2) = true := decide_eq_true c19
                        clear c19
                        by_cases c20 : (x9_3 != (x8_2 == t287)) = true
                        · rw [if_pos c20] at H
                          have c20b0 : (x9_3 != (x8_2 == t287)) = true := c20
                          (try (have c20b1 : decide (x9_3 = (x8_2 == t287)) = false := by simpa using c20))
                          (try (have c20b2 : (x9_3 == (x8_2 == t287)) = false := by simpa using c20))
                          (try (have c20b3 : ¬ (x9_3 = (x8_2 == t287)) := by simpa using c20))
                          clear c20
                          obtain rfl := Option.some.inj H
                          go_wp2
                          repeat (go_quiet (fail); try go_wp2)
                          go_ret
                          exact ⟨by first | rfl | (simp [errW_none, errW_some] <;> rfl) | (simp [*, errW_none, errW_some] <;> rfl), by repeat (first | (with_reducible first | exact HB.out | apply below_alloc | apply pw_below_drewN | apply below_drew1) | exact HB.out)⟩
                        · rw [if_neg c20] at H
                          have c20b0 : (x9_3 != (x8_2 == t287)) = false := by simpa using c20
                          (try (have c20b1 : decide (x9_3 = (x8_2 == t287)) = true := by simpa using c20))
                          (try (have c20b2 : (x9_3 == (x8_2 == t287)) = true := by simpa using c20))
                          clear c20
                          have H' := Aside0.mk H
                          clear H
                          go_wp2
                          repeat (go_quiet (fail); try go_wp2)
                          go_roundg k3
                          case measure => have := HJ6.out; have := HK2.out; have := HK3.out; omega
                          case rel => exact ⟨(wrap64 (x8_2 + 1)), (by first | rfl | (simp; done) | (simp [*]; done)), H', ⟨by have := HJ6.out; have := HK2.out; have := HK3.out; omega⟩, ⟨by repeat (first | (with_reducible first | exact HB.out | apply below_alloc | apply pw_below_drewN | apply below_drew1) | exact HB.out)⟩⟩
                      · rw [if_neg c19] at H
                        have c19b0 : decide (0 ≤ x8_2) = false := decide_eq_false c19
                        clear c19
                        have H' := Aside0.mk H
                        clear H
                        go_wp2
                        repeat (go_quiet (fail); try go_wp2)
                        go_roundg k3
                        case measure => have := HJ6.out; have := HK2.out; have := HK3.out; omega
                        case rel => exact ⟨(wrap64 (x8_2 + 1)), (by first | rfl | (simp; done) | (simp [*]; done)), H', ⟨by have := HJ6.out; have := HK2.out; have := HK3.out; omega⟩, ⟨by repeat (first | (with_reducible first | exact HB.out | apply below_alloc | apply pw_below_drewN | apply below_drew1) | exact HB.out)⟩⟩
              · rw [if_neg c11] at H
                have c11b0 : decide (x8_2 < (l0.length : Int)) = false := decide_eq_false c11
                clear c11
                replace H := Option.bind_eq_some_iff.mp H
                obtain ⟨t291, A210, H⟩ := H
                replace H : (if t291 < 0 then (marginalialaw06_OpensLeft.j3 k2 l0 a2 t291 true) else (marginalialaw06_OpensLeft.j3 k2 l0 a2 t291 (decide (t291 > (l0.length : Int))))) = some r := H
                have A21 := Aside0.mk A210
                clear A210
                have HC22 := Aside0.mk H
                clear H
                go_upto_region 17 with (first | (go_at_call 14; (with_reducible refine (opens_Implied.calls k2 _ _ l0 a2 t291 _ ?side1 ?side2 A21.out).mono ?_); (case side1 => repeat (first | exact (Kd.C_below HR0.out HB.out) | (with_reducible refine Kd.C_alloc ?_ _) | (with_reducible refine Kd.C_drewN ?_ _) | (with_reducible refine Kd.C_drew ?_))); (case side2 => exact HC0.out); rintro e w23 ⟨rfl, hb⟩; have n0_ := Aside0.mk (below_step (by repeat (first | (with_reducible first | exact HB.out | apply below_alloc | apply pw_below_drewN | apply below_drew1) | exact HB.out)) hb); clear HB; have HB := n0_; clear n0_; (try clear hb); (try clear hb2); (try clear hk); (try clear hi)))
                repeat (go_quiet (first | (go_at_call 14; (with_reducible refine (opens_Implied.calls k2 _ _ l0 a2 t291 _ ?side1 ?side2 A21.out).mono ?_); (case side1 => repeat (first | exact (Kd.C_below HR0.out HB.out) | (with_reducible refine Kd.C_alloc ?_ _) | (with_reducible refine Kd.C_drewN ?_ _) | (with_reducible refine Kd.C_drew ?_))); (case side2 => exact HC0.out); rintro e w23 ⟨rfl, hb⟩; have n0_ := Aside0.mk (below_step (by repeat (first | (with_reducible first | exact HB.out | apply below_alloc | apply pw_below_drewN | apply below_drew1) | exact HB.out)) hb); clear HB; have HB := n0_; clear n0_; (try clear hb); (try clear hb2); (try clear hk); (try clear hi))); go_upto_region 17 with (first | (go_at_call 14; (with_reducible refine (opens_Implied.calls k2 _ _ l0 a2 t291 _ ?side1 ?side2 A21.out).mono ?_); (case side1 => repeat (first | exact (Kd.C_below HR0.out HB.out) | (with_reducible refine Kd.C_alloc ?_ _) | (with_reducible refine Kd.C_drewN ?_ _) | (with_reducible refine Kd.C_drew ?_))); (case side2 => exact HC0.out); rintro e w23 ⟨rfl, hb⟩; have n0_ := Aside0.mk (below_step (by repeat (first | (with_reducible first | exact HB.out | apply below_alloc | apply pw_below_drewN | apply below_drew1) | exact HB.out)) hb); clear HB; have HB := n0_; clear n0_; (try clear hb); (try clear hb2); (try clear hk); (try clear hi))))
                (try simp only [Act.put, List.setIfInBounds_toArray, List.set_cons_zero, List.set_cons_succ])
                go_cut [87] (fun v87 wc => ∃ (kq : Nat) (x87_21 : Bool), v87 = .bool x87_21 ∧ Aside0 (marginalialaw06_OpensLeft.j3 kq l0 a2 t291 x87_21 = some r) ∧ Aside0 (kq ≤ k2) ∧ Aside0 (Below w.heap.size w wc))
                case first =>
                  have H := HC22.out
                  clear HC22
                  by_cases c24 : t291 < 0
                  · rw [if_pos c24] at H
                    have c24b0 : decide (t291 < 0) = true := decide_eq_true c24
                    clear c24
                    (first | rw [c24b0] | (simp only [i64_w, i32_w]; rw [c24b0]) | skip)
                    have H' := Aside0.mk H
                    clear H
                    go_wp2
                    repeat (go_quiet (fail); try go_wp2)
                    go_meet
                    case rel => exact ⟨_, (true), (by first | rfl | (simp; done) | (simp [*]; done)), H', ⟨by have := HJ6.out; have := HK2.out; first | omega | exact Nat.le_refl _⟩, ⟨by repeat (first | (with_reducible first | exact HB.out | apply below_alloc | apply pw_below_drewN | apply below_drew1) | exact HB.out)⟩⟩
                  · rw [if_neg c24] at H
                    have c24b0 : decide (t291 < 0) = false := decide_eq_false c24
                    clear c24
                    (first | rw [c24b0] | (simp only [i64_w, i32_w]; rw [c24b0]) | skip)
                    have H' := Aside0.mk H
                    clear H
                    go_wp2
                    repeat (go_quiet (fail); try go_wp2)
                    go_meet
                    case rel => exact ⟨_, (decide (t291 > (l0.length : Int))), (by first | rfl | (simp; done) | (simp [*]; done)), H', ⟨by have := HJ6.out; have := HK2.out; first | omega | exact Nat.le_refl _⟩, ⟨by repeat (first | (with_reducible first | exact HB.out | apply below_alloc | apply pw_below_drewN | apply below_drew1) | exact HB.out)⟩⟩
                case rest =>
                  clear HC22
                  try clear c1
                  try clear c2
                  try clear p2
                  try clear q2
                  try clear hx2
                  try clear c5
                  try clear c6
                  try clear p6
                  try clear c9
                  try clear c9b0
                  try clear c10
                  try clear c11
                  try clear c11b0
                  try clear c12
                  try clear c12b0
                  try clear c13
                  try clear c13b0
                  try clear c14
                  try clear c15
                  try clear c15b0
                  try clear c16
                  try clear c16b0
                  try clear c17
                  try clear c17b0
                  try clear c17b1
                  try clear c18
                  try clear c18b0
                  try clear c19
                  try clear c19b0
                  try clear c20
                  try clear c20b0
                  try clear c20b1
                  try clear c20b2
                  try clear c24
                  try clear c24b0
                  try clear hx288_0
                  try clear hx288_1
                  try clear hx288_2
                  try clear hx289_0
                  try clear hx289_1
                  try clear hx289_2
                  try clear hx290_0
                  try clear p2
                  try clear p288
                  try clear p289
                  try clear p290
                  try clear q288
                  try clear q289
                  try clear q290
                  obtain ⟨kq, x87_21, rfl, HA, HJ21, HB⟩ := hcut
                  cases kq with
                  | zero => exact absurd HA.out (by simp [marginalialaw06_OpensLeft.j3])
                  | succ kj21 =>
                    have H := HA.out
                    clear HA
                    simp only [marginalialaw06_OpensLeft.j3] at H
                    by_cases c25 : x87_21 = true
                    · subst c25
                      have H1 : (some false) = some r := by rw [if_pos rfl] at H; exact H
                      clear H
                      have H := H1
                      clear H1
                      obtain rfl := Option.some.inj H
                      go_wp2
                      repeat (go_quiet (fail); try go_wp2)
                      go_ret
                      exact ⟨by first | rfl | (simp [errW_none, errW_some] <;> rfl) | (simp [*, errW_none, errW_some] <;> rfl), by repeat (first | (with_reducible first | exact HB.out | apply below_alloc | apply pw_below_drewN | apply below_drew1) | exact HB.out)⟩
                    · replace c25 := Bool.eq_false_iff.mpr c25
                      subst c25
                      have H1 : (marginalialaw06_OpensLeft.l2 kj21 l0 a2 t291 (wrap64 (t291 - 1))) = some r := by rw [if_neg (show ¬ (false = true) by decide)] at H; exact H
                      clear H
                      have H := H1
                      clear H1
                      have H' := Aside0.mk H
                      clear H
                      go_wp2
                      repeat (go_quiet (fail); try go_wp2)
                      go_loopg [12] kj21 (fun kq v12 w' => ∃ (x12_4 : Int), v12 = .int .i64 x12_4 ∧ Aside0 (marginalialaw06_OpensLeft.l2 kq l0 a2 t291 x12_4 = some r) ∧ Aside0 (kq ≤ kj21) ∧ Aside0 (Below w.heap.size w w'))
                      case atStart => exact ⟨(wrap64 (t291 - 1)), (by first | rfl | (simp; done) | (simp [*]; done)), H', ⟨Nat.le_refl _⟩, ⟨by repeat (first | (with_reducible first | exact HB.out | apply below_alloc | apply pw_below_drewN | apply below_drew1) | exact HB.out)⟩⟩
                      case round =>
                        clear H'
                        try clear c1
                        try clear c2
                        try clear p2
                        try clear q2
                        try clear hx2
                        try clear c5
                        try clear c6
                        try clear p6
                        try clear c9
                        try clear c9b0
                        try clear c10
                        try clear c11
                        try clear c11b0
                        try clear c12
                        try clear c12b0
                        try clear c13
                        try clear c13b0
                        try clear c14
                        try clear c15
                        try clear c15b0
                        try clear c16
                        try clear c16b0
                        try clear c17
                        try clear c17b0
                        try clear c17b1
                        try clear c18
                        try clear c18b0
                        try clear c19
                        try clear c19b0
                        try clear c20
                        try clear c20b0
                        try clear c20b1
                        try clear c20b2
                        try clear c24
                        try clear c24b0
                        try clear c25
                        try clear hx288_0
                        try clear hx288_1
                        try clear hx288_2
                        try clear hx289_0
                        try clear hx289_1
                        try clear hx289_2
                        try clear hx290_0
                        try clear p2
                        try clear p288
                        try clear p289
                        try clear p290
                        try clear p6
                        try clear q2
                        try clear q288
                        try clear q289
                        try clear q290
                        obtain ⟨x12_4, rfl, HA, HK4, HB⟩ := hrel
                        cases gk with
                        | zero => exact absurd HA.out (by simp [marginalialaw06_OpensLeft.l2])
                        | succ k4 =>
                          have H := HA.out
                          clear HA
                          simp only [marginalialaw06_OpensLeft.l2] at H
                          by_cases c26 : x12_4 < (l0.length : Int)
                          · rw [if_pos c26] at H
                            have c26b0 : decide (x12_4 < (l0.length : Int)) = true := decide_eq_true c26
                            clear c26
                            by_cases c27 : x12_4 < 0
                            · rw [if_pos c27] at H
                              have c27b0 : decide (x12_4 < 0) = true := decide_eq_true c27
                              clear c27
                              have H' := Aside0.mk H
                              clear H
                              go_wp2
                              repeat (go_quiet (fail); try go_wp2)
                              go_roundg k4
                              case measure => have := HJ6.out; have := HK2.out; have := HJ21.out; have := HK4.out; omega
                              case rel => exact ⟨(wrap64 (x12_4 + 1)), (by first | rfl | (simp; done) | (simp [*]; done)), H', ⟨by have := HJ6.out; have := HK2.out; have := HJ21.out; have := HK4.out; omega⟩, ⟨by repeat (first | (with_reducible first | exact HB.out | apply below_alloc | apply pw_below_drewN | apply below_drew1) | exact HB.out)⟩⟩
                            · rw [if_neg c27] at H
                              have c27b0 : decide (x12_4 < 0) = false := decide_eq_false c27
                              clear c27
                              by_cases c28 : 0 ≤ x12_4
                              · rw [if_pos c28] at H
                                have c28b0 : decide (0 ≤ x12_4) = true := decide_eq_true c28
                                clear c28
                                by_cases c29 : ((rd_T35 l0 x12_4).f1) = 0
                                · rw [if_pos c29] at H
                                  have c29b0 : (((rd_T35 l0 x12_4).f1) == 0) = true := beq_iff_eq.mpr c29
                                  have c29b1 : (((rd_T35 l0 x12_4).f1) != 0) = false := bne_eq_false_iff_eq.mpr c29
                                  clear c29
                                  by_cases c30 : ((rd_T35 l0 x12_4).f2).toList = a2.toList
                                  · rw [if_pos c30] at H
                                    have c30b0 : (((rd_T35 l0 x12_4).f2).toList == a2.toList) = true := beq_iff_eq.mpr c30
                                    have c30b1 : (((rd_T35 l0 x12_4).f2).toList != a2.toList) = false := bne_eq_false_iff_eq.mpr c30
                                    clear c30
                                    by_cases c31 : (false != (decide (x12_4 ≥ t291))) = true
                                    · rw [if_pos c31] at H
                                      have c31b0 : (false != (decide (x12_4 ≥ t291))) = true := c31
                                      (try (have c31b1 : decide (false = (decide (x12_4 ≥ t291))) = false := by simpa using c31))
                                      (try (have c31b2 : (false == (decide (x12_4 ≥ t291))) = false := by simpa using c31))
                                      (try (have c31b3 : ¬ (false = (decide (x12_4 ≥ t291))) := by simpa using c31))
                                      clear c31
                                      obtain rfl := Option.some.inj H
                                      have p293 : 0 ≤ (x12_4 : Int) := of_decide_eq_true (by first | (with_reducible assumption) | assumption)
                                      have q293 : x12_4 < (l0.length : Int) := of_decide_eq_true (by first | (with_reducible assumption) | assumption)
                                      obtain ⟨ad293, e293, hx293_0, hx293_1, hx293_2⟩ := at_T35 HR0.out x12_4 p293 q293
                                      cases e293
                                      replace hx293_0 := (HB.out.cell (World.block_lt_of_cell? w _ hx293_0)).trans hx293_0
                                      replace hx293_1 := (HB.out.cell (World.block_lt_of_cell? w _ hx293_1)).trans hx293_1
                                      replace hx293_2 := (HB.out.cell (World.block_lt_of_cell? w _ hx293_2)).trans hx293_2
                                      replace p293 := eq_true p293
                                      replace q293 := eq_true q293
                                      have p294 : 0 ≤ (x12_4 : Int) := of_decide_eq_true (by first | (with_reducible assumption) | assumption)
                                      have q294 : x12_4 < (l0.length : Int) := of_decide_eq_true (by first | (with_reducible assumption) | assumption)
                                      obtain ⟨ad294, e294, hx294_0, hx294_1, hx294_2⟩ := at_T35 HR0.out x12_4 p294 q294
                                      obtain rfl : ad293 = ad294 := (by injection e294)
                                      replace hx294_0 := (HB.out.cell (World.block_lt_of_cell? w _ hx294_0)).trans hx294_0
                                      replace hx294_1 := (HB.out.cell (World.block_lt_of_cell? w _ hx294_1)).trans hx294_1
                                      replace hx294_2 := (HB.out.cell (World.block_lt_of_cell? w _ hx294_2)).trans hx294_2
                                      replace p294 := eq_true p294
                                      replace q294 := eq_true q294
                                      go_wp2
                                      repeat (go_quiet (fail); try go_wp2)
                                      go_ret
                                      exact ⟨by first | rfl | (simp [errW_none, errW_some] <;> rfl) | (simp [*, errW_none, errW_some] <;> rfl), by repeat (first | (with_reducible first | exact HB.out | apply below_alloc | apply pw_below_drewN | apply below_drew1) | exact HB.out)⟩
                                    · rw [if_neg c31] at H
                                      have c31b0 : (false != (decide (x12_4 ≥ t291))) = false := by simpa using c31
                                      (try (have c31b1 : decide (false = (decide (x12_4 ≥ t291))) = true := by simpa using c31))
                                      (try (have c31b2 : (false == (decide (x12_4 ≥ t291))) = true := by simpa using c31))
                                      clear c31
                                      have H' := Aside0.mk H
                                      clear H
                                      have p293 : 0 ≤ (x12_4 : Int) := of_decide_eq_true (by first | (with_reducible assumption) | assumption)
                                      have q293 : x12_4 < (l0.length : Int) := of_decide_eq_true (by first | (with_reducible assumption) | assumption)
                                      obtain ⟨ad293, e293, hx293_0, hx293_1, hx293_2⟩ := at_T35 HR0.out x12_4 p293 q293
                                      cases e293
                                      replace hx293_0 := (HB.out.cell (World.block_lt_of_cell? w _ hx293_0)).trans hx293_0
                                      replace hx293_1 := (HB.out.cell (World.block_lt_of_cell? w _ hx293_1)).trans hx293_1
                                      replace hx293_2 := (HB.out.cell (World.block_lt_of_cell? w _ hx293_2)).trans hx293_2
                                      replace p293 := eq_true p293
                                      replace q293 := eq_true q293
                                      have p294 : 0 ≤ (x12_4 : Int) := of_decide_eq_true (by first | (with_reducible assumption) | assumption)
                                      have q294 : x12_4 < (l0.length : Int) := of_decide_eq_true (by first | (with_reducible assumption) | assumption)
                                      obtain ⟨ad294, e294, hx294_0, hx294_1, hx294_2⟩ := at_T35 HR0.out x12_4 p294 q294
                                      obtain rfl : ad293 = ad294 := (by injection e294)
                                      replace hx294_0 := (HB.out.cell (World.block_lt_of_cell? w _ hx294_0)).trans hx294_0
                                      replace hx294_1 := (HB.out.cell (World.block_lt_of_cell? w _ hx294_1)).trans hx294_1
                                      replace hx294_2 := (HB.out.cell (World.block_lt_of_cell? w _ hx294_2)).trans hx294_2
                                      replace p294 := eq_true p294
                                      replace q294 := eq_true q294
                                      go_wp2
                                      repeat (go_quiet (fail); try go_wp2)
                                      go_roundg k4
                                      case measure => have := HJ6.out; have := HK2.out; have := HJ21.out; have := HK4.out; omega
                                      case rel => exact ⟨(wrap64 (x12_4 + 1)), (by first | rfl | (simp; done) | (simp [*]; done)), H', ⟨by have := HJ6.out; have := HK2.out; have := HJ21.out; have := HK4.out; omega⟩, ⟨by repeat (first | (with_reducible first | exact HB.out | apply below_alloc | apply pw_below_drewN | apply below_drew1) | exact HB.out)⟩⟩
                                  · rw [if_neg c30] at H
                                    have c30b0 : (((rd_T35 l0 x12_4).f2).toList == a2.toList) = false := beq_eq_false_iff_ne.mpr c30
                                    have c30b1 : (((rd_T35 l0 x12_4).f2).toList != a2.toList) = true := bne_iff_ne.mpr c30
                                    replace H := Option.bind_eq_some_iff.mp H
                                    obtain ⟨t296, A320, H⟩ := H
                                    replace H : (if (t296 != (decide (x12_4 ≥ t291))) = true then (some false) else (marginalialaw06_OpensLeft.l2 k4 l0 a2 t291 (wrap64 (x12_4 + 1)))) = some r := H
                                    have A32 := Aside0.mk A320
                                    clear A320
                                    by_cases c33 : (t296 != (decide (x12_4 ≥ t291))) = true
                                    · rw [if_pos c33] at H
                                      have c33b0 : (t296 != (decide (x12_4 ≥ t291))) = true := c33
                                      (try (have c33b1 : decide (t296 = (decide (x12_4 ≥ t291))) = false := by simpa using c33))
                                      (try (have c33b2 : (t296 == (decide (x12_4 ≥ t291))) = false := by simpa using c33))
                                      (try (have c33b3 : ¬ (t296 = (decide (x12_4 ≥ t291))) := by simpa using c33))
                                      clear c33
                                      obtain rfl := Option.some.inj H
                                      have p293 : 0 ≤ (x12_4 : Int) := of_decide_eq_true (by first | (with_reducible assumption) | assumption)
                                      have q293 : x12_4 < (l0.length : Int) := of_decide_eq_true (by first | (with_reducible assumption) | assumption)
                                      obtain ⟨ad293, e293, hx293_0, hx293_1, hx293_2⟩ := at_T35 HR0.out x12_4 p293 q293
                                      cases e293
                                      replace hx293_0 := (HB.out.cell (World.block_lt_of_cell? w _ hx293_0)).trans hx293_0
                                      replace hx293_1 := (HB.out.cell (World.block_lt_of_cell? w _ hx293_1)).trans hx293_1
                                      replace hx293_2 := (HB.out.cell (World.block_lt_of_cell? w _ hx293_2)).trans hx293_2
                                      replace p293 := eq_true p293
                                      replace q293 := eq_true q293
                                      have p294 : 0 ≤ (x12_4 : Int) := of_decide_eq_true (by first | (with_reducible assumption) | assumption)
                                      have q294 : x12_4 < (l0.length : Int) := of_decide_eq_true (by first | (with_reducible assumption) | assumption)
                                      obtain ⟨ad294, e294, hx294_0, hx294_1, hx294_2⟩ := at_T35 HR0.out x12_4 p294 q294
                                      obtain rfl : ad293 = ad294 := (by injection e294)
                                      replace hx294_0 := (HB.out.cell (World.block_lt_of_cell? w _ hx294_0)).trans hx294_0
                                      replace hx294_1 := (HB.out.cell (World.block_lt_of_cell? w _ hx294_1)).trans hx294_1
                                      replace hx294_2 := (HB.out.cell (World.block_lt_of_cell? w _ hx294_2)).trans hx294_2
                                      replace p294 := eq_true p294
                                      replace q294 := eq_true q294
                                      have p295 : 0 ≤ (x12_4 : Int) := of_decide_eq_true (by first | (with_reducible assumption) | assumption)
                                      have q295 : x12_4 < (l0.length : Int) := of_decide_eq_true (by first | (with_reducible assumption) | assumption)
                                      obtain ⟨ad295, e295, hx295_0, hx295_1, hx295_2⟩ := at_T35 HR0.out x12_4 p295 q295
                                      obtain rfl : ad293 = ad295 := (by injection e295)
                                      replace hx295_0 := (HB.out.cell (World.block_lt_of_cell? w _ hx295_0)).trans hx295_0
                                      replace hx295_1 := (HB.out.cell (World.block_lt_of_cell? w _ hx295_1)).trans hx295_1
                                      replace hx295_2 := (HB.out.cell (World.block_lt_of_cell? w _ hx295_2)).trans hx295_2
                                      replace p295 := eq_true p295
                                      replace q295 := eq_true q295
                                      go_wp2_with (first | (go_at_call 19; (with_reducible refine (kind_Is.calls k4 8 ((rd_T35 l0 x12_4).f2) t296 _ A32.out).mono ?_); rintro e w34 ⟨rfl, hb⟩; have n0_ := Aside0.mk (below_step (by repeat (first | (with_reducible first | exact HB.out | apply below_alloc | apply pw_below_drewN | apply below_drew1) | exact HB.out)) hb); clear HB; have HB := n0_; clear n0_; (try clear hb); (try clear hb2); (try clear hk); (try clear hi)))
                                      repeat (go_quiet (first | (go_at_call 19; (with_reducible refine (kind_Is.calls k4 8 ((rd_T35 l0 x12_4).f2) t296 _ A32.out).mono ?_); rintro e w34 ⟨rfl, hb⟩; have n0_ := Aside0.mk (below_step (by repeat (first | (with_reducible first | exact HB.out | apply below_alloc | apply pw_below_drewN | apply below_drew1) | exact HB.out)) hb); clear HB; have HB := n0_; clear n0_; (try clear hb); (try clear hb2); (try clear hk); (try clear hi))); try go_wp2_with (first | (go_at_call 19; (with_reducible refine (kind_Is.calls k4 8 ((rd_T35 l0 x12_4).f2) t296 _ A32.out).mono ?_); rintro e w34 ⟨rfl, hb⟩; have n0_ := Aside0.mk (below_step (by repeat (first | (with_reducible first | exact HB.out | apply below_alloc | apply pw_below_drewN | apply below_drew1) | exact HB.out)) hb); clear HB; have HB := n0_; clear n0_; (try clear hb); (try clear hb2); (try clear hk); (try clear hi))))
                                      go_ret
                                      exact ⟨by first | rfl | (simp [errW_none, errW_some] <;> rfl) | (simp [*, errW_none, errW_some] <;> rfl), by repeat (first | (with_reducible first | exact HB.out | apply below_alloc | apply pw_below_drewN | apply below_drew1) | exact HB.out)⟩
                                    · rw [if_neg c33] at H
                                      have c33b0 : (t296 != (decide (x12_4 ≥ t291))) = false := by simpa using c33
                                      (try (have c33b1 : decide (t296 = (decide (x12_4 ≥ t291))) = true := by simpa using c33))
                                      (try (have c33b2 : (t296 == (decide (x12_4 ≥ t291))) = true := by simpa using c33))
                                      clear c33
                                      have H' := Aside0.mk H
                                      clear H
                                      have p293 : 0 ≤ (x12_4 : Int) := of_decide_eq_true (by first | (with_reducible assumption) | assumption)
                                      have q293 : x12_4 < (l0.length : Int) := of_decide_eq_true (by first | (with_reducible assumption) | assumption)
                                      obtain ⟨ad293, e293, hx293_0, hx293_1, hx293_2⟩ := at_T35 HR0.out x12_4 p293 q293
                                      cases e293
                                      replace hx293_0 := (HB.out.cell (World.block_lt_of_cell? w _ hx293_0)).trans hx293_0
                                      replace hx293_1 := (HB.out.cell (World.block_lt_of_cell? w _ hx293_1)).trans hx293_1
                                      replace hx293_2 := (HB.out.cell (World.block_lt_of_cell? w _ hx293_2)).trans hx293_2
                                      replace p293 := eq_true p293
                                      replace q293 := eq_true q293
                                      have p294 : 0 ≤ (x12_4 : Int) := of_decide_eq_true (by first | (with_reducible assumption) | assumption)
                                      have q294 : x12_4 < (l0.length : Int) := of_decide_eq_true (by first | (with_reducible assumption) | assumption)
                                      obtain ⟨ad294, e294, hx294_0, hx294_1, hx294_2⟩ := at_T35 HR0.out x12_4 p294 q294
                                      obtain rfl : ad293 = ad294 := (by injection e294)
                                      replace hx294_0 := (HB.out.cell (World.block_lt_of_cell? w _ hx294_0)).trans hx294_0
                                      replace hx294_1 := (HB.out.cell (World.block_lt_of_cell? w _ hx294_1)).trans hx294_1
                                      replace hx294_2 := (HB.out.cell (World.block_lt_of_cell? w _ hx294_2)).trans hx294_2
                                      replace p294 := eq_true p294
                                      replace q294 := eq_true q294
                                      have p295 : 0 ≤ (x12_4 : Int) := of_decide_eq_true (by first | (with_reducible assumption) | assumption)
                                      have q295 : x12_4 < (l0.length : Int) := of_decide_eq_true (by first | (with_reducible assumption) | assumption)
                                      obtain ⟨ad295, e295, hx295_0, hx295_1, hx295_2⟩ := at_T35 HR0.out x12_4 p295 q295
                                      obtain rfl : ad293 = ad295 := (by injection e295)
                                      replace hx295_0 := (HB.out.cell (World.block_lt_of_cell? w _ hx295_0)).trans hx295_0
                                      replace hx295_1 := (HB.out.cell (World.block_lt_of_cell? w _ hx295_1)).trans hx295_1
                                      replace hx295_2 := (HB.out.cell (World.block_lt_of_cell? w _ hx295_2)).trans hx295_2
                                      replace p295 := eq_true p295
                                      replace q295 := eq_true q295
                                      go_wp2_with (first | (go_at_call 19; (with_reducible refine (kind_Is.calls k4 8 ((rd_T35 l0 x12_4).f2) t296 _ A32.out).mono ?_); rintro e w35 ⟨rfl, hb⟩; have n0_ := Aside0.mk (below_step (by repeat (first | (with_reducible first | exact HB.out | apply below_alloc | apply pw_below_drewN | apply below_drew1) | exact HB.out)) hb); clear HB; have HB := n0_; clear n0_; (try clear hb); (try clear hb2); (try clear hk); (try clear hi)))
                                      repeat (go_quiet (first | (go_at_call 19; (with_reducible refine (kind_Is.calls k4 8 ((rd_T35 l0 x12_4).f2) t296 _ A32.out).mono ?_); rintro e w35 ⟨rfl, hb⟩; have n0_ := Aside0.mk (below_step (by repeat (first | (with_reducible first | exact HB.out | apply below_alloc | apply pw_below_drewN | apply below_drew1) | exact HB.out)) hb); clear HB; have HB := n0_; clear n0_; (try clear hb); (try clear hb2); (try clear hk); (try clear hi))); try go_wp2_with (first | (go_at_call 19; (with_reducible refine (kind_Is.calls k4 8 ((rd_T35 l0 x12_4).f2) t296 _ A32.out).mono ?_); rintro e w35 ⟨rfl, hb⟩; have n0_ := Aside0.mk (below_step (by repeat (first | (with_reducible first | exact HB.out | apply below_alloc | apply pw_below_drewN | apply below_drew1) | exact HB.out)) hb); clear HB; have HB := n0_; clear n0_; (try clear hb); (try clear hb2); (try clear hk); (try clear hi))))
                                      go_roundg k4
                                      case measure => have := HJ6.out; have := HK2.out; have := HJ21.out; have := HK4.out; omega
                                      case rel => exact ⟨(wrap64 (x12_4 + 1)), (by first | rfl | (simp; done) | (simp [*]; done)), H', ⟨by have := HJ6.out; have := HK2.out; have := HJ21.out; have := HK4.out; omega⟩, ⟨by repeat (first | (with_reducible first | exact HB.out | apply below_alloc | apply pw_below_drewN | apply below_drew1) | exact HB.out)⟩⟩
                                · rw [if_neg c29] at H
                                  have c29b0 : (((rd_T35 l0 x12_4).f1) == 0) = false := beq_eq_false_iff_ne.mpr c29
                                  have c29b1 : (((rd_T35 l0 x12_4).f1) != 0) = true := bne_iff_ne.mpr c29
                                  by_cases c36 : (false != (decide (x12_4 ≥ t291))) = true
                                  · rw [if_pos c36] at H
                                    have c36b0 : (false != (decide (x12_4 ≥ t291))) = true := c36
                                    (try (have c36b1 : decide (false = (decide (x12_4 ≥ t291))) = false := by simpa using c36))
                                    (try (have c36b2 : (false == (decide (x12_4 ≥ t291))) = false := by simpa using c36))
                                    (try (have c36b3 : ¬ (false = (decide (x12_4 ≥ t291))) := by simpa using c36))
                                    clear c36
                                    obtain rfl := Option.some.inj H
                                    have p293 : 0 ≤ (x12_4 : Int) := of_decide_eq_true (by first | (with_reducible assumption) | assumption)
                                    have q293 : x12_4 < (l0.length : Int) := of_decide_eq_true (by first | (with_reducible assumption) | assumption)
                                    obtain ⟨ad293, e293, hx293_0, hx293_1, hx293_2⟩ := at_T35 HR0.out x12_4 p293 q293
                                    cases e293
                                    replace hx293_0 := (HB.out.cell (World.block_lt_of_cell? w _ hx293_0)).trans hx293_0
                                    replace hx293_1 := (HB.out.cell (World.block_lt_of_cell? w _ hx293_1)).trans hx293_1
                                    replace hx293_2 := (HB.out.cell (World.block_lt_of_cell? w _ hx293_2)).trans hx293_2
                                    replace p293 := eq_true p293
                                    replace q293 := eq_true q293
                                    go_wp2
                                    repeat (go_quiet (fail); try go_wp2)
                                    go_ret
                                    exact ⟨by first | rfl | (simp [errW_none, errW_some] <;> rfl) | (simp [*, errW_none, errW_some] <;> rfl), by repeat (first | (with_reducible first | exact HB.out | apply below_alloc | apply pw_below_drewN | apply below_drew1) | exact HB.out)⟩
                                  · rw [if_neg c36] at H
                                    have c36b0 : (false != (decide (x12_4 ≥ t291))) = false := by simpa using c36
                                    (try (have c36b1 : decide (false = (decide (x12_4 ≥ t291))) = true := by simpa using c36))
                                    (try (have c36b2 : (false == (decide (x12_4 ≥ t291))) = true := by simpa using c36))
                                    clear c36
                                    have H' := Aside0.mk H
                                    clear H
                                    have p293 : 0 ≤ (x12_4 : Int) := of_decide_eq_true (by first | (with_reducible assumption) | assumption)
                                    have q293 : x12_4 < (l0.length : Int) := of_decide_eq_true (by first | (with_reducible assumption) | assumption)
                                    obtain ⟨ad293, e293, hx293_0, hx293_1, hx293_2⟩ := at_T35 HR0.out x12_4 p293 q293
                                    cases e293
                                    replace hx293_0 := (HB.out.cell (World.block_lt_of_cell? w _ hx293_0)).trans hx293_0
                                    replace hx293_1 := (HB.out.cell (World.block_lt_of_cell? w _ hx293_1)).trans hx293_1
                                    replace hx293_2 := (HB.out.cell (World.block_lt_of_cell? w _ hx293_2)).trans hx293_2
                                    replace p293 := eq_true p293
                                    replace q293 := eq_true q293
                                    go_wp2
                                    repeat (go_quiet (fail); try go_wp2)
                                    go_roundg k4
                                    case measure => have := HJ6.out; have := HK2.out; have := HJ21.out; have := HK4.out; omega
                                    case rel => exact ⟨(wrap64 (x12_4 + 1)), (by first | rfl | (simp; done) | (simp [*]; done)), H', ⟨by have := HJ6.out; have := HK2.out; have := HJ21.out; have := HK4.out; omega⟩, ⟨by repeat (first | (with_reducible first | exact HB.out | apply below_alloc | apply pw_below_drewN | apply below_drew1) | exact HB.out)⟩⟩
                              · rw [if_neg c28] at H
                                exact absurd H (by simp)
                          · rw [if_neg c26] at H
                            have c26b0 : decide (x12_4 < (l0.length : Int)) = false := decide_eq_false c26
                            clear c26
                            replace H := Option.bind_eq_some_iff.mp H
                            obtain ⟨t292, A370, H⟩ := H
                            replace H : (some t292) = some r := H
                            have A37 := Aside0.mk A370
                            clear A370
                            obtain rfl := Option.some.inj H
                            go_wp2_with (first | (go_at_call 10; (with_reducible refine (marginalialaw06_alive.calls k4  t292 _ A37.out).mono ?_); rintro e w38 ⟨rfl, hb⟩; have n0_ := Aside0.mk (below_step (by repeat (first | (with_reducible first | exact HB.out | apply below_alloc | apply pw_below_drewN | apply below_drew1) | exact HB.out)) hb); clear HB; have HB := n0_; clear n0_; (try clear hb); (try clear hb2); (try clear hk); (try clear hi)))
                            repeat (go_quiet (first | (go_at_call 10; (with_reducible refine (marginalialaw06_alive.calls k4  t292 _ A37.out).mono ?_); rintro e w38 ⟨rfl, hb⟩; have n0_ := Aside0.mk (below_step (by repeat (first | (with_reducible first | exact HB.out | apply below_alloc | apply pw_below_drewN | apply below_drew1) | exact HB.out)) hb); clear HB; have HB := n0_; clear n0_; (try clear hb); (try clear hb2); (try clear hk); (try clear hi))); try go_wp2_with (first | (go_at_call 10; (with_reducible refine (marginalialaw06_alive.calls k4  t292 _ A37.out).mono ?_); rintro e w38 ⟨rfl, hb⟩; have n0_ := Aside0.mk (below_step (by repeat (first | (with_reducible first | exact HB.out | apply below_alloc | apply pw_below_drewN | apply below_drew1) | exact HB.out)) hb); clear HB; have HB := n0_; clear n0_; (try clear hb); (try clear hb2); (try clear hk); (try clear hi))))
                            go_ret
                            exact ⟨by first | rfl | (simp [errW_none, errW_some] <;> rfl) | (simp [*, errW_none, errW_some] <;> rfl), by repeat (first | (with_reducible first | exact HB.out | apply below_alloc | apply pw_below_drewN | apply below_drew1) | exact HB.out)⟩
  · replace c5 := Bool.eq_false_iff.mpr c5
    subst c5
    have H1 : ((marginalialaw06_alive.f k).bind fun t286 => (some t286)) = some r := by rw [if_neg (show ¬ (false = true) by decide)] at H; exact H
    clear H
    have H := H1
    clear H1
    replace H := Option.bind_eq_some_iff.mp H
    obtain ⟨t286, A390, H⟩ := H
    replace H : (some t286) = some r := H
    have A39 := Aside0.mk A390
    clear A390
    obtain rfl := Option.some.inj H
    go_enter Try.func6, Try.ntmps6
    go_wp2_with (first | (go_at_call 9; (with_reducible refine (marginalialaw06_small.calls _ _ l0 _ _ l1 false _ ?side1 ?side2 ?side3 ?side4 A4.out).mono ?_); (case side1 => repeat (first | exact HR0.out | (with_reducible refine Kd.C_alloc ?_ _) | (with_reducible refine Kd.C_drewN ?_ _) | (with_reducible refine Kd.C_drew ?_))); (case side2 => exact HC0.out); (case side3 => repeat (first | exact HR1.out | (with_reducible refine Kd.C_alloc ?_ _) | (with_reducible refine Kd.C_drewN ?_ _) | (with_reducible refine Kd.C_drew ?_))); (case side4 => exact HC1.out); rintro e w' ⟨rfl, ⟨nd, rfl⟩⟩; (try first | exact ⟨rfl, _, World.drewN_drewN _ _ _⟩ | exact ⟨rfl, _, Eq.trans (World.drewN_drewN _ _ _) (congrArg (World.drewN _) (Nat.add_assoc _ _ _))⟩)) | (go_at_call 10; (with_reducible refine (marginalialaw06_alive.calls k  t286 _ A39.out).mono ?_); rintro e w40 ⟨rfl, hb⟩; have n0_ := Aside0.mk (below_step (by repeat (first | (with_reducible first | exact HB.out | apply below_alloc | apply pw_below_drewN | apply below_drew1) | exact HB.out)) hb); clear HB; have HB := n0_; clear n0_; (try clear hb); (try clear hb2); (try clear hk); (try clear hi)))
    repeat (go_quiet (first | (go_at_call 9; (with_reducible refine (marginalialaw06_small.calls _ _ l0 _ _ l1 false _ ?side1 ?side2 ?side3 ?side4 A4.out).mono ?_); (case side1 => repeat (first | exact HR0.out | (with_reducible refine Kd.C_alloc ?_ _) | (with_reducible refine Kd.C_drewN ?_ _) | (with_reducible refine Kd.C_drew ?_))); (case side2 => exact HC0.out); (case side3 => repeat (first | exact HR1.out | (with_reducible refine Kd.C_alloc ?_ _) | (with_reducible refine Kd.C_drewN ?_ _) | (with_reducible refine Kd.C_drew ?_))); (case side4 => exact HC1.out); rintro e w' ⟨rfl, ⟨nd, rfl⟩⟩; (try first | exact ⟨rfl, _, World.drewN_drewN _ _ _⟩ | exact ⟨rfl, _, Eq.trans (World.drewN_drewN _ _ _) (congrArg (World.drewN _) (Nat.add_assoc _ _ _))⟩)) | (go_at_call 10; (with_reducible refine (marginalialaw06_alive.calls k  t286 _ A39.out).mono ?_); rintro e w40 ⟨rfl, hb⟩; have n0_ := Aside0.mk (below_step (by repeat (first | (with_reducible first | exact HB.out | apply below_alloc | apply pw_below_drewN | apply below_drew1) | exact HB.out)) hb); clear HB; have HB := n0_; clear n0_; (try clear hb); (try clear hb2); (try clear hk); (try clear hi))); try go_wp2_with (first | (go_at_call 9; (with_reducible refine (marginalialaw06_small.calls _ _ l0 _ _ l1 false _ ?side1 ?side2 ?side3 ?side4 A4.out).mono ?_); (case side1 => repeat (first | exact HR0.out | (with_reducible refine Kd.C_alloc ?_ _) | (with_reducible refine Kd.C_drewN ?_ _) | (with_reducible refine Kd.C_drew ?_))); (case side2 => exact HC0.out); (case side3 => repeat (first | exact HR1.out | (with_reducible refine Kd.C_alloc ?_ _) | (with_reducible refine Kd.C_drewN ?_ _) | (with_reducible refine Kd.C_drew ?_))); (case side4 => exact HC1.out); rintro e w' ⟨rfl, ⟨nd, rfl⟩⟩; (try first | exact ⟨rfl, _, World.drewN_drewN _ _ _⟩ | exact ⟨rfl, _, Eq.trans (World.drewN_drewN _ _ _) (congrArg (World.drewN _) (Nat.add_assoc _ _ _))⟩)) | (go_at_call 10; (with_reducible refine (marginalialaw06_alive.calls k  t286 _ A39.out).mono ?_); rintro e w40 ⟨rfl, hb⟩; have n0_ := Aside0.mk (below_step (by repeat (first | (with_reducible first | exact HB.out | apply below_alloc | apply pw_below_drewN | apply below_drew1) | exact HB.out)) hb); clear HB; have HB := n0_; clear n0_; (try clear hb); (try clear hb2); (try clear hk); (try clear hi))))
    go_ret
    exact ⟨by first | rfl | (simp [errW_none, errW_some] <;> rfl) | (simp [*, errW_none, errW_some] <;> rfl), by repeat (first | (with_reducible first | exact HB.out | apply below_alloc | apply pw_below_drewN | apply below_drew1) | exact HB.out)⟩

end Go.Proofs.Ytobdmbebgdkelaa.PAll
