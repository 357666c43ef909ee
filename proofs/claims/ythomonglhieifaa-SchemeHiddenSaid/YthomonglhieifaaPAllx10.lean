-- Written by a program of this session (hprint.py: the kit's print over several laws at once, with functions proved by hand). Lean checks it.
import Derived.Test.YthomonglhieifaaPAllx0
import Derived.Test.YthomonglhieifaaPAllx6
import Derived.Test.YthomonglhieifaaPAllx7
namespace Go.Proofs.Ythomonglhieifaa.PAll
open Go.RowKit Go.Proofs.YthomonglhieifaaW.PrintWords Go.Proofs.YthomonglhieifaaW.PrintLast Go.Proofs.YthomonglhieifaaW.PrintMore
attribute [local go_sem] max2_int min2_int max_two min_two max_three min_three max_four min_four   -- for this text's walks alone
set_option linter.unusedVariables false
set_option linter.unusedSimpArgs false

-- EXT marginalia/marginalialaw10.SchemeHidden ; rounds=1 ; making=1 ; uses=marginalia/marginalialaw10.alive|marginalia/scheme.Of
def marginalialaw10_SchemeHidden.j0 : Nat → ByteArray → Int → Int → Bool → Option (Bool)
  | 0, _, _, _, _ => none
  | k + 1, x0, x1, x2, x29 => if x29 = true then ((marginalialaw10_alive.f k).bind fun t149 => (some t149)) else ((scheme_Of.f k x0).bind fun bt150 => (if 0 ≤ x1 then (if x1 ≤ (x0.size : Int) then (if (x0.extract 0 (x1 : Int).toNat).size + 1 ≤ 9223372036854775807 then (if ((x0.extract 0 (x1 : Int).toNat) ++ (⟨#[9]⟩ : ByteArray)).size + (x0.extract (x1 : Int).toNat x0.size).size ≤ 9223372036854775807 then ((scheme_Of.f k (((x0.extract 0 (x1 : Int).toNat) ++ (⟨#[9]⟩ : ByteArray)) ++ (x0.extract (x1 : Int).toNat x0.size))).bind fun bt152 => (if ((x0.extract 0 (x1 : Int).toNat) ++ (⟨#[10]⟩ : ByteArray)).size + (x0.extract (x1 : Int).toNat x0.size).size ≤ 9223372036854775807 then ((scheme_Of.f k (((x0.extract 0 (x1 : Int).toNat) ++ (⟨#[10]⟩ : ByteArray)) ++ (x0.extract (x1 : Int).toNat x0.size))).bind fun bt154 => (if ((x0.extract 0 (x1 : Int).toNat) ++ (⟨#[13]⟩ : ByteArray)).size + (x0.extract (x1 : Int).toNat x0.size).size ≤ 9223372036854775807 then ((scheme_Of.f k (((x0.extract 0 (x1 : Int).toNat) ++ (⟨#[13]⟩ : ByteArray)) ++ (x0.extract (x1 : Int).toNat x0.size))).bind fun bt156 => ((some (([Go.bits .and .u8 x2 31] : List Int) : List Int)).bind fun y158 => (if (strOfNums y158).size + 1 ≤ 9223372036854775807 then (if ((strOfNums y158) ++ (⟨#[32]⟩ : ByteArray)).size + x0.size ≤ 9223372036854775807 then ((scheme_Of.f k (((strOfNums y158) ++ (⟨#[32]⟩ : ByteArray)) ++ x0)).bind fun bt161 => ((marginalialaw10_alive.f k).bind fun t163 => (if t163 = true then (if bt150.1.toList = bt152.1.toList then (if bt150.1.toList = bt154.1.toList then (if bt150.1.toList = bt156.1.toList then (if bt150.1.toList = bt161.1.toList then (if (bt150.2 == bt152.2) = true then (if (bt150.2 == bt154.2) = true then (if (bt150.2 == bt156.2) = true then (some (bt150.2 == bt161.2)) else (some false)) else (some false)) else (some false)) else (some false)) else (some false)) else (some false)) else (some false)) else (some false)))) else (none)) else (none)))) else (none))) else (none))) else (none)) else (none)) else (none)) else (none)))
def marginalialaw10_SchemeHidden.f (k : Nat) (a0 : ByteArray) (a1 : Int) (a2 : Int) : Option (Bool) := if (a0.size : Int) > 200 then (marginalialaw10_SchemeHidden.j0 k a0 a1 a2 true) else (if a1 < 0 then (marginalialaw10_SchemeHidden.j0 k a0 a1 a2 true) else (marginalialaw10_SchemeHidden.j0 k a0 a1 a2 (decide (a1 > (a0.size : Int)))))
theorem marginalialaw10_SchemeHidden.mono_l : ∀ k, (∀ y0 y1 y2 y3, LeO (marginalialaw10_SchemeHidden.j0 k y0 y1 y2 y3) (marginalialaw10_SchemeHidden.j0 (k + 1) y0 y1 y2 y3))
  | 0 => fun _ _ _ _ r h => by simp [marginalialaw10_SchemeHidden.j0] at h
  | k + 1 => by
    have ih0 := marginalialaw10_SchemeHidden.mono_l k
    · intro y0 y1 y2 y3
      unfold marginalialaw10_SchemeHidden.j0
      repeat' first
      | (with_reducible exact ih0 _ _ _ _)
      | (with_reducible exact marginalialaw10_alive.mono _)
      | (with_reducible exact scheme_Of.mono _ _)
      | (with_reducible exact LeO.refl _)
      | (with_reducible exact LeO.none _)
      | (with_reducible refine LeO.ite ?_ ?_)
      | (with_reducible refine LeO.bind ?_ (fun _ => ?_))
      | exact ih0 _ _ _ _
      | exact marginalialaw10_alive.mono _
      | exact scheme_Of.mono _ _
      | exact LeO.none _
      | refine LeO.ite ?_ ?_
      | refine LeO.bind ?_ (fun _ => ?_)
theorem marginalialaw10_SchemeHidden.mono : ∀ a0 a1 a2 k, LeO (marginalialaw10_SchemeHidden.f k a0 a1 a2) (marginalialaw10_SchemeHidden.f (k + 1) a0 a1 a2) := by
  intro a0 a1 a2 k
  have ih0 := marginalialaw10_SchemeHidden.mono_l k
  unfold marginalialaw10_SchemeHidden.f
  repeat' first
      | (with_reducible exact ih0 _ _ _ _)
      | (with_reducible exact marginalialaw10_alive.mono _)
      | (with_reducible exact scheme_Of.mono _ _)
      | (with_reducible exact LeO.refl _)
      | (with_reducible exact LeO.none _)
      | (with_reducible refine LeO.ite ?_ ?_)
      | (with_reducible refine LeO.bind ?_ (fun _ => ?_))
      | exact ih0 _ _ _ _
      | exact marginalialaw10_alive.mono _
      | exact scheme_Of.mono _ _
      | exact LeO.none _
      | refine LeO.ite ?_ ?_
      | refine LeO.bind ?_ (fun _ => ?_)
def marginalialaw10_SchemeHidden.T4 : Bool × List (List Nat × List Nat) := (true, [([], []), ([], []), ([0, 1], [0, 1]), ([2], [2]), ([], []), ([], []), ([4, 5], [4, 5]), ([3, 6], [3, 6]), ([7], [7]), ([8], [8]), ([9], [9]), ([9], [9]), ([10, 8, 0, 1, 2, 3, 4, 5, 6, 7, 8, 9, 10], [10]), ([11, 12, 0, 1, 2, 3, 4, 5, 6, 7, 8, 9, 10, 11, 12], [11])])
def marginalialaw10_SchemeHidden.B4 : List Nat := [0, 0, 3, 7, 0, 0, 48, 127, 255, 511, 1023, 1023, 2047, 8191]
theorem marginalialaw10_SchemeHidden.tab4 : rtab .any (opsOf Try.f5 4) = marginalialaw10_SchemeHidden.T4 := by kernel_rfl
theorem marginalialaw10_SchemeHidden.bits4 : waitsOk marginalialaw10_SchemeHidden.T4.2 marginalialaw10_SchemeHidden.B4 = true := by kernel_rfl
def marginalialaw10_SchemeHidden.T5 : Bool × List (List Nat × List Nat) := (true, [([], []), ([], []), ([0, 1], [0, 1]), ([2], [2]), ([], []), ([], []), ([4, 5], [4, 5]), ([3, 6], [3, 6]), ([7], [7]), ([8], [8]), ([9], [9]), ([9], [9]), ([10, 8, 0, 1, 2, 3, 4, 5, 6, 7, 8, 9, 10], [10]), ([11, 12, 0, 1, 2, 3, 4, 5, 6, 7, 8, 9, 10, 11, 12], [11])])
def marginalialaw10_SchemeHidden.B5 : List Nat := [0, 0, 3, 7, 0, 0, 48, 127, 255, 511, 1023, 1023, 2047, 8191]
theorem marginalialaw10_SchemeHidden.tab5 : rtab .any (opsOf Try.f5 5) = marginalialaw10_SchemeHidden.T5 := by kernel_rfl
theorem marginalialaw10_SchemeHidden.bits5 : waitsOk marginalialaw10_SchemeHidden.T5.2 marginalialaw10_SchemeHidden.B5 = true := by kernel_rfl
def marginalialaw10_SchemeHidden.T6 : Bool × List (List Nat × List Nat) := (true, [([], []), ([], []), ([0, 1], [0, 1]), ([2], [2]), ([], []), ([], []), ([4, 5], [4, 5]), ([3, 6], [3, 6]), ([7], [7]), ([8], [8]), ([9], [9]), ([9], [9]), ([10, 8, 0, 1, 2, 3, 4, 5, 6, 7, 8, 9, 10], [10]), ([11, 12, 0, 1, 2, 3, 4, 5, 6, 7, 8, 9, 10, 11, 12], [11])])
def marginalialaw10_SchemeHidden.B6 : List Nat := [0, 0, 3, 7, 0, 0, 48, 127, 255, 511, 1023, 1023, 2047, 8191]
theorem marginalialaw10_SchemeHidden.tab6 : rtab .any (opsOf Try.f5 6) = marginalialaw10_SchemeHidden.T6 := by kernel_rfl
theorem marginalialaw10_SchemeHidden.bits6 : waitsOk marginalialaw10_SchemeHidden.T6.2 marginalialaw10_SchemeHidden.B6 = true := by kernel_rfl
set_option maxHeartbeats 8000000 in
set_option maxRecDepth 100000 in
theorem marginalialaw10_SchemeHidden.calls (k : Nat) (a0 : ByteArray) (a1 : Int) (a2 : Int) (w : World) (h : marginalialaw10_SchemeHidden.f k a0 a1 a2 = some true) :
    Calls Try.prog 5 #[.string a0, .int .i64 a1, .int .u8 a2] w fun e w' => e = .returned (.bool true) ∧ Below w.heap.size w w' := by
  have HB := Aside0.mk (Below.refl w.heap.size w)
  have H : (if (a0.size : Int) > 200 then (marginalialaw10_SchemeHidden.j0 k a0 a1 a2 true) else (if a1 < 0 then (marginalialaw10_SchemeHidden.j0 k a0 a1 a2 true) else (marginalialaw10_SchemeHidden.j0 k a0 a1 a2 (decide (a1 > (a0.size : Int)))))) = some true := h
  clear h
  have HC4 := Aside0.mk H
  clear H
  go_enter Try.func5, Try.ntmps5
  go_upto_region 1 with (fail)
  go_cut [29] (fun v29 wc => ∃ (kq : Nat) (x29_3 : Bool), v29 = .bool x29_3 ∧ Aside0 (marginalialaw10_SchemeHidden.j0 kq a0 a1 a2 x29_3 = some true) ∧ Aside0 (kq ≤ k) ∧ Aside0 (Below w.heap.size w wc))
  case first =>
    have H := HC4.out
    clear HC4
    by_cases c5 : (a0.size : Int) > 200
    · rw [if_pos c5] at H
      have c5b0 : decide (200 < (a0.size : Int)) = true := decide_eq_true c5
      have c5b1 : decide (200 < a0.size) = true := decide_eq_true (by omega)
      clear c5
      (first | rw [c5b0] | (simp only [i64_w, i32_w]; rw [c5b0]) | skip)
      have H' := Aside0.mk H
      clear H
      go_wp2
      go_meet
      case rel => exact ⟨_, (true), (by first | rfl | (simp; done) | (simp [*]; done)), H', ⟨by first | omega | exact Nat.le_refl _⟩, ⟨by repeat (first | (with_reducible first | exact HB.out | apply below_alloc | apply pw_below_drewN | apply below_drew1) | exact HB.out)⟩⟩
    · rw [if_neg c5] at H
      have c5b0 : decide (200 < (a0.size : Int)) = false := decide_eq_false c5
      have c5b1 : decide (200 < a0.size) = false := decide_eq_false (by omega)
      clear c5
      (first | rw [c5b0] | (simp only [i64_w, i32_w]; rw [c5b0]) | skip)
      by_cases c6 : a1 < 0
      · rw [if_pos c6] at H
        have c6b0 : decide (a1 < 0) = true := decide_eq_true c6
        clear c6
        have H' := Aside0.mk H
        clear H
        go_wp2
        go_meet
        case rel => exact ⟨_, (true), (by first | rfl | (simp; done) | (simp [*]; done)), H', ⟨by first | omega | exact Nat.le_refl _⟩, ⟨by repeat (first | (with_reducible first | exact HB.out | apply below_alloc | apply pw_below_drewN | apply below_drew1) | exact HB.out)⟩⟩
      · rw [if_neg c6] at H
        have c6b0 : decide (a1 < 0) = false := decide_eq_false c6
        clear c6
        have H' := Aside0.mk H
        clear H
        go_wp2
        go_meet
        case rel => exact ⟨_, (decide (a1 > (a0.size : Int))), (by first | rfl | (simp; done) | (simp [*]; done)), H', ⟨by first | omega | exact Nat.le_refl _⟩, ⟨by repeat (first | (with_reducible first | exact HB.out | apply below_alloc | apply pw_below_drewN | apply below_drew1) | exact HB.out)⟩⟩
  case rest =>
    clear HC4
    try clear p2
    try clear c5
    try clear c5b0
    try clear c5b1
    try clear c6
    try clear c6b0
    obtain ⟨kq, x29_3, rfl, HA, HJ3, HB⟩ := hcut
    cases kq with
    | zero => exact absurd HA.out (by simp [marginalialaw10_SchemeHidden.j0])
    | succ kj3 =>
      have H := HA.out
      clear HA
      simp only [marginalialaw10_SchemeHidden.j0] at H
      by_cases c7 : x29_3 = true
      · subst c7
        have H1 : ((marginalialaw10_alive.f kj3).bind fun t149 => (some t149)) = some true := by rw [if_pos rfl] at H; exact H
        clear H
        have H := H1
        clear H1
        replace H := Option.bind_eq_some_iff.mp H
        obtain ⟨t149, A80, H⟩ := H
        replace H : (some t149) = some true := H
        have A8 := Aside0.mk A80
        clear A80
        have hq_ := Option.some.inj H
        clear H
        go_wp2_with (first | ((with_reducible refine gate_callee (f := 8) rfl ?_); refine goesL_ (some 30) rfl rfl Try.func8 (by kernel_rfl) rfl #[] rfl (by (try simp only [List.map_toArray, List.map_cons, List.map_nil]); first | done | rfl | (simp only [List.length_drop, List.length_take]; rfl)) ?_; (with_reducible refine (marginalialaw10_alive.calls kj3  t149 _ A8.out).mono ?_); rintro e w9 ⟨rfl, hb⟩; refine ⟨_, rfl, ?_⟩; have n0_ := Aside0.mk (below_step (by repeat (first | (with_reducible first | exact HB.out | apply below_alloc | apply pw_below_drewN | apply below_drew1) | exact HB.out)) hb); clear HB; have HB := n0_; clear n0_; (try clear hb); (try clear hb2); (try clear hk); (try clear hi)))
        go_ret
        exact ⟨by first | rfl | (simp [errW_none, errW_some] <;> rfl) | (simp [*, errW_none, errW_some] <;> rfl), by repeat (first | (with_reducible first | exact HB.out | apply below_alloc | apply pw_below_drewN | apply below_drew1) | exact HB.out)⟩
      · replace c7 := Bool.eq_false_iff.mpr c7
        subst c7
        have H1 : ((scheme_Of.f kj3 a0).bind fun bt150 => (if 0 ≤ a1 then (if a1 ≤ (a0.size : Int) then (if (a0.extract 0 (a1 : Int).toNat).size + 1 ≤ 9223372036854775807 then (if ((a0.extract 0 (a1 : Int).toNat) ++ (⟨#[9]⟩ : ByteArray)).size + (a0.extract (a1 : Int).toNat a0.size).size ≤ 9223372036854775807 then ((scheme_Of.f kj3 (((a0.extract 0 (a1 : Int).toNat) ++ (⟨#[9]⟩ : ByteArray)) ++ (a0.extract (a1 : Int).toNat a0.size))).bind fun bt152 => (if ((a0.extract 0 (a1 : Int).toNat) ++ (⟨#[10]⟩ : ByteArray)).size + (a0.extract (a1 : Int).toNat a0.size).size ≤ 9223372036854775807 then ((scheme_Of.f kj3 (((a0.extract 0 (a1 : Int).toNat) ++ (⟨#[10]⟩ : ByteArray)) ++ (a0.extract (a1 : Int).toNat a0.size))).bind fun bt154 => (if ((a0.extract 0 (a1 : Int).toNat) ++ (⟨#[13]⟩ : ByteArray)).size + (a0.extract (a1 : Int).toNat a0.size).size ≤ 9223372036854775807 then ((scheme_Of.f kj3 (((a0.extract 0 (a1 : Int).toNat) ++ (⟨#[13]⟩ : ByteArray)) ++ (a0.extract (a1 : Int).toNat a0.size))).bind fun bt156 => ((some (([Go.bits .and .u8 a2 31] : List Int) : List Int)).bind fun y158 => (if (strOfNums y158).size + 1 ≤ 9223372036854775807 then (if ((strOfNums y158) ++ (⟨#[32]⟩ : ByteArray)).size + a0.size ≤ 9223372036854775807 then ((scheme_Of.f kj3 (((strOfNums y158) ++ (⟨#[32]⟩ : ByteArray)) ++ a0)).bind fun bt161 => ((marginalialaw10_alive.f kj3).bind fun t163 => (if t163 = true then (if bt150.1.toList = bt152.1.toList then (if bt150.1.toList = bt154.1.toList then (if bt150.1.toList = bt156.1.toList then (if bt150.1.toList = bt161.1.toList then (if (bt150.2 == bt152.2) = true then (if (bt150.2 == bt154.2) = true then (if (bt150.2 == bt156.2) = true then (some (bt150.2 == bt161.2)) else (some false)) else (some false)) else (some false)) else (some false)) else (some false)) else (some false)) else (some false)) else (some false)))) else (none)) else (none)))) else (none))) else (none))) else (none)) else (none)) else (none)) else (none))) = some true := by rw [if_neg (show ¬ (false = true) by decide)] at H; exact H
        clear H
        have H := H1
        clear H1
        replace H := Option.bind_eq_some_iff.mp H
        obtain ⟨⟨t150, t151⟩, A100, H⟩ := H
        replace H : (if 0 ≤ a1 then (if a1 ≤ (a0.size : Int) then (if (a0.extract 0 (a1 : Int).toNat).size + 1 ≤ 9223372036854775807 then (if ((a0.extract 0 (a1 : Int).toNat) ++ (⟨#[9]⟩ : ByteArray)).size + (a0.extract (a1 : Int).toNat a0.size).size ≤ 9223372036854775807 then ((scheme_Of.f kj3 (((a0.extract 0 (a1 : Int).toNat) ++ (⟨#[9]⟩ : ByteArray)) ++ (a0.extract (a1 : Int).toNat a0.size))).bind fun bt152 => (if ((a0.extract 0 (a1 : Int).toNat) ++ (⟨#[10]⟩ : ByteArray)).size + (a0.extract (a1 : Int).toNat a0.size).size ≤ 9223372036854775807 then ((scheme_Of.f kj3 (((a0.extract 0 (a1 : Int).toNat) ++ (⟨#[10]⟩ : ByteArray)) ++ (a0.extract (a1 : Int).toNat a0.size))).bind fun bt154 => (if ((a0.extract 0 (a1 : Int).toNat) ++ (⟨#[13]⟩ : ByteArray)).size + (a0.extract (a1 : Int).toNat a0.size).size ≤ 9223372036854775807 then ((scheme_Of.f kj3 (((a0.extract 0 (a1 : Int).toNat) ++ (⟨#[13]⟩ : ByteArray)) ++ (a0.extract (a1 : Int).toNat a0.size))).bind fun bt156 => ((some (([Go.bits .and .u8 a2 31] : List Int) : List Int)).bind fun y158 => (if (strOfNums y158).size + 1 ≤ 9223372036854775807 then (if ((strOfNums y158) ++ (⟨#[32]⟩ : ByteArray)).size + a0.size ≤ 9223372036854775807 then ((scheme_Of.f kj3 (((strOfNums y158) ++ (⟨#[32]⟩ : ByteArray)) ++ a0)).bind fun bt161 => ((marginalialaw10_alive.f kj3).bind fun t163 => (if t163 = true then (if t150.toList = bt152.1.toList then (if t150.toList = bt154.1.toList then (if t150.toList = bt156.1.toList then (if t150.toList = bt161.1.toList then (if (t151 == bt152.2) = true then (if (t151 == bt154.2) = true then (if (t151 == bt156.2) = true then (some (t151 == bt161.2)) else (some false)) else (some false)) else (some false)) else (some false)) else (some false)) else (some false)) else (some false)) else (some false)))) else (none)) else (none)))) else (none))) else (none))) else (none)) else (none)) else (none)) else (none)) = some true := H
        have A10 := Aside0.mk A100
        clear A100
        by_cases c11 : 0 ≤ a1
        · rw [if_pos c11] at H
          have c11b0 := eq_true c11
          have c11b1 : decide (0 ≤ a1) = true := decide_eq_true c11
          clear c11
          by_cases c12 : a1 ≤ (a0.size : Int)
          · rw [if_pos c12] at H
            have c12b0 := eq_true c12
            have c12b1 : decide (a1 ≤ (a0.size : Int)) = true := decide_eq_true c12
            clear c12
            by_cases c13 : (a0.extract 0 (a1 : Int).toNat).size + 1 ≤ 9223372036854775807
            · rw [if_pos c13] at H
              have c13b0 := eq_true c13
              have hz1 : (a0.extract 0 (a1 : Int).toNat).size = a1.toNat := by have q1 := of_eq_true c12b0; have q2 := of_eq_true c11b0; rw [ByteArray.size_extract]; omega
              have z13 : (9223372036854775807 < a1.toNat + 1) = False := eq_false (by omega)
              have HZ1 := Aside0.mk hz1
              clear hz1
              have c13b1 : decide ((a0.extract 0 (a1 : Int).toNat).size + 1 ≤ 9223372036854775807) = true := decide_eq_true c13
              try have c13b2 : (9223372036854775807 < (a0.extract 0 (a1 : Int).toNat).size + 1) = False := eq_false (Nat.not_lt.2 c13)
              have c14b0 := eq_true (of_decide_eq_true (by first | (with_reducible assumption) | assumption) : 0 ≤ a1)
              have c15b0 := eq_true (of_decide_eq_true (by first | (with_reducible assumption) | assumption) : a1 ≤ (a0.size : Int))
              by_cases c16 : ((a0.extract 0 (a1 : Int).toNat) ++ (⟨#[9]⟩ : ByteArray)).size + (a0.extract (a1 : Int).toNat a0.size).size ≤ 9223372036854775807
              · rw [if_pos c16] at H
                have c16b0 := eq_true c16
                have z16 : (9223372036854775807 < a1.toNat + 1 + (a0.size - a1.toNat)) = False := eq_false (by have h1 := HZ1.out; have h2 := c16; simp only [ByteArray.size_append, h1, ByteArray.size_extract] at h2; rw [show (⟨#[9]⟩ : ByteArray).size = 1 from rfl] at h2; omega)
                have c16b1 : decide (((a0.extract 0 (a1 : Int).toNat) ++ (⟨#[9]⟩ : ByteArray)).size + (a0.extract (a1 : Int).toNat a0.size).size ≤ 9223372036854775807) = true := decide_eq_true c16
                try have c16b2 : (9223372036854775807 < ((a0.extract 0 (a1 : Int).toNat) ++ (⟨#[9]⟩ : ByteArray)).size + (a0.extract (a1 : Int).toNat a0.size).size) = False := eq_false (Nat.not_lt.2 c16)
                replace H := Option.bind_eq_some_iff.mp H
                obtain ⟨⟨t152, t153⟩, A170, H⟩ := H
                replace H : (if ((a0.extract 0 (a1 : Int).toNat) ++ (⟨#[10]⟩ : ByteArray)).size + (a0.extract (a1 : Int).toNat a0.size).size ≤ 9223372036854775807 then ((scheme_Of.f kj3 (((a0.extract 0 (a1 : Int).toNat) ++ (⟨#[10]⟩ : ByteArray)) ++ (a0.extract (a1 : Int).toNat a0.size))).bind fun bt154 => (if ((a0.extract 0 (a1 : Int).toNat) ++ (⟨#[13]⟩ : ByteArray)).size + (a0.extract (a1 : Int).toNat a0.size).size ≤ 9223372036854775807 then ((scheme_Of.f kj3 (((a0.extract 0 (a1 : Int).toNat) ++ (⟨#[13]⟩ : ByteArray)) ++ (a0.extract (a1 : Int).toNat a0.size))).bind fun bt156 => ((some (([Go.bits .and .u8 a2 31] : List Int) : List Int)).bind fun y158 => (if (strOfNums y158).size + 1 ≤ 9223372036854775807 then (if ((strOfNums y158) ++ (⟨#[32]⟩ : ByteArray)).size + a0.size ≤ 9223372036854775807 then ((scheme_Of.f kj3 (((strOfNums y158) ++ (⟨#[32]⟩ : ByteArray)) ++ a0)).bind fun bt161 => ((marginalialaw10_alive.f kj3).bind fun t163 => (if t163 = true then (if t150.toList = t152.toList then (if t150.toList = bt154.1.toList then (if t150.toList = bt156.1.toList then (if t150.toList = bt161.1.toList then (if (t151 == t153) = true then (if (t151 == bt154.2) = true then (if (t151 == bt156.2) = true then (some (t151 == bt161.2)) else (some false)) else (some false)) else (some false)) else (some false)) else (some false)) else (some false)) else (some false)) else (some false)))) else (none)) else (none)))) else (none))) else (none)) = some true := H
                have A17 := Aside0.mk A170
                clear A170
                have c18b0 := eq_true (of_decide_eq_true (by first | (with_reducible assumption) | assumption) : 0 ≤ a1)
                have c19b0 := eq_true (of_decide_eq_true (by first | (with_reducible assumption) | assumption) : a1 ≤ (a0.size : Int))
                have c20b0 := eq_true (of_decide_eq_true (by first | (with_reducible assumption) | assumption) : 0 ≤ a1)
                have c21b0 := eq_true (of_decide_eq_true (by first | (with_reducible assumption) | assumption) : a1 ≤ (a0.size : Int))
                by_cases c22 : ((a0.extract 0 (a1 : Int).toNat) ++ (⟨#[10]⟩ : ByteArray)).size + (a0.extract (a1 : Int).toNat a0.size).size ≤ 9223372036854775807
                · rw [if_pos c22] at H
                  have c22b0 := eq_true c22
                  have c22b1 : decide (((a0.extract 0 (a1 : Int).toNat) ++ (⟨#[10]⟩ : ByteArray)).size + (a0.extract (a1 : Int).toNat a0.size).size ≤ 9223372036854775807) = true := decide_eq_true c22
                  try have c22b2 : (9223372036854775807 < ((a0.extract 0 (a1 : Int).toNat) ++ (⟨#[10]⟩ : ByteArray)).size + (a0.extract (a1 : Int).toNat a0.size).size) = False := eq_false (Nat.not_lt.2 c22)
                  replace H := Option.bind_eq_some_iff.mp H
                  obtain ⟨⟨t154, t155⟩, A230, H⟩ := H
                  replace H : (if ((a0.extract 0 (a1 : Int).toNat) ++ (⟨#[13]⟩ : ByteArray)).size + (a0.extract (a1 : Int).toNat a0.size).size ≤ 9223372036854775807 then ((scheme_Of.f kj3 (((a0.extract 0 (a1 : Int).toNat) ++ (⟨#[13]⟩ : ByteArray)) ++ (a0.extract (a1 : Int).toNat a0.size))).bind fun bt156 => ((some (([Go.bits .and .u8 a2 31] : List Int) : List Int)).bind fun y158 => (if (strOfNums y158).size + 1 ≤ 9223372036854775807 then (if ((strOfNums y158) ++ (⟨#[32]⟩ : ByteArray)).size + a0.size ≤ 9223372036854775807 then ((scheme_Of.f kj3 (((strOfNums y158) ++ (⟨#[32]⟩ : ByteArray)) ++ a0)).bind fun bt161 => ((marginalialaw10_alive.f kj3).bind fun t163 => (if t163 = true then (if t150.toList = t152.toList then (if t150.toList = t154.toList then (if t150.toList = bt156.1.toList then (if t150.toList = bt161.1.toList then (if (t151 == t153) = true then (if (t151 == t155) = true then (if (t151 == bt156.2) = true then (some (t151 == bt161.2)) else (some false)) else (some false)) else (some false)) else (some false)) else (some false)) else (some false)) else (some false)) else (some false)))) else (none)) else (none)))) else (none)) = some true := H
                  have A23 := Aside0.mk A230
                  clear A230
                  have c24b0 := eq_true (of_decide_eq_true (by first | (with_reducible assumption) | assumption) : 0 ≤ a1)
                  have c25b0 := eq_true (of_decide_eq_true (by first | (with_reducible assumption) | assumption) : a1 ≤ (a0.size : Int))
                  have c26b0 := eq_true (of_decide_eq_true (by first | (with_reducible assumption) | assumption) : 0 ≤ a1)
                  have c27b0 := eq_true (of_decide_eq_true (by first | (with_reducible assumption) | assumption) : a1 ≤ (a0.size : Int))
                  by_cases c28 : ((a0.extract 0 (a1 : Int).toNat) ++ (⟨#[13]⟩ : ByteArray)).size + (a0.extract (a1 : Int).toNat a0.size).size ≤ 9223372036854775807
                  · rw [if_pos c28] at H
                    have c28b0 := eq_true c28
                    have c28b1 : decide (((a0.extract 0 (a1 : Int).toNat) ++ (⟨#[13]⟩ : ByteArray)).size + (a0.extract (a1 : Int).toNat a0.size).size ≤ 9223372036854775807) = true := decide_eq_true c28
                    try have c28b2 : (9223372036854775807 < ((a0.extract 0 (a1 : Int).toNat) ++ (⟨#[13]⟩ : ByteArray)).size + (a0.extract (a1 : Int).toNat a0.size).size) = False := eq_false (Nat.not_lt.2 c28)
                    replace H := Option.bind_eq_some_iff.mp H
                    obtain ⟨⟨t156, t157⟩, A290, H⟩ := H
                    replace H : ((some (([Go.bits .and .u8 a2 31] : List Int) : List Int)).bind fun y158 => (if (strOfNums y158).size + 1 ≤ 9223372036854775807 then (if ((strOfNums y158) ++ (⟨#[32]⟩ : ByteArray)).size + a0.size ≤ 9223372036854775807 then ((scheme_Of.f kj3 (((strOfNums y158) ++ (⟨#[32]⟩ : ByteArray)) ++ a0)).bind fun bt161 => ((marginalialaw10_alive.f kj3).bind fun t163 => (if t163 = true then (if t150.toList = t152.toList then (if t150.toList = t154.toList then (if t150.toList = t156.toList then (if t150.toList = bt161.1.toList then (if (t151 == t153) = true then (if (t151 == t155) = true then (if (t151 == t157) = true then (some (t151 == bt161.2)) else (some false)) else (some false)) else (some false)) else (some false)) else (some false)) else (some false)) else (some false)) else (some false)))) else (none)) else (none))) = some true := H
                    have A29 := Aside0.mk A290
                    clear A290
                    obtain ⟨y158, hy158⟩ : ∃ y_ : List Int, y_ = (([Go.bits .and .u8 a2 31] : List Int)) := ⟨_, rfl⟩
                    replace H : (if (strOfNums y158).size + 1 ≤ 9223372036854775807 then (if ((strOfNums y158) ++ (⟨#[32]⟩ : ByteArray)).size + a0.size ≤ 9223372036854775807 then ((scheme_Of.f kj3 (((strOfNums y158) ++ (⟨#[32]⟩ : ByteArray)) ++ a0)).bind fun bt161 => ((marginalialaw10_alive.f kj3).bind fun t163 => (if t163 = true then (if t150.toList = t152.toList then (if t150.toList = t154.toList then (if t150.toList = t156.toList then (if t150.toList = bt161.1.toList then (if (t151 == t153) = true then (if (t151 == t155) = true then (if (t151 == t157) = true then (some (t151 == bt161.2)) else (some false)) else (some false)) else (some false)) else (some false)) else (some false)) else (some false)) else (some false)) else (some false)))) else (none)) else (none)) = some true := by first | (rw [hy158]; with_reducible exact H) | (have H2_ := (Option.bind_some _ _).symm.trans H; rw [hy158]; with_reducible exact H2_) | (have H2_ := (Option.bind_some _ _).symm.trans H; with_reducible exact H2_) | with_reducible exact H | (rw [hy158]; exact H) | exact H
                    have Ny158 := Aside0.mk hy158
                    clear hy158
                    by_cases c30 : (strOfNums y158).size + 1 ≤ 9223372036854775807
                    · rw [if_pos c30] at H
                      have c30b0 := eq_true c30
                      have c30b1 : decide ((strOfNums y158).size + 1 ≤ 9223372036854775807) = true := decide_eq_true c30
                      try have c30b2 : (9223372036854775807 < (strOfNums y158).size + 1) = False := eq_false (Nat.not_lt.2 c30)
                      by_cases c31 : ((strOfNums y158) ++ (⟨#[32]⟩ : ByteArray)).size + a0.size ≤ 9223372036854775807
                      · rw [if_pos c31] at H
                        have c31b0 := eq_true c31
                        have c31b1 : decide (((strOfNums y158) ++ (⟨#[32]⟩ : ByteArray)).size + a0.size ≤ 9223372036854775807) = true := decide_eq_true c31
                        try have c31b2 : (9223372036854775807 < ((strOfNums y158) ++ (⟨#[32]⟩ : ByteArray)).size + a0.size) = False := eq_false (Nat.not_lt.2 c31)
                        replace H := Option.bind_eq_some_iff.mp H
                        obtain ⟨⟨t161, t162⟩, A320, H⟩ := H
                        replace H : ((marginalialaw10_alive.f kj3).bind fun t163 => (if t163 = true then (if t150.toList = t152.toList then (if t150.toList = t154.toList then (if t150.toList = t156.toList then (if t150.toList = t161.toList then (if (t151 == t153) = true then (if (t151 == t155) = true then (if (t151 == t157) = true then (some (t151 == t162)) else (some false)) else (some false)) else (some false)) else (some false)) else (some false)) else (some false)) else (some false)) else (some false))) = some true := H
                        have A32 := Aside0.mk A320
                        clear A320
                        replace H := Option.bind_eq_some_iff.mp H
                        obtain ⟨t163, A330, H⟩ := H
                        replace H : (if t163 = true then (if t150.toList = t152.toList then (if t150.toList = t154.toList then (if t150.toList = t156.toList then (if t150.toList = t161.toList then (if (t151 == t153) = true then (if (t151 == t155) = true then (if (t151 == t157) = true then (some (t151 == t162)) else (some false)) else (some false)) else (some false)) else (some false)) else (some false)) else (some false)) else (some false)) else (some false)) = some true := H
                        have A33 := Aside0.mk A330
                        clear A330
                        by_cases c34 : t163 = true
                        · subst c34
                          have H1 : (if t150.toList = t152.toList then (if t150.toList = t154.toList then (if t150.toList = t156.toList then (if t150.toList = t161.toList then (if (t151 == t153) = true then (if (t151 == t155) = true then (if (t151 == t157) = true then (some (t151 == t162)) else (some false)) else (some false)) else (some false)) else (some false)) else (some false)) else (some false)) else (some false)) = some true := by rw [if_pos rfl] at H; exact H
                          clear H
                          have H := H1
                          clear H1
                          by_cases c35 : t150.toList = t152.toList
                          · rw [if_pos c35] at H
                            have c35b0 : (t150.toList == t152.toList) = true := beq_iff_eq.mpr c35
                            have c35b1 : (t150.toList != t152.toList) = false := bne_eq_false_iff_eq.mpr c35
                            clear c35
                            by_cases c36 : t150.toList = t154.toList
                            · rw [if_pos c36] at H
                              have c36b0 : (t150.toList == t154.toList) = true := beq_iff_eq.mpr c36
                              have c36b1 : (t150.toList != t154.toList) = false := bne_eq_false_iff_eq.mpr c36
                              clear c36
                              by_cases c37 : t150.toList = t156.toList
                              · rw [if_pos c37] at H
                                have c37b0 : (t150.toList == t156.toList) = true := beq_iff_eq.mpr c37
                                have c37b1 : (t150.toList != t156.toList) = false := bne_eq_false_iff_eq.mpr c37
                                clear c37
                                by_cases c38 : t150.toList = t161.toList
                                · rw [if_pos c38] at H
                                  have c38b0 : (t150.toList == t161.toList) = true := beq_iff_eq.mpr c38
                                  have c38b1 : (t150.toList != t161.toList) = false := bne_eq_false_iff_eq.mpr c38
                                  clear c38
                                  by_cases c39 : (t151 == t153) = true
                                  · rw [if_pos c39] at H
                                    have c39b0 : (t151 == t153) = true := c39
                                    (try (have c39b1 : decide (t151 = t153) = true := by simpa using c39))
                                    (try (have c39b2 : (t151 == t153) = true := by simpa using c39))
                                    clear c39
                                    by_cases c40 : (t151 == t155) = true
                                    · rw [if_pos c40] at H
                                      have c40b0 : (t151 == t155) = true := c40
                                      (try (have c40b1 : decide (t151 = t155) = true := by simpa using c40))
                                      (try (have c40b2 : (t151 == t155) = true := by simpa using c40))
                                      clear c40
                                      by_cases c41 : (t151 == t157) = true
                                      · rw [if_pos c41] at H
                                        have c41b0 : (t151 == t157) = true := c41
                                        (try (have c41b1 : decide (t151 = t157) = true := by simpa using c41))
                                        (try (have c41b2 : (t151 == t157) = true := by simpa using c41))
                                        clear c41
                                        have hq_ := Option.some.inj H
                                        clear H
                                        try go_wp2_with (first | ((with_reducible refine gate_callee (f := 9) rfl ?_); refine goesL_ (some 33) rfl rfl Try.func9 (by kernel_rfl) rfl #[.string a0] rfl (by (try simp only [List.map_toArray, List.map_cons, List.map_nil]); first | done | rfl | (simp only [List.length_drop, List.length_take]; rfl)) ?_; (with_reducible refine (scheme_Of.calls kj3 a0 t150 t151 _ A10.out).mono ?_); rintro e w42 ⟨rfl, hb⟩; refine ⟨_, rfl, ?_⟩; have n0_ := Aside0.mk (below_step (by repeat (first | (with_reducible first | exact HB.out | apply below_alloc | apply pw_below_drewN | apply below_drew1) | exact HB.out)) hb); clear HB; have HB := n0_; clear n0_; (try clear hb); (try clear hb2); (try clear hk); (try clear hi)))
                                        have n0_ := Aside0.mk (below_drew1 HB.out)
                                        clear HB
                                        have HB := n0_
                                        clear n0_
                                        refine start_ (n := 14) (S := fun w' => True) (ds := []) #[false, false, false, false, false, false, false, false, false, false, false, false, false, false] (by kernel_rfl) rfl rfl trivial (fun hHeld => ?_); refine with_tabW marginalialaw10_SchemeHidden.tab4 marginalialaw10_SchemeHidden.bits4 (fun HT_ HW_ => ?_)
                                        generalize w42.drew = w43 at HB hHeld ⊢
                                        refine pure_ (i := 0) (N := some 37) (v := ?_) (a' := ?_) #[true, false, false, false, false, false, false, false, false, false, false, false, false, false] rfl rfl (any_of HT_.out (by kernel_rfl)) (fun _ _ _ h => h) (Or.inl ⟨by rfl, ?_⟩) ?_ ?_
                                        rotate_left
                                        · intro w'
                                          go_simp
                                          with_reducible rfl
                                        rotate_left
                                        · simp only [Act.put, List.setIfInBounds_toArray, List.set_cons_zero, List.set_cons_succ, i64_w, i32_w]
                                          rfl
                                        refine pure_ (i := 1) (N := some 38) (v := ?_) (a' := ?_) #[true, true, false, false, false, false, false, false, false, false, false, false, false, false] rfl rfl (any_of HT_.out (by kernel_rfl)) (fun _ _ _ h => h) (Or.inl ⟨by rfl, ?_⟩) ?_ ?_
                                        rotate_left
                                        · intro w'
                                          go_simp
                                          with_reducible rfl
                                        rotate_left
                                        · simp only [Act.put, List.setIfInBounds_toArray, List.set_cons_zero, List.set_cons_succ, i64_w, i32_w]
                                          rfl
                                        refine pure_ (i := 2) (N := some 39) (v := ?_) (a' := ?_) #[true, true, true, false, false, false, false, false, false, false, false, false, false, false] rfl rfl (any_of HT_.out (by kernel_rfl)) (fun _ _ _ h => h) (Or.inl ⟨by rfl, ?_⟩) ?_ ?_
                                        rotate_left
                                        · intro w'
                                          go_simp
                                          with_reducible rfl
                                        rotate_left
                                        · simp only [Act.put, List.setIfInBounds_toArray, List.set_cons_zero, List.set_cons_succ, i64_w, i32_w]
                                          rfl
                                        refine pure_ (i := 3) (N := some 40) (v := ?_) (a' := ?_) #[true, true, true, true, false, false, false, false, false, false, false, false, false, false] rfl rfl (any_of HT_.out (by kernel_rfl)) (fun _ _ _ h => h) (Or.inl ⟨by rfl, ?_⟩) ?_ ?_
                                        rotate_left
                                        · intro w'
                                          go_simp
                                          with_reducible rfl
                                        rotate_left
                                        · simp only [Act.put, List.setIfInBounds_toArray, List.set_cons_zero, List.set_cons_succ, i64_w, i32_w]
                                          rfl
                                        refine pure_ (i := 4) (N := some 41) (v := ?_) (a' := ?_) #[true, true, true, true, true, false, false, false, false, false, false, false, false, false] rfl rfl (any_of HT_.out (by kernel_rfl)) (fun _ _ _ h => h) (Or.inl ⟨by rfl, ?_⟩) ?_ ?_
                                        rotate_left
                                        · intro w'
                                          go_simp
                                          with_reducible rfl
                                        rotate_left
                                        · simp only [Act.put, List.setIfInBounds_toArray, List.set_cons_zero, List.set_cons_succ, i64_w, i32_w]
                                          rfl
                                        refine pure_ (i := 5) (N := some 42) (v := ?_) (a' := ?_) #[true, true, true, true, true, true, false, false, false, false, false, false, false, false] rfl rfl (any_of HT_.out (by kernel_rfl)) (fun _ _ _ h => h) (Or.inl ⟨by rfl, ?_⟩) ?_ ?_
                                        rotate_left
                                        · intro w'
                                          go_simp
                                          with_reducible rfl
                                        rotate_left
                                        · simp only [Act.put, List.setIfInBounds_toArray, List.set_cons_zero, List.set_cons_succ, i64_w, i32_w]
                                          rfl
                                        refine pure_ (i := 6) (N := some 43) (v := ?_) (a' := ?_) #[true, true, true, true, true, true, true, false, false, false, false, false, false, false] rfl rfl (any_of HT_.out (by kernel_rfl)) (fun _ _ _ h => h) (Or.inl ⟨by rfl, ?_⟩) ?_ ?_
                                        rotate_left
                                        · intro w'
                                          go_simp
                                          with_reducible rfl
                                        rotate_left
                                        · simp only [Act.put, List.setIfInBounds_toArray, List.set_cons_zero, List.set_cons_succ, i64_w, i32_w]
                                          rfl
                                        refine pure_ (i := 7) (N := some 44) (v := ?_) (a' := ?_) #[true, true, true, true, true, true, true, true, false, false, false, false, false, false] rfl rfl (any_of HT_.out (by kernel_rfl)) (fun _ _ _ h => h) (Or.inl ⟨by rfl, ?_⟩) ?_ ?_
                                        rotate_left
                                        · intro w'
                                          go_simp
                                          with_reducible rfl
                                        rotate_left
                                        · simp only [Act.put, List.setIfInBounds_toArray, List.set_cons_zero, List.set_cons_succ, i64_w, i32_w]
                                          rfl
                                        refine one_ (i := 8) (N := some 45) #[true, true, true, true, true, true, true, true, true, false, false, false, false, false] rfl rfl (one_of HT_.out (by kernel_rfl)) (by decide) (fun K hK => ?_)
                                        refine goes_ Try.func9 (by kernel_rfl) rfl #[.string (((a0.extract 0 (a1 : Int).toNat) ++ (⟨#[9]⟩ : ByteArray)) ++ (a0.extract (a1 : Int).toNat a0.size))] (by rfl) rfl rfl (by (try simp only [List.map_toArray, List.map_cons, List.map_nil]); first | done | rfl | (simp only [List.length_drop, List.length_take]; rfl)) ?_
                                        with_reducible refine (scheme_Of.calls kj3 (((a0.extract 0 (a1 : Int).toNat) ++ (⟨#[9]⟩ : ByteArray)) ++ (a0.extract (a1 : Int).toNat a0.size)) t152 t153 _ A17.out).mono ?_
                                        rintro e w44 ⟨rfl, hb⟩
                                        refine ⟨_, rfl, ?_⟩
                                        have n0_ := Aside0.mk (below_step (by repeat (first | (with_reducible first | exact HB.out | apply below_alloc | apply pw_below_drewN | apply below_drew1) | exact HB.out)) hb)
                                        clear HB
                                        have HB := n0_
                                        clear n0_
                                        (try clear hb)
                                        (try clear hb2)
                                        (try clear hk)
                                        (try clear hi)
                                        refine hK.out _ _ trivial (fun hHeld => ?_)
                                        clear hK K
                                        refine norm_ (a' := ?_) ?_ ?_
                                        rotate_left
                                        · show Act.put _ (some 45) _ = _
                                          simp only [Act.put, List.setIfInBounds_toArray, List.set_cons_zero, List.set_cons_succ, i64_w, i32_w]
                                          rfl
                                        refine pure_ (i := 9) (N := some 36) (v := ?_) (a' := ?_) #[true, true, true, true, true, true, true, true, true, true, false, false, false, false] rfl rfl (any_of HT_.out (by kernel_rfl)) (fun _ _ _ h => h) (Or.inl ⟨by rfl, ?_⟩) ?_ ?_
                                        rotate_left
                                        · intro w'
                                          go_simp
                                          with_reducible rfl
                                        rotate_left
                                        · simp only [Act.put, List.setIfInBounds_toArray, List.set_cons_zero, List.set_cons_succ, i64_w, i32_w]
                                          rfl
                                        refine pure_ (i := 10) (N := some 46) (v := ?_) (a' := ?_) #[true, true, true, true, true, true, true, true, true, true, true, false, false, false] rfl rfl (any_of HT_.out (by kernel_rfl)) (fun _ _ _ h => h) (Or.inl ⟨by rfl, ?_⟩) ?_ ?_
                                        rotate_left
                                        · intro w'
                                          go_simp
                                          with_reducible rfl
                                        rotate_left
                                        · simp only [Act.put, List.setIfInBounds_toArray, List.set_cons_zero, List.set_cons_succ, i64_w, i32_w]
                                          rfl
                                        refine pure_ (i := 11) (N := some 47) (v := ?_) (a' := ?_) #[true, true, true, true, true, true, true, true, true, true, true, true, false, false] rfl rfl (any_of HT_.out (by kernel_rfl)) (fun _ _ _ h => h) (Or.inl ⟨by rfl, ?_⟩) ?_ ?_
                                        rotate_left
                                        · intro w'
                                          go_simp
                                          with_reducible rfl
                                        rotate_left
                                        · simp only [Act.put, List.setIfInBounds_toArray, List.set_cons_zero, List.set_cons_succ, i64_w, i32_w]
                                          rfl
                                        refine pure_ (i := 12) (N := some 9) (v := ?_) (a' := ?_) #[true, true, true, true, true, true, true, true, true, true, true, true, true, false] rfl rfl (any_of HT_.out (by kernel_rfl)) (fun _ _ _ h => h) (Or.inl ⟨by rfl, ?_⟩) ?_ ?_
                                        rotate_left
                                        · intro w'
                                          go_simp
                                          with_reducible rfl
                                        rotate_left
                                        · simp only [Act.put, List.setIfInBounds_toArray, List.set_cons_zero, List.set_cons_succ, i64_w, i32_w]
                                          rfl
                                        refine pure_ (i := 13) (N := some 10) (v := ?_) (a' := ?_) #[true, true, true, true, true, true, true, true, true, true, true, true, true, true] rfl rfl (any_of HT_.out (by kernel_rfl)) (fun _ _ _ h => h) (Or.inl ⟨by rfl, ?_⟩) ?_ ?_
                                        rotate_left
                                        · intro w'
                                          go_simp
                                          with_reducible rfl
                                        rotate_left
                                        · simp only [Act.put, List.setIfInBounds_toArray, List.set_cons_zero, List.set_cons_succ, i64_w, i32_w]
                                          rfl
                                        refine done_ (done_of HT_.out (by kernel_rfl)) ?_
                                        try go_wp2
                                        have n0_ := Aside0.mk (below_drew1 HB.out)
                                        clear HB
                                        have HB := n0_
                                        clear n0_
                                        refine start_ (n := 14) (S := fun w' => True) (ds := []) #[false, false, false, false, false, false, false, false, false, false, false, false, false, false] (by kernel_rfl) rfl rfl trivial (fun hHeld => ?_); refine with_tabW marginalialaw10_SchemeHidden.tab5 marginalialaw10_SchemeHidden.bits5 (fun HT_ HW_ => ?_)
                                        generalize w44.drew = w45 at HB hHeld ⊢
                                        refine pure_ (i := 0) (N := some 49) (v := ?_) (a' := ?_) #[true, false, false, false, false, false, false, false, false, false, false, false, false, false] rfl rfl (any_of HT_.out (by kernel_rfl)) (fun _ _ _ h => h) (Or.inl ⟨by rfl, ?_⟩) ?_ ?_
                                        rotate_left
                                        · intro w'
                                          go_simp
                                          with_reducible rfl
                                        rotate_left
                                        · simp only [Act.put, List.setIfInBounds_toArray, List.set_cons_zero, List.set_cons_succ, i64_w, i32_w]
                                          rfl
                                        refine pure_ (i := 1) (N := some 50) (v := ?_) (a' := ?_) #[true, true, false, false, false, false, false, false, false, false, false, false, false, false] rfl rfl (any_of HT_.out (by kernel_rfl)) (fun _ _ _ h => h) (Or.inl ⟨by rfl, ?_⟩) ?_ ?_
                                        rotate_left
                                        · intro w'
                                          go_simp
                                          with_reducible rfl
                                        rotate_left
                                        · simp only [Act.put, List.setIfInBounds_toArray, List.set_cons_zero, List.set_cons_succ, i64_w, i32_w]
                                          rfl
                                        refine pure_ (i := 2) (N := some 51) (v := ?_) (a' := ?_) #[true, true, true, false, false, false, false, false, false, false, false, false, false, false] rfl rfl (any_of HT_.out (by kernel_rfl)) (fun _ _ _ h => h) (Or.inl ⟨by rfl, ?_⟩) ?_ ?_
                                        rotate_left
                                        · intro w'
                                          go_simp
                                          with_reducible rfl
                                        rotate_left
                                        · simp only [Act.put, List.setIfInBounds_toArray, List.set_cons_zero, List.set_cons_succ, i64_w, i32_w]
                                          rfl
                                        refine pure_ (i := 3) (N := some 52) (v := ?_) (a' := ?_) #[true, true, true, true, false, false, false, false, false, false, false, false, false, false] rfl rfl (any_of HT_.out (by kernel_rfl)) (fun _ _ _ h => h) (Or.inl ⟨by rfl, ?_⟩) ?_ ?_
                                        rotate_left
                                        · intro w'
                                          go_simp
                                          with_reducible rfl
                                        rotate_left
                                        · simp only [Act.put, List.setIfInBounds_toArray, List.set_cons_zero, List.set_cons_succ, i64_w, i32_w]
                                          rfl
                                        refine pure_ (i := 4) (N := some 53) (v := ?_) (a' := ?_) #[true, true, true, true, true, false, false, false, false, false, false, false, false, false] rfl rfl (any_of HT_.out (by kernel_rfl)) (fun _ _ _ h => h) (Or.inl ⟨by rfl, ?_⟩) ?_ ?_
                                        rotate_left
                                        · intro w'
                                          go_simp
                                          with_reducible rfl
                                        rotate_left
                                        · simp only [Act.put, List.setIfInBounds_toArray, List.set_cons_zero, List.set_cons_succ, i64_w, i32_w]
                                          rfl
                                        refine pure_ (i := 5) (N := some 54) (v := ?_) (a' := ?_) #[true, true, true, true, true, true, false, false, false, false, false, false, false, false] rfl rfl (any_of HT_.out (by kernel_rfl)) (fun _ _ _ h => h) (Or.inl ⟨by rfl, ?_⟩) ?_ ?_
                                        rotate_left
                                        · intro w'
                                          go_simp
                                          with_reducible rfl
                                        rotate_left
                                        · simp only [Act.put, List.setIfInBounds_toArray, List.set_cons_zero, List.set_cons_succ, i64_w, i32_w]
                                          rfl
                                        refine pure_ (i := 6) (N := some 55) (v := ?_) (a' := ?_) #[true, true, true, true, true, true, true, false, false, false, false, false, false, false] rfl rfl (any_of HT_.out (by kernel_rfl)) (fun _ _ _ h => h) (Or.inl ⟨by rfl, ?_⟩) ?_ ?_
                                        rotate_left
                                        · intro w'
                                          go_simp
                                          with_reducible rfl
                                        rotate_left
                                        · simp only [Act.put, List.setIfInBounds_toArray, List.set_cons_zero, List.set_cons_succ, i64_w, i32_w]
                                          rfl
                                        refine pure_ (i := 7) (N := some 56) (v := ?_) (a' := ?_) #[true, true, true, true, true, true, true, true, false, false, false, false, false, false] rfl rfl (any_of HT_.out (by kernel_rfl)) (fun _ _ _ h => h) (Or.inl ⟨by rfl, ?_⟩) ?_ ?_
                                        rotate_left
                                        · intro w'
                                          go_simp
                                          with_reducible rfl
                                        rotate_left
                                        · simp only [Act.put, List.setIfInBounds_toArray, List.set_cons_zero, List.set_cons_succ, i64_w, i32_w]
                                          rfl
                                        refine one_ (i := 8) (N := some 57) #[true, true, true, true, true, true, true, true, true, false, false, false, false, false] rfl rfl (one_of HT_.out (by kernel_rfl)) (by decide) (fun K hK => ?_)
                                        refine goes_ Try.func9 (by kernel_rfl) rfl #[.string (((a0.extract 0 (a1 : Int).toNat) ++ (⟨#[10]⟩ : ByteArray)) ++ (a0.extract (a1 : Int).toNat a0.size))] (by rfl) rfl rfl (by (try simp only [List.map_toArray, List.map_cons, List.map_nil]); first | done | rfl | (simp only [List.length_drop, List.length_take]; rfl)) ?_
                                        with_reducible refine (scheme_Of.calls kj3 (((a0.extract 0 (a1 : Int).toNat) ++ (⟨#[10]⟩ : ByteArray)) ++ (a0.extract (a1 : Int).toNat a0.size)) t154 t155 _ A23.out).mono ?_
                                        rintro e w46 ⟨rfl, hb⟩
                                        refine ⟨_, rfl, ?_⟩
                                        have n0_ := Aside0.mk (below_step (by repeat (first | (with_reducible first | exact HB.out | apply below_alloc | apply pw_below_drewN | apply below_drew1) | exact HB.out)) hb)
                                        clear HB
                                        have HB := n0_
                                        clear n0_
                                        (try clear hb)
                                        (try clear hb2)
                                        (try clear hk)
                                        (try clear hi)
                                        refine hK.out _ _ trivial (fun hHeld => ?_)
                                        clear hK K
                                        refine norm_ (a' := ?_) ?_ ?_
                                        rotate_left
                                        · show Act.put _ (some 57) _ = _
                                          simp only [Act.put, List.setIfInBounds_toArray, List.set_cons_zero, List.set_cons_succ, i64_w, i32_w]
                                          rfl
                                        refine pure_ (i := 9) (N := some 48) (v := ?_) (a' := ?_) #[true, true, true, true, true, true, true, true, true, true, false, false, false, false] rfl rfl (any_of HT_.out (by kernel_rfl)) (fun _ _ _ h => h) (Or.inl ⟨by rfl, ?_⟩) ?_ ?_
                                        rotate_left
                                        · intro w'
                                          go_simp
                                          with_reducible rfl
                                        rotate_left
                                        · simp only [Act.put, List.setIfInBounds_toArray, List.set_cons_zero, List.set_cons_succ, i64_w, i32_w]
                                          rfl
                                        refine pure_ (i := 10) (N := some 58) (v := ?_) (a' := ?_) #[true, true, true, true, true, true, true, true, true, true, true, false, false, false] rfl rfl (any_of HT_.out (by kernel_rfl)) (fun _ _ _ h => h) (Or.inl ⟨by rfl, ?_⟩) ?_ ?_
                                        rotate_left
                                        · intro w'
                                          go_simp
                                          with_reducible rfl
                                        rotate_left
                                        · simp only [Act.put, List.setIfInBounds_toArray, List.set_cons_zero, List.set_cons_succ, i64_w, i32_w]
                                          rfl
                                        refine pure_ (i := 11) (N := some 59) (v := ?_) (a' := ?_) #[true, true, true, true, true, true, true, true, true, true, true, true, false, false] rfl rfl (any_of HT_.out (by kernel_rfl)) (fun _ _ _ h => h) (Or.inl ⟨by rfl, ?_⟩) ?_ ?_
                                        rotate_left
                                        · intro w'
                                          go_simp
                                          with_reducible rfl
                                        rotate_left
                                        · simp only [Act.put, List.setIfInBounds_toArray, List.set_cons_zero, List.set_cons_succ, i64_w, i32_w]
                                          rfl
                                        refine pure_ (i := 12) (N := some 11) (v := ?_) (a' := ?_) #[true, true, true, true, true, true, true, true, true, true, true, true, true, false] rfl rfl (any_of HT_.out (by kernel_rfl)) (fun _ _ _ h => h) (Or.inl ⟨by rfl, ?_⟩) ?_ ?_
                                        rotate_left
                                        · intro w'
                                          go_simp
                                          with_reducible rfl
                                        rotate_left
                                        · simp only [Act.put, List.setIfInBounds_toArray, List.set_cons_zero, List.set_cons_succ, i64_w, i32_w]
                                          rfl
                                        refine pure_ (i := 13) (N := some 12) (v := ?_) (a' := ?_) #[true, true, true, true, true, true, true, true, true, true, true, true, true, true] rfl rfl (any_of HT_.out (by kernel_rfl)) (fun _ _ _ h => h) (Or.inl ⟨by rfl, ?_⟩) ?_ ?_
                                        rotate_left
                                        · intro w'
                                          go_simp
                                          with_reducible rfl
                                        rotate_left
                                        · simp only [Act.put, List.setIfInBounds_toArray, List.set_cons_zero, List.set_cons_succ, i64_w, i32_w]
                                          rfl
                                        refine done_ (done_of HT_.out (by kernel_rfl)) ?_
                                        try go_wp2
                                        have n0_ := Aside0.mk (below_drew1 HB.out)
                                        clear HB
                                        have HB := n0_
                                        clear n0_
                                        refine start_ (n := 14) (S := fun w' => True) (ds := []) #[false, false, false, false, false, false, false, false, false, false, false, false, false, false] (by kernel_rfl) rfl rfl trivial (fun hHeld => ?_); refine with_tabW marginalialaw10_SchemeHidden.tab6 marginalialaw10_SchemeHidden.bits6 (fun HT_ HW_ => ?_)
                                        generalize w46.drew = w47 at HB hHeld ⊢
                                        refine pure_ (i := 0) (N := some 61) (v := ?_) (a' := ?_) #[true, false, false, false, false, false, false, false, false, false, false, false, false, false] rfl rfl (any_of HT_.out (by kernel_rfl)) (fun _ _ _ h => h) (Or.inl ⟨by rfl, ?_⟩) ?_ ?_
                                        rotate_left
                                        · intro w'
                                          go_simp
                                          with_reducible rfl
                                        rotate_left
                                        · simp only [Act.put, List.setIfInBounds_toArray, List.set_cons_zero, List.set_cons_succ, i64_w, i32_w]
                                          rfl
                                        refine pure_ (i := 1) (N := some 62) (v := ?_) (a' := ?_) #[true, true, false, false, false, false, false, false, false, false, false, false, false, false] rfl rfl (any_of HT_.out (by kernel_rfl)) (fun _ _ _ h => h) (Or.inl ⟨by rfl, ?_⟩) ?_ ?_
                                        rotate_left
                                        · intro w'
                                          go_simp
                                          with_reducible rfl
                                        rotate_left
                                        · simp only [Act.put, List.setIfInBounds_toArray, List.set_cons_zero, List.set_cons_succ, i64_w, i32_w]
                                          rfl
                                        refine pure_ (i := 2) (N := some 63) (v := ?_) (a' := ?_) #[true, true, true, false, false, false, false, false, false, false, false, false, false, false] rfl rfl (any_of HT_.out (by kernel_rfl)) (fun _ _ _ h => h) (Or.inl ⟨by rfl, ?_⟩) ?_ ?_
                                        rotate_left
                                        · intro w'
                                          go_simp
                                          with_reducible rfl
                                        rotate_left
                                        · simp only [Act.put, List.setIfInBounds_toArray, List.set_cons_zero, List.set_cons_succ, i64_w, i32_w]
                                          rfl
                                        refine pure_ (i := 3) (N := some 64) (v := ?_) (a' := ?_) #[true, true, true, true, false, false, false, false, false, false, false, false, false, false] rfl rfl (any_of HT_.out (by kernel_rfl)) (fun _ _ _ h => h) (Or.inl ⟨by rfl, ?_⟩) ?_ ?_
                                        rotate_left
                                        · intro w'
                                          go_simp
                                          with_reducible rfl
                                        rotate_left
                                        · simp only [Act.put, List.setIfInBounds_toArray, List.set_cons_zero, List.set_cons_succ, i64_w, i32_w]
                                          rfl
                                        refine pure_ (i := 4) (N := some 65) (v := ?_) (a' := ?_) #[true, true, true, true, true, false, false, false, false, false, false, false, false, false] rfl rfl (any_of HT_.out (by kernel_rfl)) (fun _ _ _ h => h) (Or.inl ⟨by rfl, ?_⟩) ?_ ?_
                                        rotate_left
                                        · intro w'
                                          go_simp
                                          with_reducible rfl
                                        rotate_left
                                        · simp only [Act.put, List.setIfInBounds_toArray, List.set_cons_zero, List.set_cons_succ, i64_w, i32_w]
                                          rfl
                                        refine pure_ (i := 5) (N := some 66) (v := ?_) (a' := ?_) #[true, true, true, true, true, true, false, false, false, false, false, false, false, false] rfl rfl (any_of HT_.out (by kernel_rfl)) (fun _ _ _ h => h) (Or.inl ⟨by rfl, ?_⟩) ?_ ?_
                                        rotate_left
                                        · intro w'
                                          go_simp
                                          with_reducible rfl
                                        rotate_left
                                        · simp only [Act.put, List.setIfInBounds_toArray, List.set_cons_zero, List.set_cons_succ, i64_w, i32_w]
                                          rfl
                                        refine pure_ (i := 6) (N := some 67) (v := ?_) (a' := ?_) #[true, true, true, true, true, true, true, false, false, false, false, false, false, false] rfl rfl (any_of HT_.out (by kernel_rfl)) (fun _ _ _ h => h) (Or.inl ⟨by rfl, ?_⟩) ?_ ?_
                                        rotate_left
                                        · intro w'
                                          go_simp
                                          with_reducible rfl
                                        rotate_left
                                        · simp only [Act.put, List.setIfInBounds_toArray, List.set_cons_zero, List.set_cons_succ, i64_w, i32_w]
                                          rfl
                                        refine pure_ (i := 7) (N := some 68) (v := ?_) (a' := ?_) #[true, true, true, true, true, true, true, true, false, false, false, false, false, false] rfl rfl (any_of HT_.out (by kernel_rfl)) (fun _ _ _ h => h) (Or.inl ⟨by rfl, ?_⟩) ?_ ?_
                                        rotate_left
                                        · intro w'
                                          go_simp
                                          with_reducible rfl
                                        rotate_left
                                        · simp only [Act.put, List.setIfInBounds_toArray, List.set_cons_zero, List.set_cons_succ, i64_w, i32_w]
                                          rfl
                                        refine one_ (i := 8) (N := some 69) #[true, true, true, true, true, true, true, true, true, false, false, false, false, false] rfl rfl (one_of HT_.out (by kernel_rfl)) (by decide) (fun K hK => ?_)
                                        refine goes_ Try.func9 (by kernel_rfl) rfl #[.string (((a0.extract 0 (a1 : Int).toNat) ++ (⟨#[13]⟩ : ByteArray)) ++ (a0.extract (a1 : Int).toNat a0.size))] (by rfl) rfl rfl (by (try simp only [List.map_toArray, List.map_cons, List.map_nil]); first | done | rfl | (simp only [List.length_drop, List.length_take]; rfl)) ?_
                                        with_reducible refine (scheme_Of.calls kj3 (((a0.extract 0 (a1 : Int).toNat) ++ (⟨#[13]⟩ : ByteArray)) ++ (a0.extract (a1 : Int).toNat a0.size)) t156 t157 _ A29.out).mono ?_
                                        rintro e w48 ⟨rfl, hb⟩
                                        refine ⟨_, rfl, ?_⟩
                                        have n0_ := Aside0.mk (below_step (by repeat (first | (with_reducible first | exact HB.out | apply below_alloc | apply pw_below_drewN | apply below_drew1) | exact HB.out)) hb)
                                        clear HB
                                        have HB := n0_
                                        clear n0_
                                        (try clear hb)
                                        (try clear hb2)
                                        (try clear hk)
                                        (try clear hi)
                                        refine hK.out _ _ trivial (fun hHeld => ?_)
                                        clear hK K
                                        refine norm_ (a' := ?_) ?_ ?_
                                        rotate_left
                                        · show Act.put _ (some 69) _ = _
                                          simp only [Act.put, List.setIfInBounds_toArray, List.set_cons_zero, List.set_cons_succ, i64_w, i32_w]
                                          rfl
                                        refine pure_ (i := 9) (N := some 60) (v := ?_) (a' := ?_) #[true, true, true, true, true, true, true, true, true, true, false, false, false, false] rfl rfl (any_of HT_.out (by kernel_rfl)) (fun _ _ _ h => h) (Or.inl ⟨by rfl, ?_⟩) ?_ ?_
                                        rotate_left
                                        · intro w'
                                          go_simp
                                          with_reducible rfl
                                        rotate_left
                                        · simp only [Act.put, List.setIfInBounds_toArray, List.set_cons_zero, List.set_cons_succ, i64_w, i32_w]
                                          rfl
                                        refine pure_ (i := 10) (N := some 70) (v := ?_) (a' := ?_) #[true, true, true, true, true, true, true, true, true, true, true, false, false, false] rfl rfl (any_of HT_.out (by kernel_rfl)) (fun _ _ _ h => h) (Or.inl ⟨by rfl, ?_⟩) ?_ ?_
                                        rotate_left
                                        · intro w'
                                          go_simp
                                          with_reducible rfl
                                        rotate_left
                                        · simp only [Act.put, List.setIfInBounds_toArray, List.set_cons_zero, List.set_cons_succ, i64_w, i32_w]
                                          rfl
                                        refine pure_ (i := 11) (N := some 71) (v := ?_) (a' := ?_) #[true, true, true, true, true, true, true, true, true, true, true, true, false, false] rfl rfl (any_of HT_.out (by kernel_rfl)) (fun _ _ _ h => h) (Or.inl ⟨by rfl, ?_⟩) ?_ ?_
                                        rotate_left
                                        · intro w'
                                          go_simp
                                          with_reducible rfl
                                        rotate_left
                                        · simp only [Act.put, List.setIfInBounds_toArray, List.set_cons_zero, List.set_cons_succ, i64_w, i32_w]
                                          rfl
                                        refine pure_ (i := 12) (N := some 13) (v := ?_) (a' := ?_) #[true, true, true, true, true, true, true, true, true, true, true, true, true, false] rfl rfl (any_of HT_.out (by kernel_rfl)) (fun _ _ _ h => h) (Or.inl ⟨by rfl, ?_⟩) ?_ ?_
                                        rotate_left
                                        · intro w'
                                          go_simp
                                          with_reducible rfl
                                        rotate_left
                                        · simp only [Act.put, List.setIfInBounds_toArray, List.set_cons_zero, List.set_cons_succ, i64_w, i32_w]
                                          rfl
                                        refine pure_ (i := 13) (N := some 14) (v := ?_) (a' := ?_) #[true, true, true, true, true, true, true, true, true, true, true, true, true, true] rfl rfl (any_of HT_.out (by kernel_rfl)) (fun _ _ _ h => h) (Or.inl ⟨by rfl, ?_⟩) ?_ ?_
                                        rotate_left
                                        · intro w'
                                          go_simp
                                          with_reducible rfl
                                        rotate_left
                                        · simp only [Act.put, List.setIfInBounds_toArray, List.set_cons_zero, List.set_cons_succ, i64_w, i32_w]
                                          rfl
                                        refine done_ (done_of HT_.out (by kernel_rfl)) ?_
                                        try go_wp2_with (first | ((with_reducible refine gate_dst (N := 75) rfl ?_); (try (refine gate_guard (by rfl) ?_; dsimp only)); refine Kd.R_lit (Kd.int .u8) _ 5 ?hg (N := 75) ?hd (xs := ([Go.bits .and .u8 a2 31] : List Int)) (inner := [.int .u8 (Go.bits .and .u8 a2 31)]) (ok := fun _ => True) (okp := fun _ => True) ?hr ?hp (fun _ hk => hk) trivial (Below.refl _ _) (Nat.le_refl _) (by simp) ?_; (case hd => rfl); (case hg => rfl); (case hr => first | (go_simp; done) | (go_simp; rfl)); (case hp => exact (Reps.one (show Kd.M (Kd.int .u8) _ _ _ (Go.bits .and .u8 a2 31) [.int .u8 (Go.bits .and .u8 a2 31)] from rfl) (Reps.none _ _))); intro v159 w49 ho50 hb hg_ hnew_; clear hg_ hnew_; (first | rw [← Ny158.out] at ho50 | (simp only [Int.reduceToNat] at ho50; rw [← Ny158.out] at ho50)); have n0_ := Aside0.mk (Kd.R_lower ho50 (below_size (by repeat (first | (with_reducible first | exact HB.out | apply below_alloc | apply pw_below_drewN | apply below_drew1) | exact HB.out)))); have n1_ := Aside0.mk (below_step (by repeat (first | (with_reducible first | exact HB.out | apply below_alloc | apply pw_below_drewN | apply below_drew1) | exact HB.out)) hb); clear HB; have HO160 := n0_; have HB := n1_; clear n0_ n1_; clear hb ho50; have hcv51 := own_string (P := Try.prog) Try.underlying28 Try.underlying5 Try.underlying9 (Kd.own_of_R HO160.out)) | ((with_reducible refine gate_callee (f := 9) rfl ?_); refine goesL_ (some 80) rfl rfl Try.func9 (by kernel_rfl) rfl #[.string (((strOfNums y158) ++ (⟨#[32]⟩ : ByteArray)) ++ a0)] rfl (by (try simp only [List.map_toArray, List.map_cons, List.map_nil]); first | done | rfl | (simp only [List.length_drop, List.length_take]; rfl)) ?_; (with_reducible refine (scheme_Of.calls kj3 (((strOfNums y158) ++ (⟨#[32]⟩ : ByteArray)) ++ a0) t161 t162 _ A32.out).mono ?_); rintro e w52 ⟨rfl, hb⟩; refine ⟨_, rfl, ?_⟩; have n0_ := Aside0.mk (Kd.R_below (by (with_reducible repeat (first | apply Kd.R_alloc | apply Kd.R_drewN | apply Kd.R_drew)); exact HO160.out) hb); have n1_ := Aside0.mk (below_step (by repeat (first | (with_reducible first | exact HB.out | apply below_alloc | apply pw_below_drewN | apply below_drew1) | exact HB.out)) hb); clear HO160; clear HB; have HO160 := n0_; have HB := n1_; clear n0_ n1_; (try clear hb); (try clear hb2); (try clear hk); (try clear hi)) | ((with_reducible refine gate_callee (f := 8) rfl ?_); refine goesL_ (some 83) rfl rfl Try.func8 (by kernel_rfl) rfl #[] rfl (by (try simp only [List.map_toArray, List.map_cons, List.map_nil]); first | done | rfl | (simp only [List.length_drop, List.length_take]; rfl)) ?_; (with_reducible refine (marginalialaw10_alive.calls kj3  true _ A33.out).mono ?_); rintro e w53 ⟨rfl, hb⟩; refine ⟨_, rfl, ?_⟩; have n0_ := Aside0.mk (Kd.R_below (by (with_reducible repeat (first | apply Kd.R_alloc | apply Kd.R_drewN | apply Kd.R_drew)); exact HO160.out) hb); have n1_ := Aside0.mk (below_step (by repeat (first | (with_reducible first | exact HB.out | apply below_alloc | apply pw_below_drewN | apply below_drew1) | exact HB.out)) hb); clear HO160; clear HB; have HO160 := n0_; have HB := n1_; clear n0_ n1_; (try clear hb); (try clear hb2); (try clear hk); (try clear hi)))
                                        go_ret
                                        exact ⟨by first | rfl | (simp [errW_none, errW_some] <;> rfl) | (simp [*, errW_none, errW_some] <;> rfl), by repeat (first | (with_reducible first | exact HB.out | apply below_alloc | apply pw_below_drewN | apply below_drew1) | exact HB.out)⟩
                                      · rw [if_neg c41] at H
                                        have c41b0 : (t151 == t157) = false := by simpa using c41
                                        (try (have c41b1 : decide (t151 = t157) = false := by simpa using c41))
                                        (try (have c41b2 : (t151 == t157) = false := by simpa using c41))
                                        (try (have c41b3 : ¬ (t151 = t157) := by simpa using c41))
                                        clear c41
                                        exact absurd H (by simp)
                                    · rw [if_neg c40] at H
                                      have c40b0 : (t151 == t155) = false := by simpa using c40
                                      (try (have c40b1 : decide (t151 = t155) = false := by simpa using c40))
                                      (try (have c40b2 : (t151 == t155) = false := by simpa using c40))
                                      (try (have c40b3 : ¬ (t151 = t155) := by simpa using c40))
                                      clear c40
                                      exact absurd H (by simp)
                                  · rw [if_neg c39] at H
                                    have c39b0 : (t151 == t153) = false := by simpa using c39
                                    (try (have c39b1 : decide (t151 = t153) = false := by simpa using c39))
                                    (try (have c39b2 : (t151 == t153) = false := by simpa using c39))
                                    (try (have c39b3 : ¬ (t151 = t153) := by simpa using c39))
                                    clear c39
                                    exact absurd H (by simp)
                                · rw [if_neg c38] at H
                                  have c38b0 : (t150.toList == t161.toList) = false := beq_eq_false_iff_ne.mpr c38
                                  have c38b1 : (t150.toList != t161.toList) = true := bne_iff_ne.mpr c38
                                  exact absurd H (by simp)
                              · rw [if_neg c37] at H
                                have c37b0 : (t150.toList == t156.toList) = false := beq_eq_false_iff_ne.mpr c37
                                have c37b1 : (t150.toList != t156.toList) = true := bne_iff_ne.mpr c37
                                exact absurd H (by simp)
                            · rw [if_neg c36] at H
                              have c36b0 : (t150.toList == t154.toList) = false := beq_eq_false_iff_ne.mpr c36
                              have c36b1 : (t150.toList != t154.toList) = true := bne_iff_ne.mpr c36
                              exact absurd H (by simp)
                          · rw [if_neg c35] at H
                            have c35b0 : (t150.toList == t152.toList) = false := beq_eq_false_iff_ne.mpr c35
                            have c35b1 : (t150.toList != t152.toList) = true := bne_iff_ne.mpr c35
                            exact absurd H (by simp)
                        · replace c34 := Bool.eq_false_iff.mpr c34
                          subst c34
                          have H1 : (some false) = some true := by rw [if_neg (show ¬ (false = true) by decide)] at H; exact H
                          clear H
                          have H := H1
                          clear H1
                          exact absurd H (by simp)
                      · rw [if_neg c31] at H
                        exact absurd H (by simp)
                    · rw [if_neg c30] at H
                      exact absurd H (by simp)
                  · rw [if_neg c28] at H
                    exact absurd H (by simp)
                · rw [if_neg c22] at H
                  exact absurd H (by simp)
              · rw [if_neg c16] at H
                exact absurd H (by simp)
            · rw [if_neg c13] at H
              exact absurd H (by simp)
          · rw [if_neg c12] at H
            exact absurd H (by simp)
        · rw [if_neg c11] at H
          exact absurd H (by simp)




end Go.Proofs.Ythomonglhieifaa.PAll
