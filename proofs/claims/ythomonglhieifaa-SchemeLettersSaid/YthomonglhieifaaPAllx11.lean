-- Written by a program of this session (hprint.py: the kit's print over several laws at once, with functions proved by hand). Lean checks it.
import Derived.Test.YthomonglhieifaaPAllx0
import Derived.Test.YthomonglhieifaaPAllx6
import Derived.Test.YthomonglhieifaaPAllx7
namespace Go.Proofs.Ythomonglhieifaa.PAll
open Go.RowKit Go.Proofs.YthomonglhieifaaW.PrintWords Go.Proofs.YthomonglhieifaaW.PrintLast Go.Proofs.YthomonglhieifaaW.PrintMore
attribute [local go_sem] max2_int min2_int max_two min_two max_three min_three max_four min_four   -- for this text's walks alone
set_option linter.unusedVariables false
set_option linter.unusedSimpArgs false

/-! ### marginalialaw10_SchemeLetters: function 6 -/
mutual
def marginalialaw10_SchemeLetters.j0 : Nat → ByteArray → ByteArray → Bool → Option (Bool)
  | 0, _, _, _ => none
  | k + 1, x0, x1, x19 => if x19 = true then ((marginalialaw10_alive.f k).bind fun t149 => (some t149)) else ((scheme_Of.f k x0).bind fun bt150 => (if bt150.2 = true then (marginalialaw10_SchemeLetters.l0 k x0 x1 bt150.1 0) else ((marginalialaw10_alive.f k).bind fun t152 => (if t152 = true then (some (bt150.1.toList == ([] : List UInt8))) else (some false)))))
def marginalialaw10_SchemeLetters.l0 : Nat → ByteArray → ByteArray → ByteArray → Int → Option (Bool)
  | 0, _, _, _, _ => none
  | k + 1, x0, x1, x5, x7 => if x7 < (x5.size : Int) then (if 0 ≤ x7 then (if (bt x5 x7) ≥ 97 then (if ((bt x5 x7) ≤ 122) then (marginalialaw10_SchemeLetters.l0 k x0 x1 x5 (wrap64 (x7 + 1))) else (if x7 = 0 then (some false) else (if (bt x5 x7) < 48 then (if (bt x5 x7) = 43 then (marginalialaw10_SchemeLetters.l0 k x0 x1 x5 (wrap64 (x7 + 1))) else (if (bt x5 x7) = 45 then (marginalialaw10_SchemeLetters.l0 k x0 x1 x5 (wrap64 (x7 + 1))) else (if (bt x5 x7) = 46 then (marginalialaw10_SchemeLetters.l0 k x0 x1 x5 (wrap64 (x7 + 1))) else (some false)))) else (if (bt x5 x7) > 57 then (if (bt x5 x7) = 43 then (marginalialaw10_SchemeLetters.l0 k x0 x1 x5 (wrap64 (x7 + 1))) else (if (bt x5 x7) = 45 then (marginalialaw10_SchemeLetters.l0 k x0 x1 x5 (wrap64 (x7 + 1))) else (if (bt x5 x7) = 46 then (marginalialaw10_SchemeLetters.l0 k x0 x1 x5 (wrap64 (x7 + 1))) else (some false)))) else (marginalialaw10_SchemeLetters.l0 k x0 x1 x5 (wrap64 (x7 + 1))))))) else (if x7 = 0 then (some false) else (if (bt x5 x7) < 48 then (if (bt x5 x7) = 43 then (marginalialaw10_SchemeLetters.l0 k x0 x1 x5 (wrap64 (x7 + 1))) else (if (bt x5 x7) = 45 then (marginalialaw10_SchemeLetters.l0 k x0 x1 x5 (wrap64 (x7 + 1))) else (if (bt x5 x7) = 46 then (marginalialaw10_SchemeLetters.l0 k x0 x1 x5 (wrap64 (x7 + 1))) else (some false)))) else (if (bt x5 x7) > 57 then (if (bt x5 x7) = 43 then (marginalialaw10_SchemeLetters.l0 k x0 x1 x5 (wrap64 (x7 + 1))) else (if (bt x5 x7) = 45 then (marginalialaw10_SchemeLetters.l0 k x0 x1 x5 (wrap64 (x7 + 1))) else (if (bt x5 x7) = 46 then (marginalialaw10_SchemeLetters.l0 k x0 x1 x5 (wrap64 (x7 + 1))) else (some false)))) else (marginalialaw10_SchemeLetters.l0 k x0 x1 x5 (wrap64 (x7 + 1))))))) else (none)) else (if x5.size + 1 ≤ 9223372036854775807 then (if (x5 ++ (⟨#[58]⟩ : ByteArray)).size + x1.size ≤ 9223372036854775807 then ((scheme_Of.f k ((x5 ++ (⟨#[58]⟩ : ByteArray)) ++ x1)).bind fun bt153 => ((marginalialaw10_alive.f k).bind fun t155 => (if t155 = true then (if x5.toList = ([] : List UInt8) then (some false) else (if bt153.2 = true then (if x5.toList = bt153.1.toList then ((scheme_Safe.f k x0 (([x5] : List ByteArray))).bind fun t159 => (if t159 = true then ((scheme_Safe.f k x0 (([x5 ++ (⟨#[120]⟩ : ByteArray)] : List ByteArray))).bind fun t163 => (some (!t163))) else (some false))) else (some false)) else (some false))) else (some false)))) else (none)) else (none))
end
def marginalialaw10_SchemeLetters.f (k : Nat) (a0 : ByteArray) (a1 : ByteArray) : Option (Bool) := if (a0.size : Int) > 200 then (marginalialaw10_SchemeLetters.j0 k a0 a1 true) else (marginalialaw10_SchemeLetters.j0 k a0 a1 (decide ((a1.size : Int) > 200)))
theorem marginalialaw10_SchemeLetters.mono_l : ∀ k, (∀ y0 y1 y2, LeO (marginalialaw10_SchemeLetters.j0 k y0 y1 y2) (marginalialaw10_SchemeLetters.j0 (k + 1) y0 y1 y2)) ∧ (∀ y0 y1 y2 y3, LeO (marginalialaw10_SchemeLetters.l0 k y0 y1 y2 y3) (marginalialaw10_SchemeLetters.l0 (k + 1) y0 y1 y2 y3))
  | 0 => ⟨fun _ _ _ r h => by simp [marginalialaw10_SchemeLetters.j0] at h, fun _ _ _ _ r h => by simp [marginalialaw10_SchemeLetters.l0] at h⟩
  | k + 1 => by
    obtain ⟨ih0, ih1⟩ := marginalialaw10_SchemeLetters.mono_l k
    refine ⟨?_, ?_⟩
    · intro y0 y1 y2
      unfold marginalialaw10_SchemeLetters.j0
      repeat' first
      | (with_reducible exact ih0 _ _ _)
      | (with_reducible exact ih1 _ _ _ _)
      | (with_reducible exact marginalialaw10_alive.mono _)
      | (with_reducible exact scheme_Of.mono _ _)
      | (with_reducible exact scheme_Safe.mono _ _ _)
      | (with_reducible exact LeO.refl _)
      | (with_reducible exact LeO.none _)
      | (with_reducible refine LeO.ite ?_ ?_)
      | (with_reducible refine LeO.bind ?_ (fun _ => ?_))
      | exact ih0 _ _ _
      | exact ih1 _ _ _ _
      | exact marginalialaw10_alive.mono _
      | exact scheme_Of.mono _ _
      | exact scheme_Safe.mono _ _ _
      | exact LeO.none _
      | refine LeO.ite ?_ ?_
      | refine LeO.bind ?_ (fun _ => ?_)
    · intro y0 y1 y2 y3
      unfold marginalialaw10_SchemeLetters.l0
      repeat' first
      | (with_reducible exact ih0 _ _ _)
      | (with_reducible exact ih1 _ _ _ _)
      | (with_reducible exact marginalialaw10_alive.mono _)
      | (with_reducible exact scheme_Of.mono _ _)
      | (with_reducible exact scheme_Safe.mono _ _ _)
      | (with_reducible exact LeO.refl _)
      | (with_reducible exact LeO.none _)
      | (with_reducible refine LeO.ite ?_ ?_)
      | (with_reducible refine LeO.bind ?_ (fun _ => ?_))
      | exact ih0 _ _ _
      | exact ih1 _ _ _ _
      | exact marginalialaw10_alive.mono _
      | exact scheme_Of.mono _ _
      | exact scheme_Safe.mono _ _ _
      | exact LeO.none _
      | refine LeO.ite ?_ ?_
      | refine LeO.bind ?_ (fun _ => ?_)
theorem marginalialaw10_SchemeLetters.mono : ∀ a0 a1 k, LeO (marginalialaw10_SchemeLetters.f k a0 a1) (marginalialaw10_SchemeLetters.f (k + 1) a0 a1) := by
  intro a0 a1 k
  obtain ⟨ih0, ih1⟩ := marginalialaw10_SchemeLetters.mono_l k
  unfold marginalialaw10_SchemeLetters.f
  repeat' first
      | (with_reducible exact ih0 _ _ _)
      | (with_reducible exact ih1 _ _ _ _)
      | (with_reducible exact marginalialaw10_alive.mono _)
      | (with_reducible exact scheme_Of.mono _ _)
      | (with_reducible exact scheme_Safe.mono _ _ _)
      | (with_reducible exact LeO.refl _)
      | (with_reducible exact LeO.none _)
      | (with_reducible refine LeO.ite ?_ ?_)
      | (with_reducible refine LeO.bind ?_ (fun _ => ?_))
      | exact ih0 _ _ _
      | exact ih1 _ _ _ _
      | exact marginalialaw10_alive.mono _
      | exact scheme_Of.mono _ _
      | exact scheme_Safe.mono _ _ _
      | exact LeO.none _
      | refine LeO.ite ?_ ?_
      | refine LeO.bind ?_ (fun _ => ?_)
set_option maxHeartbeats 8000000 in
set_option maxRecDepth 100000 in
theorem marginalialaw10_SchemeLetters.calls (k : Nat) (a0 : ByteArray) (a1 : ByteArray) (r : Bool) (w : World) (h : marginalialaw10_SchemeLetters.f k a0 a1 = some r) :
    Calls Try.prog 6 #[.string a0, .string a1] w fun e w' => e = .returned (.bool r) ∧ Below w.heap.size w w' := by
  have HB := Aside0.mk (Below.refl w.heap.size w)
  have H : (if (a0.size : Int) > 200 then (marginalialaw10_SchemeLetters.j0 k a0 a1 true) else (marginalialaw10_SchemeLetters.j0 k a0 a1 (decide ((a1.size : Int) > 200)))) = some r := h
  clear h
  have HC3 := Aside0.mk H
  clear H
  go_enter Try.func6, Try.ntmps6
  go_upto_region 1 with (fail)
  go_cut [19] (fun v19 wc => ∃ (kq : Nat) (x19_2 : Bool), v19 = .bool x19_2 ∧ Aside0 (marginalialaw10_SchemeLetters.j0 kq a0 a1 x19_2 = some r) ∧ Aside0 (kq ≤ k) ∧ Aside0 (Below w.heap.size w wc))
  case first =>
    have H := HC3.out
    clear HC3
    by_cases c4 : (a0.size : Int) > 200
    · rw [if_pos c4] at H
      have c4b0 : decide (200 < (a0.size : Int)) = true := decide_eq_true c4
      have c4b1 : decide (200 < a0.size) = true := decide_eq_true (by omega)
      clear c4
      (first | rw [c4b0] | (simp only [i64_w, i32_w]; rw [c4b0]) | skip)
      have H' := Aside0.mk H
      clear H
      go_wp2
      go_meet
      case rel => exact ⟨_, (true), (by first | rfl | (simp; done) | (simp [*]; done)), H', ⟨by first | omega | exact Nat.le_refl _⟩, ⟨by repeat (first | (with_reducible first | exact HB.out | apply below_alloc | apply pw_below_drewN | apply below_drew1) | exact HB.out)⟩⟩
    · rw [if_neg c4] at H
      have c4b0 : decide (200 < (a0.size : Int)) = false := decide_eq_false c4
      have c4b1 : decide (200 < a0.size) = false := decide_eq_false (by omega)
      clear c4
      (first | rw [c4b0] | (simp only [i64_w, i32_w]; rw [c4b0]) | skip)
      have H' := Aside0.mk H
      clear H
      go_wp2
      go_meet
      case rel => exact ⟨_, (decide ((a1.size : Int) > 200)), (by first | rfl | (simp; done) | (simp [*]; done)), H', ⟨by first | omega | exact Nat.le_refl _⟩, ⟨by repeat (first | (with_reducible first | exact HB.out | apply below_alloc | apply pw_below_drewN | apply below_drew1) | exact HB.out)⟩⟩
  case rest =>
    clear HC3
    try clear p2
    try clear c4
    try clear c4b0
    try clear c4b1
    obtain ⟨kq, x19_2, rfl, HA, HJ2, HB⟩ := hcut
    cases kq with
    | zero => exact absurd HA.out (by simp [marginalialaw10_SchemeLetters.j0])
    | succ kj2 =>
      have H := HA.out
      clear HA
      simp only [marginalialaw10_SchemeLetters.j0] at H
      by_cases c5 : x19_2 = true
      · subst c5
        have H1 : ((marginalialaw10_alive.f kj2).bind fun t149 => (some t149)) = some r := by rw [if_pos rfl] at H; exact H
        clear H
        have H := H1
        clear H1
        replace H := Option.bind_eq_some_iff.mp H
        obtain ⟨t149, A60, H⟩ := H
        replace H : (some t149) = some r := H
        have A6 := Aside0.mk A60
        clear A60
        obtain rfl := Option.some.inj H
        go_wp2_with (first | ((with_reducible refine gate_callee (f := 8) rfl ?_); refine goesL_ (some 20) rfl rfl Try.func8 (by kernel_rfl) rfl #[] rfl (by (try simp only [List.map_toArray, List.map_cons, List.map_nil]); first | done | rfl | (simp only [List.length_drop, List.length_take]; rfl)) ?_; (with_reducible refine (marginalialaw10_alive.calls kj2  t149 _ A6.out).mono ?_); rintro e w7 ⟨rfl, hb⟩; refine ⟨_, rfl, ?_⟩; have n0_ := Aside0.mk (below_step (by repeat (first | (with_reducible first | exact HB.out | apply below_alloc | apply pw_below_drewN | apply below_drew1) | exact HB.out)) hb); clear HB; have HB := n0_; clear n0_; (try clear hb); (try clear hb2); (try clear hk); (try clear hi)))
        go_ret
        exact ⟨by first | rfl | (simp [errW_none, errW_some] <;> rfl) | (simp [*, errW_none, errW_some] <;> rfl), by repeat (first | (with_reducible first | exact HB.out | apply below_alloc | apply pw_below_drewN | apply below_drew1) | exact HB.out)⟩
      · replace c5 := Bool.eq_false_iff.mpr c5
        subst c5
        have H1 : ((scheme_Of.f kj2 a0).bind fun bt150 => (if bt150.2 = true then (marginalialaw10_SchemeLetters.l0 kj2 a0 a1 bt150.1 0) else ((marginalialaw10_alive.f kj2).bind fun t152 => (if t152 = true then (some (bt150.1.toList == ([] : List UInt8))) else (some false))))) = some r := by rw [if_neg (show ¬ (false = true) by decide)] at H; exact H
        clear H
        have H := H1
        clear H1
        replace H := Option.bind_eq_some_iff.mp H
        obtain ⟨⟨t150, t151⟩, A80, H⟩ := H
        replace H : (if t151 = true then (marginalialaw10_SchemeLetters.l0 kj2 a0 a1 t150 0) else ((marginalialaw10_alive.f kj2).bind fun t152 => (if t152 = true then (some (t150.toList == ([] : List UInt8))) else (some false)))) = some r := H
        have A8 := Aside0.mk A80
        clear A80
        by_cases c9 : t151 = true
        · subst c9
          have H1 : (marginalialaw10_SchemeLetters.l0 kj2 a0 a1 t150 0) = some r := by rw [if_pos rfl] at H; exact H
          clear H
          have H := H1
          clear H1
          have H' := Aside0.mk H
          clear H
          go_wp2_with (first | ((with_reducible refine gate_callee (f := 9) rfl ?_); refine goesL_ (some 23) rfl rfl Try.func9 (by kernel_rfl) rfl #[.string a0] rfl (by (try simp only [List.map_toArray, List.map_cons, List.map_nil]); first | done | rfl | (simp only [List.length_drop, List.length_take]; rfl)) ?_; (with_reducible refine (scheme_Of.calls kj2 a0 t150 true _ A8.out).mono ?_); rintro e w10 ⟨rfl, hb⟩; refine ⟨_, rfl, ?_⟩; have n0_ := Aside0.mk (below_step (by repeat (first | (with_reducible first | exact HB.out | apply below_alloc | apply pw_below_drewN | apply below_drew1) | exact HB.out)) hb); clear HB; have HB := n0_; clear n0_; (try clear hb); (try clear hb2); (try clear hk); (try clear hi)))
          go_loopg [7] kj2 (fun kq v7 w' => ∃ (x7_2 : Int), v7 = .int .i64 x7_2 ∧ Aside0 (marginalialaw10_SchemeLetters.l0 kq a0 a1 t150 x7_2 = some r) ∧ Aside0 (kq ≤ kj2) ∧ Aside0 (Below w.heap.size w w'))
          case atStart => exact ⟨(0), (by first | rfl | (simp; done) | (simp [*]; done)), H', ⟨Nat.le_refl _⟩, ⟨by repeat (first | (with_reducible first | exact HB.out | apply below_alloc | apply pw_below_drewN | apply below_drew1) | exact HB.out)⟩⟩
          case round =>
            clear H'
            try clear p2
            try clear c4
            try clear c4b0
            try clear c4b1
            try clear c5
            try clear c6
            try clear c8
            try clear c9
            try clear p2
            obtain ⟨x7_2, rfl, HA, HK2, HB⟩ := hrel
            cases gk with
            | zero => exact absurd HA.out (by simp [marginalialaw10_SchemeLetters.l0])
            | succ k2 =>
              have H := HA.out
              clear HA
              simp only [marginalialaw10_SchemeLetters.l0] at H
              by_cases c11 : x7_2 < (t150.size : Int)
              · rw [if_pos c11] at H
                have c11b0 : decide (x7_2 < (t150.size : Int)) = true := decide_eq_true c11
                clear c11
                by_cases c12 : 0 ≤ x7_2
                · rw [if_pos c12] at H
                  have c12b0 : decide (0 ≤ x7_2) = true := decide_eq_true c12
                  clear c12
                  by_cases c14 : (bt t150 x7_2) ≥ 97
                  · rw [if_pos c14] at H
                    have c14b0 : decide (97 ≤ (bt t150 x7_2)) = true := decide_eq_true c14
                    clear c14
                    by_cases c15 : ((bt t150 x7_2) ≤ 122)
                    · rw [if_pos c15] at H
                      have c15b0 : decide ((bt t150 x7_2) ≤ 122) = true := decide_eq_true c15
                      clear c15
                      have H' := Aside0.mk H
                      clear H
                      have p13 : 0 ≤ (x7_2 : Int) := of_decide_eq_true (by first | (with_reducible assumption) | assumption)
                      have q13 : x7_2 < (t150.size : Int) := of_decide_eq_true (by first | (with_reducible assumption) | assumption)
                      have hx13 := bt_at t150 x7_2
                      replace p13 := eq_true p13
                      replace q13 := eq_true q13
                      go_wp2
                      go_roundg k2
                      case measure => have := HJ2.out; have := HK2.out; omega
                      case rel => exact ⟨(wrap64 (x7_2 + 1)), (by first | rfl | (simp; done) | (simp [*]; done)), H', ⟨by have := HJ2.out; have := HK2.out; omega⟩, ⟨by repeat (first | (with_reducible first | exact HB.out | apply below_alloc | apply pw_below_drewN | apply below_drew1) | exact HB.out)⟩⟩
                    · rw [if_neg c15] at H
                      have c15b0 : decide ((bt t150 x7_2) ≤ 122) = false := decide_eq_false c15
                      clear c15
                      by_cases c16 : x7_2 = 0
                      · rw [if_pos c16] at H
                        have c16b0 : (x7_2 == 0) = true := beq_iff_eq.mpr c16
                        have c16b1 : (x7_2 != 0) = false := bne_eq_false_iff_eq.mpr c16
                        clear c16
                        obtain rfl := Option.some.inj H
                        have p13 : 0 ≤ (x7_2 : Int) := of_decide_eq_true (by first | (with_reducible assumption) | assumption)
                        have q13 : x7_2 < (t150.size : Int) := of_decide_eq_true (by first | (with_reducible assumption) | assumption)
                        have hx13 := bt_at t150 x7_2
                        replace p13 := eq_true p13
                        replace q13 := eq_true q13
                        go_wp2
                        go_ret
                        exact ⟨by first | rfl | (simp [errW_none, errW_some] <;> rfl) | (simp [*, errW_none, errW_some] <;> rfl), by repeat (first | (with_reducible first | exact HB.out | apply below_alloc | apply pw_below_drewN | apply below_drew1) | exact HB.out)⟩
                      · rw [if_neg c16] at H
                        have c16b0 : (x7_2 == 0) = false := beq_eq_false_iff_ne.mpr c16
                        have c16b1 : (x7_2 != 0) = true := bne_iff_ne.mpr c16
                        by_cases c17 : (bt t150 x7_2) < 48
                        · rw [if_pos c17] at H
                          have c17b0 : decide ((bt t150 x7_2) < 48) = true := decide_eq_true c17
                          clear c17
                          by_cases c18 : (bt t150 x7_2) = 43
                          · rw [if_pos c18] at H
                            have c18b0 : ((bt t150 x7_2) == 43) = true := beq_iff_eq.mpr c18
                            have c18b1 : ((bt t150 x7_2) != 43) = false := bne_eq_false_iff_eq.mpr c18
                            clear c18
                            have H' := Aside0.mk H
                            clear H
                            have p13 : 0 ≤ (x7_2 : Int) := of_decide_eq_true (by first | (with_reducible assumption) | assumption)
                            have q13 : x7_2 < (t150.size : Int) := of_decide_eq_true (by first | (with_reducible assumption) | assumption)
                            have hx13 := bt_at t150 x7_2
                            replace p13 := eq_true p13
                            replace q13 := eq_true q13
                            go_wp2
                            go_roundg k2
                            case measure => have := HJ2.out; have := HK2.out; omega
                            case rel => exact ⟨(wrap64 (x7_2 + 1)), (by first | rfl | (simp; done) | (simp [*]; done)), H', ⟨by have := HJ2.out; have := HK2.out; omega⟩, ⟨by repeat (first | (with_reducible first | exact HB.out | apply below_alloc | apply pw_below_drewN | apply below_drew1) | exact HB.out)⟩⟩
                          · rw [if_neg c18] at H
                            have c18b0 : ((bt t150 x7_2) == 43) = false := beq_eq_false_iff_ne.mpr c18
                            have c18b1 : ((bt t150 x7_2) != 43) = true := bne_iff_ne.mpr c18
                            by_cases c19 : (bt t150 x7_2) = 45
                            · rw [if_pos c19] at H
                              have c19b0 : ((bt t150 x7_2) == 45) = true := beq_iff_eq.mpr c19
                              have c19b1 : ((bt t150 x7_2) != 45) = false := bne_eq_false_iff_eq.mpr c19
                              clear c19
                              have H' := Aside0.mk H
                              clear H
                              have p13 : 0 ≤ (x7_2 : Int) := of_decide_eq_true (by first | (with_reducible assumption) | assumption)
                              have q13 : x7_2 < (t150.size : Int) := of_decide_eq_true (by first | (with_reducible assumption) | assumption)
                              have hx13 := bt_at t150 x7_2
                              replace p13 := eq_true p13
                              replace q13 := eq_true q13
                              go_wp2
                              go_roundg k2
                              case measure => have := HJ2.out; have := HK2.out; omega
                              case rel => exact ⟨(wrap64 (x7_2 + 1)), (by first | rfl | (simp; done) | (simp [*]; done)), H', ⟨by have := HJ2.out; have := HK2.out; omega⟩, ⟨by repeat (first | (with_reducible first | exact HB.out | apply below_alloc | apply pw_below_drewN | apply below_drew1) | exact HB.out)⟩⟩
                            · rw [if_neg c19] at H
                              have c19b0 : ((bt t150 x7_2) == 45) = false := beq_eq_false_iff_ne.mpr c19
                              have c19b1 : ((bt t150 x7_2) != 45) = true := bne_iff_ne.mpr c19
                              by_cases c20 : (bt t150 x7_2) = 46
                              · rw [if_pos c20] at H
                                have c20b0 : ((bt t150 x7_2) == 46) = true := beq_iff_eq.mpr c20
                                have c20b1 : ((bt t150 x7_2) != 46) = false := bne_eq_false_iff_eq.mpr c20
                                clear c20
                                have H' := Aside0.mk H
                                clear H
                                have p13 : 0 ≤ (x7_2 : Int) := of_decide_eq_true (by first | (with_reducible assumption) | assumption)
                                have q13 : x7_2 < (t150.size : Int) := of_decide_eq_true (by first | (with_reducible assumption) | assumption)
                                have hx13 := bt_at t150 x7_2
                                replace p13 := eq_true p13
                                replace q13 := eq_true q13
                                go_wp2
                                go_roundg k2
                                case measure => have := HJ2.out; have := HK2.out; omega
                                case rel => exact ⟨(wrap64 (x7_2 + 1)), (by first | rfl | (simp; done) | (simp [*]; done)), H', ⟨by have := HJ2.out; have := HK2.out; omega⟩, ⟨by repeat (first | (with_reducible first | exact HB.out | apply below_alloc | apply pw_below_drewN | apply below_drew1) | exact HB.out)⟩⟩
                              · rw [if_neg c20] at H
                                have c20b0 : ((bt t150 x7_2) == 46) = false := beq_eq_false_iff_ne.mpr c20
                                have c20b1 : ((bt t150 x7_2) != 46) = true := bne_iff_ne.mpr c20
                                obtain rfl := Option.some.inj H
                                have p13 : 0 ≤ (x7_2 : Int) := of_decide_eq_true (by first | (with_reducible assumption) | assumption)
                                have q13 : x7_2 < (t150.size : Int) := of_decide_eq_true (by first | (with_reducible assumption) | assumption)
                                have hx13 := bt_at t150 x7_2
                                replace p13 := eq_true p13
                                replace q13 := eq_true q13
                                go_wp2
                                go_ret
                                exact ⟨by first | rfl | (simp [errW_none, errW_some] <;> rfl) | (simp [*, errW_none, errW_some] <;> rfl), by repeat (first | (with_reducible first | exact HB.out | apply below_alloc | apply pw_below_drewN | apply below_drew1) | exact HB.out)⟩
                        · rw [if_neg c17] at H
                          have c17b0 : decide ((bt t150 x7_2) < 48) = false := decide_eq_false c17
                          clear c17
                          by_cases c21 : (bt t150 x7_2) > 57
                          · rw [if_pos c21] at H
                            have c21b0 : decide (57 < (bt t150 x7_2)) = true := decide_eq_true c21
                            clear c21
                            by_cases c22 : (bt t150 x7_2) = 43
                            · rw [if_pos c22] at H
                              have c22b0 : ((bt t150 x7_2) == 43) = true := beq_iff_eq.mpr c22
                              have c22b1 : ((bt t150 x7_2) != 43) = false := bne_eq_false_iff_eq.mpr c22
                              clear c22
                              have H' := Aside0.mk H
                              clear H
                              have p13 : 0 ≤ (x7_2 : Int) := of_decide_eq_true (by first | (with_reducible assumption) | assumption)
                              have q13 : x7_2 < (t150.size : Int) := of_decide_eq_true (by first | (with_reducible assumption) | assumption)
                              have hx13 := bt_at t150 x7_2
                              replace p13 := eq_true p13
                              replace q13 := eq_true q13
                              go_wp2
                              go_roundg k2
                              case measure => have := HJ2.out; have := HK2.out; omega
                              case rel => exact ⟨(wrap64 (x7_2 + 1)), (by first | rfl | (simp; done) | (simp [*]; done)), H', ⟨by have := HJ2.out; have := HK2.out; omega⟩, ⟨by repeat (first | (with_reducible first | exact HB.out | apply below_alloc | apply pw_below_drewN | apply below_drew1) | exact HB.out)⟩⟩
                            · rw [if_neg c22] at H
                              have c22b0 : ((bt t150 x7_2) == 43) = false := beq_eq_false_iff_ne.mpr c22
                              have c22b1 : ((bt t150 x7_2) != 43) = true := bne_iff_ne.mpr c22
                              by_cases c23 : (bt t150 x7_2) = 45
                              · rw [if_pos c23] at H
                                have c23b0 : ((bt t150 x7_2) == 45) = true := beq_iff_eq.mpr c23
                                have c23b1 : ((bt t150 x7_2) != 45) = false := bne_eq_false_iff_eq.mpr c23
                                clear c23
                                have H' := Aside0.mk H
                                clear H
                                have p13 : 0 ≤ (x7_2 : Int) := of_decide_eq_true (by first | (with_reducible assumption) | assumption)
                                have q13 : x7_2 < (t150.size : Int) := of_decide_eq_true (by first | (with_reducible assumption) | assumption)
                                have hx13 := bt_at t150 x7_2
                                replace p13 := eq_true p13
                                replace q13 := eq_true q13
                                go_wp2
                                go_roundg k2
                                case measure => have := HJ2.out; have := HK2.out; omega
                                case rel => exact ⟨(wrap64 (x7_2 + 1)), (by first | rfl | (simp; done) | (simp [*]; done)), H', ⟨by have := HJ2.out; have := HK2.out; omega⟩, ⟨by repeat (first | (with_reducible first | exact HB.out | apply below_alloc | apply pw_below_drewN | apply below_drew1) | exact HB.out)⟩⟩
                              · rw [if_neg c23] at H
                                have c23b0 : ((bt t150 x7_2) == 45) = false := beq_eq_false_iff_ne.mpr c23
                                have c23b1 : ((bt t150 x7_2) != 45) = true := bne_iff_ne.mpr c23
                                by_cases c24 : (bt t150 x7_2) = 46
                                · rw [if_pos c24] at H
                                  have c24b0 : ((bt t150 x7_2) == 46) = true := beq_iff_eq.mpr c24
                                  have c24b1 : ((bt t150 x7_2) != 46) = false := bne_eq_false_iff_eq.mpr c24
                                  clear c24
                                  have H' := Aside0.mk H
                                  clear H
                                  have p13 : 0 ≤ (x7_2 : Int) := of_decide_eq_true (by first | (with_reducible assumption) | assumption)
                                  have q13 : x7_2 < (t150.size : Int) := of_decide_eq_true (by first | (with_reducible assumption) | assumption)
                                  have hx13 := bt_at t150 x7_2
                                  replace p13 := eq_true p13
                                  replace q13 := eq_true q13
                                  go_wp2
                                  go_roundg k2
                                  case measure => have := HJ2.out; have := HK2.out; omega
                                  case rel => exact ⟨(wrap64 (x7_2 + 1)), (by first | rfl | (simp; done) | (simp [*]; done)), H', ⟨by have := HJ2.out; have := HK2.out; omega⟩, ⟨by repeat (first | (with_reducible first | exact HB.out | apply below_alloc | apply pw_below_drewN | apply below_drew1) | exact HB.out)⟩⟩
                                · rw [if_neg c24] at H
                                  have c24b0 : ((bt t150 x7_2) == 46) = false := beq_eq_false_iff_ne.mpr c24
                                  have c24b1 : ((bt t150 x7_2) != 46) = true := bne_iff_ne.mpr c24
                                  obtain rfl := Option.some.inj H
                                  have p13 : 0 ≤ (x7_2 : Int) := of_decide_eq_true (by first | (with_reducible assumption) | assumption)
                                  have q13 : x7_2 < (t150.size : Int) := of_decide_eq_true (by first | (with_reducible assumption) | assumption)
                                  have hx13 := bt_at t150 x7_2
                                  replace p13 := eq_true p13
                                  replace q13 := eq_true q13
                                  go_wp2
                                  go_ret
                                  exact ⟨by first | rfl | (simp [errW_none, errW_some] <;> rfl) | (simp [*, errW_none, errW_some] <;> rfl), by repeat (first | (with_reducible first | exact HB.out | apply below_alloc | apply pw_below_drewN | apply below_drew1) | exact HB.out)⟩
                          · rw [if_neg c21] at H
                            have c21b0 : decide (57 < (bt t150 x7_2)) = false := decide_eq_false c21
                            clear c21
                            have H' := Aside0.mk H
                            clear H
                            have p13 : 0 ≤ (x7_2 : Int) := of_decide_eq_true (by first | (with_reducible assumption) | assumption)
                            have q13 : x7_2 < (t150.size : Int) := of_decide_eq_true (by first | (with_reducible assumption) | assumption)
                            have hx13 := bt_at t150 x7_2
                            replace p13 := eq_true p13
                            replace q13 := eq_true q13
                            go_wp2
                            go_roundg k2
                            case measure => have := HJ2.out; have := HK2.out; omega
                            case rel => exact ⟨(wrap64 (x7_2 + 1)), (by first | rfl | (simp; done) | (simp [*]; done)), H', ⟨by have := HJ2.out; have := HK2.out; omega⟩, ⟨by repeat (first | (with_reducible first | exact HB.out | apply below_alloc | apply pw_below_drewN | apply below_drew1) | exact HB.out)⟩⟩
                  · rw [if_neg c14] at H
                    have c14b0 : decide (97 ≤ (bt t150 x7_2)) = false := decide_eq_false c14
                    clear c14
                    by_cases c25 : x7_2 = 0
                    · rw [if_pos c25] at H
                      have c25b0 : (x7_2 == 0) = true := beq_iff_eq.mpr c25
                      have c25b1 : (x7_2 != 0) = false := bne_eq_false_iff_eq.mpr c25
                      clear c25
                      obtain rfl := Option.some.inj H
                      have p13 : 0 ≤ (x7_2 : Int) := of_decide_eq_true (by first | (with_reducible assumption) | assumption)
                      have q13 : x7_2 < (t150.size : Int) := of_decide_eq_true (by first | (with_reducible assumption) | assumption)
                      have hx13 := bt_at t150 x7_2
                      replace p13 := eq_true p13
                      replace q13 := eq_true q13
                      go_wp2
                      go_ret
                      exact ⟨by first | rfl | (simp [errW_none, errW_some] <;> rfl) | (simp [*, errW_none, errW_some] <;> rfl), by repeat (first | (with_reducible first | exact HB.out | apply below_alloc | apply pw_below_drewN | apply below_drew1) | exact HB.out)⟩
                    · rw [if_neg c25] at H
                      have c25b0 : (x7_2 == 0) = false := beq_eq_false_iff_ne.mpr c25
                      have c25b1 : (x7_2 != 0) = true := bne_iff_ne.mpr c25
                      by_cases c26 : (bt t150 x7_2) < 48
                      · rw [if_pos c26] at H
                        have c26b0 : decide ((bt t150 x7_2) < 48) = true := decide_eq_true c26
                        clear c26
                        by_cases c27 : (bt t150 x7_2) = 43
                        · rw [if_pos c27] at H
                          have c27b0 : ((bt t150 x7_2) == 43) = true := beq_iff_eq.mpr c27
                          have c27b1 : ((bt t150 x7_2) != 43) = false := bne_eq_false_iff_eq.mpr c27
                          clear c27
                          have H' := Aside0.mk H
                          clear H
                          have p13 : 0 ≤ (x7_2 : Int) := of_decide_eq_true (by first | (with_reducible assumption) | assumption)
                          have q13 : x7_2 < (t150.size : Int) := of_decide_eq_true (by first | (with_reducible assumption) | assumption)
                          have hx13 := bt_at t150 x7_2
                          replace p13 := eq_true p13
                          replace q13 := eq_true q13
                          go_wp2
                          go_roundg k2
                          case measure => have := HJ2.out; have := HK2.out; omega
                          case rel => exact ⟨(wrap64 (x7_2 + 1)), (by first | rfl | (simp; done) | (simp [*]; done)), H', ⟨by have := HJ2.out; have := HK2.out; omega⟩, ⟨by repeat (first | (with_reducible first | exact HB.out | apply below_alloc | apply pw_below_drewN | apply below_drew1) | exact HB.out)⟩⟩
                        · rw [if_neg c27] at H
                          have c27b0 : ((bt t150 x7_2) == 43) = false := beq_eq_false_iff_ne.mpr c27
                          have c27b1 : ((bt t150 x7_2) != 43) = true := bne_iff_ne.mpr c27
                          by_cases c28 : (bt t150 x7_2) = 45
                          · rw [if_pos c28] at H
                            have c28b0 : ((bt t150 x7_2) == 45) = true := beq_iff_eq.mpr c28
                            have c28b1 : ((bt t150 x7_2) != 45) = false := bne_eq_false_iff_eq.mpr c28
                            clear c28
                            have H' := Aside0.mk H
                            clear H
                            have p13 : 0 ≤ (x7_2 : Int) := of_decide_eq_true (by first | (with_reducible assumption) | assumption)
                            have q13 : x7_2 < (t150.size : Int) := of_decide_eq_true (by first | (with_reducible assumption) | assumption)
                            have hx13 := bt_at t150 x7_2
                            replace p13 := eq_true p13
                            replace q13 := eq_true q13
                            go_wp2
                            go_roundg k2
                            case measure => have := HJ2.out; have := HK2.out; omega
                            case rel => exact ⟨(wrap64 (x7_2 + 1)), (by first | rfl | (simp; done) | (simp [*]; done)), H', ⟨by have := HJ2.out; have := HK2.out; omega⟩, ⟨by repeat (first | (with_reducible first | exact HB.out | apply below_alloc | apply pw_below_drewN | apply below_drew1) | exact HB.out)⟩⟩
                          · rw [if_neg c28] at H
                            have c28b0 : ((bt t150 x7_2) == 45) = false := beq_eq_false_iff_ne.mpr c28
                            have c28b1 : ((bt t150 x7_2) != 45) = true := bne_iff_ne.mpr c28
                            by_cases c29 : (bt t150 x7_2) = 46
                            · rw [if_pos c29] at H
                              have c29b0 : ((bt t150 x7_2) == 46) = true := beq_iff_eq.mpr c29
                              have c29b1 : ((bt t150 x7_2) != 46) = false := bne_eq_false_iff_eq.mpr c29
                              clear c29
                              have H' := Aside0.mk H
                              clear H
                              have p13 : 0 ≤ (x7_2 : Int) := of_decide_eq_true (by first | (with_reducible assumption) | assumption)
                              have q13 : x7_2 < (t150.size : Int) := of_decide_eq_true (by first | (with_reducible assumption) | assumption)
                              have hx13 := bt_at t150 x7_2
                              replace p13 := eq_true p13
                              replace q13 := eq_true q13
                              go_wp2
                              go_roundg k2
                              case measure => have := HJ2.out; have := HK2.out; omega
                              case rel => exact ⟨(wrap64 (x7_2 + 1)), (by first | rfl | (simp; done) | (simp [*]; done)), H', ⟨by have := HJ2.out; have := HK2.out; omega⟩, ⟨by repeat (first | (with_reducible first | exact HB.out | apply below_alloc | apply pw_below_drewN | apply below_drew1) | exact HB.out)⟩⟩
                            · rw [if_neg c29] at H
                              have c29b0 : ((bt t150 x7_2) == 46) = false := beq_eq_false_iff_ne.mpr c29
                              have c29b1 : ((bt t150 x7_2) != 46) = true := bne_iff_ne.mpr c29
                              obtain rfl := Option.some.inj H
                              have p13 : 0 ≤ (x7_2 : Int) := of_decide_eq_true (by first | (with_reducible assumption) | assumption)
                              have q13 : x7_2 < (t150.size : Int) := of_decide_eq_true (by first | (with_reducible assumption) | assumption)
                              have hx13 := bt_at t150 x7_2
                              replace p13 := eq_true p13
                              replace q13 := eq_true q13
                              go_wp2
                              go_ret
                              exact ⟨by first | rfl | (simp [errW_none, errW_some] <;> rfl) | (simp [*, errW_none, errW_some] <;> rfl), by repeat (first | (with_reducible first | exact HB.out | apply below_alloc | apply pw_below_drewN | apply below_drew1) | exact HB.out)⟩
                      · rw [if_neg c26] at H
                        have c26b0 : decide ((bt t150 x7_2) < 48) = false := decide_eq_false c26
                        clear c26
                        by_cases c30 : (bt t150 x7_2) > 57
                        · rw [if_pos c30] at H
                          have c30b0 : decide (57 < (bt t150 x7_2)) = true := decide_eq_true c30
                          clear c30
                          by_cases c31 : (bt t150 x7_2) = 43
                          · rw [if_pos c31] at H
                            have c31b0 : ((bt t150 x7_2) == 43) = true := beq_iff_eq.mpr c31
                            have c31b1 : ((bt t150 x7_2) != 43) = false := bne_eq_false_iff_eq.mpr c31
                            clear c31
                            have H' := Aside0.mk H
                            clear H
                            have p13 : 0 ≤ (x7_2 : Int) := of_decide_eq_true (by first | (with_reducible assumption) | assumption)
                            have q13 : x7_2 < (t150.size : Int) := of_decide_eq_true (by first | (with_reducible assumption) | assumption)
                            have hx13 := bt_at t150 x7_2
                            replace p13 := eq_true p13
                            replace q13 := eq_true q13
                            go_wp2
                            go_roundg k2
                            case measure => have := HJ2.out; have := HK2.out; omega
                            case rel => exact ⟨(wrap64 (x7_2 + 1)), (by first | rfl | (simp; done) | (simp [*]; done)), H', ⟨by have := HJ2.out; have := HK2.out; omega⟩, ⟨by repeat (first | (with_reducible first | exact HB.out | apply below_alloc | apply pw_below_drewN | apply below_drew1) | exact HB.out)⟩⟩
                          · rw [if_neg c31] at H
                            have c31b0 : ((bt t150 x7_2) == 43) = false := beq_eq_false_iff_ne.mpr c31
                            have c31b1 : ((bt t150 x7_2) != 43) = true := bne_iff_ne.mpr c31
                            by_cases c32 : (bt t150 x7_2) = 45
                            · rw [if_pos c32] at H
                              have c32b0 : ((bt t150 x7_2) == 45) = true := beq_iff_eq.mpr c32
                              have c32b1 : ((bt t150 x7_2) != 45) = false := bne_eq_false_iff_eq.mpr c32
                              clear c32
                              have H' := Aside0.mk H
                              clear H
                              have p13 : 0 ≤ (x7_2 : Int) := of_decide_eq_true (by first | (with_reducible assumption) | assumption)
                              have q13 : x7_2 < (t150.size : Int) := of_decide_eq_true (by first | (with_reducible assumption) | assumption)
                              have hx13 := bt_at t150 x7_2
                              replace p13 := eq_true p13
                              replace q13 := eq_true q13
                              go_wp2
                              go_roundg k2
                              case measure => have := HJ2.out; have := HK2.out; omega
                              case rel => exact ⟨(wrap64 (x7_2 + 1)), (by first | rfl | (simp; done) | (simp [*]; done)), H', ⟨by have := HJ2.out; have := HK2.out; omega⟩, ⟨by repeat (first | (with_reducible first | exact HB.out | apply below_alloc | apply pw_below_drewN | apply below_drew1) | exact HB.out)⟩⟩
                            · rw [if_neg c32] at H
                              have c32b0 : ((bt t150 x7_2) == 45) = false := beq_eq_false_iff_ne.mpr c32
                              have c32b1 : ((bt t150 x7_2) != 45) = true := bne_iff_ne.mpr c32
                              by_cases c33 : (bt t150 x7_2) = 46
                              · rw [if_pos c33] at H
                                have c33b0 : ((bt t150 x7_2) == 46) = true := beq_iff_eq.mpr c33
                                have c33b1 : ((bt t150 x7_2) != 46) = false := bne_eq_false_iff_eq.mpr c33
                                clear c33
                                have H' := Aside0.mk H
                                clear H
                                have p13 : 0 ≤ (x7_2 : Int) := of_decide_eq_true (by first | (with_reducible assumption) | assumption)
                                have q13 : x7_2 < (t150.size : Int) := of_decide_eq_true (by first | (with_reducible assumption) | assumption)
                                have hx13 := bt_at t150 x7_2
                                replace p13 := eq_true p13
                                replace q13 := eq_true q13
                                go_wp2
                                go_roundg k2
                                case measure => have := HJ2.out; have := HK2.out; omega
                                case rel => exact ⟨(wrap64 (x7_2 + 1)), (by first | rfl | (simp; done) | (simp [*]; done)), H', ⟨by have := HJ2.out; have := HK2.out; omega⟩, ⟨by repeat (first | (with_reducible first | exact HB.out | apply below_alloc | apply pw_below_drewN | apply below_drew1) | exact HB.out)⟩⟩
                              · rw [if_neg c33] at H
                                have c33b0 : ((bt t150 x7_2) == 46) = false := beq_eq_false_iff_ne.mpr c33
                                have c33b1 : ((bt t150 x7_2) != 46) = true := bne_iff_ne.mpr c33
                                obtain rfl := Option.some.inj H
                                have p13 : 0 ≤ (x7_2 : Int) := of_decide_eq_true (by first | (with_reducible assumption) | assumption)
                                have q13 : x7_2 < (t150.size : Int) := of_decide_eq_true (by first | (with_reducible assumption) | assumption)
                                have hx13 := bt_at t150 x7_2
                                replace p13 := eq_true p13
                                replace q13 := eq_true q13
                                go_wp2
                                go_ret
                                exact ⟨by first | rfl | (simp [errW_none, errW_some] <;> rfl) | (simp [*, errW_none, errW_some] <;> rfl), by repeat (first | (with_reducible first | exact HB.out | apply below_alloc | apply pw_below_drewN | apply below_drew1) | exact HB.out)⟩
                        · rw [if_neg c30] at H
                          have c30b0 : decide (57 < (bt t150 x7_2)) = false := decide_eq_false c30
                          clear c30
                          have H' := Aside0.mk H
                          clear H
                          have p13 : 0 ≤ (x7_2 : Int) := of_decide_eq_true (by first | (with_reducible assumption) | assumption)
                          have q13 : x7_2 < (t150.size : Int) := of_decide_eq_true (by first | (with_reducible assumption) | assumption)
                          have hx13 := bt_at t150 x7_2
                          replace p13 := eq_true p13
                          replace q13 := eq_true q13
                          go_wp2
                          go_roundg k2
                          case measure => have := HJ2.out; have := HK2.out; omega
                          case rel => exact ⟨(wrap64 (x7_2 + 1)), (by first | rfl | (simp; done) | (simp [*]; done)), H', ⟨by have := HJ2.out; have := HK2.out; omega⟩, ⟨by repeat (first | (with_reducible first | exact HB.out | apply below_alloc | apply pw_below_drewN | apply below_drew1) | exact HB.out)⟩⟩
                · rw [if_neg c12] at H
                  exact absurd H (by simp)
              · rw [if_neg c11] at H
                have c11b0 : decide (x7_2 < (t150.size : Int)) = false := decide_eq_false c11
                clear c11
                by_cases c34 : t150.size + 1 ≤ 9223372036854775807
                · rw [if_pos c34] at H
                  have c34b0 := eq_true c34
                  have c34b1 : decide (t150.size + 1 ≤ 9223372036854775807) = true := decide_eq_true c34
                  try have c34b2 : (9223372036854775807 < t150.size + 1) = False := eq_false (Nat.not_lt.2 c34)
                  by_cases c35 : (t150 ++ (⟨#[58]⟩ : ByteArray)).size + a1.size ≤ 9223372036854775807
                  · rw [if_pos c35] at H
                    have c35b0 := eq_true c35
                    have c35b1 : decide ((t150 ++ (⟨#[58]⟩ : ByteArray)).size + a1.size ≤ 9223372036854775807) = true := decide_eq_true c35
                    try have c35b2 : (9223372036854775807 < (t150 ++ (⟨#[58]⟩ : ByteArray)).size + a1.size) = False := eq_false (Nat.not_lt.2 c35)
                    replace H := Option.bind_eq_some_iff.mp H
                    obtain ⟨⟨t153, t154⟩, A360, H⟩ := H
                    replace H : ((marginalialaw10_alive.f k2).bind fun t155 => (if t155 = true then (if t150.toList = ([] : List UInt8) then (some false) else (if t154 = true then (if t150.toList = t153.toList then ((scheme_Safe.f k2 a0 (([t150] : List ByteArray))).bind fun t159 => (if t159 = true then ((scheme_Safe.f k2 a0 (([t150 ++ (⟨#[120]⟩ : ByteArray)] : List ByteArray))).bind fun t163 => (some (!t163))) else (some false))) else (some false)) else (some false))) else (some false))) = some r := H
                    have A36 := Aside0.mk A360
                    clear A360
                    replace H := Option.bind_eq_some_iff.mp H
                    obtain ⟨t155, A370, H⟩ := H
                    replace H : (if t155 = true then (if t150.toList = ([] : List UInt8) then (some false) else (if t154 = true then (if t150.toList = t153.toList then ((scheme_Safe.f k2 a0 (([t150] : List ByteArray))).bind fun t159 => (if t159 = true then ((scheme_Safe.f k2 a0 (([t150 ++ (⟨#[120]⟩ : ByteArray)] : List ByteArray))).bind fun t163 => (some (!t163))) else (some false))) else (some false)) else (some false))) else (some false)) = some r := H
                    have A37 := Aside0.mk A370
                    clear A370
                    by_cases c38 : t155 = true
                    · subst c38
                      have H1 : (if t150.toList = ([] : List UInt8) then (some false) else (if t154 = true then (if t150.toList = t153.toList then ((scheme_Safe.f k2 a0 (([t150] : List ByteArray))).bind fun t159 => (if t159 = true then ((scheme_Safe.f k2 a0 (([t150 ++ (⟨#[120]⟩ : ByteArray)] : List ByteArray))).bind fun t163 => (some (!t163))) else (some false))) else (some false)) else (some false))) = some r := by rw [if_pos rfl] at H; exact H
                      clear H
                      have H := H1
                      clear H1
                      by_cases c39 : t150.toList = ([] : List UInt8)
                      · rw [if_pos c39] at H
                        have c39b0 : (t150.toList == ([] : List UInt8)) = true := beq_iff_eq.mpr c39
                        have c39b1 : (t150.toList != ([] : List UInt8)) = false := bne_eq_false_iff_eq.mpr c39
                        clear c39
                        obtain rfl := Option.some.inj H
                        go_wp2_with (first | ((with_reducible refine gate_callee (f := 9) rfl ?_); refine goesL_ (some 83) rfl rfl Try.func9 (by kernel_rfl) rfl #[.string ((t150 ++ (⟨#[58]⟩ : ByteArray)) ++ a1)] rfl (by (try simp only [List.map_toArray, List.map_cons, List.map_nil]); first | done | rfl | (simp only [List.length_drop, List.length_take]; rfl)) ?_; (with_reducible refine (scheme_Of.calls k2 ((t150 ++ (⟨#[58]⟩ : ByteArray)) ++ a1) t153 t154 _ A36.out).mono ?_); rintro e w40 ⟨rfl, hb⟩; refine ⟨_, rfl, ?_⟩; have n0_ := Aside0.mk (below_step (by repeat (first | (with_reducible first | exact HB.out | apply below_alloc | apply pw_below_drewN | apply below_drew1) | exact HB.out)) hb); clear HB; have HB := n0_; clear n0_; (try clear hb); (try clear hb2); (try clear hk); (try clear hi)) | ((with_reducible refine gate_callee (f := 8) rfl ?_); refine goesL_ (some 86) rfl rfl Try.func8 (by kernel_rfl) rfl #[] rfl (by (try simp only [List.map_toArray, List.map_cons, List.map_nil]); first | done | rfl | (simp only [List.length_drop, List.length_take]; rfl)) ?_; (with_reducible refine (marginalialaw10_alive.calls k2  true _ A37.out).mono ?_); rintro e w41 ⟨rfl, hb⟩; refine ⟨_, rfl, ?_⟩; have n0_ := Aside0.mk (below_step (by repeat (first | (with_reducible first | exact HB.out | apply below_alloc | apply pw_below_drewN | apply below_drew1) | exact HB.out)) hb); clear HB; have HB := n0_; clear n0_; (try clear hb); (try clear hb2); (try clear hk); (try clear hi)))
                        go_ret
                        exact ⟨by first | rfl | (simp [errW_none, errW_some] <;> rfl) | (simp [*, errW_none, errW_some] <;> rfl), by repeat (first | (with_reducible first | exact HB.out | apply below_alloc | apply pw_below_drewN | apply below_drew1) | exact HB.out)⟩
                      · rw [if_neg c39] at H
                        have c39b0 : (t150.toList == ([] : List UInt8)) = false := beq_eq_false_iff_ne.mpr c39
                        have c39b1 : (t150.toList != ([] : List UInt8)) = true := bne_iff_ne.mpr c39
                        by_cases c42 : t154 = true
                        · subst c42
                          have H1 : (if t150.toList = t153.toList then ((scheme_Safe.f k2 a0 (([t150] : List ByteArray))).bind fun t159 => (if t159 = true then ((scheme_Safe.f k2 a0 (([t150 ++ (⟨#[120]⟩ : ByteArray)] : List ByteArray))).bind fun t163 => (some (!t163))) else (some false))) else (some false)) = some r := by rw [if_pos rfl] at H; exact H
                          clear H
                          have H := H1
                          clear H1
                          by_cases c43 : t150.toList = t153.toList
                          · rw [if_pos c43] at H
                            have c43b0 : (t150.toList == t153.toList) = true := beq_iff_eq.mpr c43
                            have c43b1 : (t150.toList != t153.toList) = false := bne_eq_false_iff_eq.mpr c43
                            clear c43
                            obtain ⟨y156, hy156⟩ : ∃ y_ : List ByteArray, y_ = (([t150] : List ByteArray)) := ⟨_, rfl⟩
                            replace H : ((scheme_Safe.f k2 a0 y156).bind fun t159 => (if t159 = true then ((scheme_Safe.f k2 a0 (([t150 ++ (⟨#[120]⟩ : ByteArray)] : List ByteArray))).bind fun t163 => (some (!t163))) else (some false))) = some r := by first | (rw [hy156]; with_reducible exact H) | (have H2_ := (Option.bind_some _ _).symm.trans H; rw [hy156]; with_reducible exact H2_) | (have H2_ := (Option.bind_some _ _).symm.trans H; with_reducible exact H2_) | with_reducible exact H | (rw [hy156]; exact H) | exact H
                            have Ny156 := Aside0.mk hy156
                            clear hy156
                            replace H := Option.bind_eq_some_iff.mp H
                            obtain ⟨t159, A440, H⟩ := H
                            replace H : (if t159 = true then ((scheme_Safe.f k2 a0 (([t150 ++ (⟨#[120]⟩ : ByteArray)] : List ByteArray))).bind fun t163 => (some (!t163))) else (some false)) = some r := H
                            have A44 := Aside0.mk A440
                            clear A440
                            by_cases c45 : t159 = true
                            · subst c45
                              have H1 : ((scheme_Safe.f k2 a0 (([t150 ++ (⟨#[120]⟩ : ByteArray)] : List ByteArray))).bind fun t163 => (some (!t163))) = some r := by rw [if_pos rfl] at H; exact H
                              clear H
                              have H := H1
                              clear H1
                              obtain ⟨y160, hy160⟩ : ∃ y_ : List ByteArray, y_ = (([t150 ++ (⟨#[120]⟩ : ByteArray)] : List ByteArray)) := ⟨_, rfl⟩
                              replace H : ((scheme_Safe.f k2 a0 y160).bind fun t163 => (some (!t163))) = some r := by first | (rw [hy160]; with_reducible exact H) | (have H2_ := (Option.bind_some _ _).symm.trans H; rw [hy160]; with_reducible exact H2_) | (have H2_ := (Option.bind_some _ _).symm.trans H; with_reducible exact H2_) | with_reducible exact H | (rw [hy160]; exact H) | exact H
                              have Ny160 := Aside0.mk hy160
                              clear hy160
                              replace H := Option.bind_eq_some_iff.mp H
                              obtain ⟨t163, A460, H⟩ := H
                              replace H : (some (!t163)) = some r := H
                              have A46 := Aside0.mk A460
                              clear A460
                              obtain rfl := Option.some.inj H
                              go_wp2_with (first | ((with_reducible refine gate_callee (f := 9) rfl ?_); refine goesL_ (some 83) rfl rfl Try.func9 (by kernel_rfl) rfl #[.string ((t150 ++ (⟨#[58]⟩ : ByteArray)) ++ a1)] rfl (by (try simp only [List.map_toArray, List.map_cons, List.map_nil]); first | done | rfl | (simp only [List.length_drop, List.length_take]; rfl)) ?_; (with_reducible refine (scheme_Of.calls k2 ((t150 ++ (⟨#[58]⟩ : ByteArray)) ++ a1) t153 true _ A36.out).mono ?_); rintro e w47 ⟨rfl, hb⟩; refine ⟨_, rfl, ?_⟩; have n0_ := Aside0.mk (below_step (by repeat (first | (with_reducible first | exact HB.out | apply below_alloc | apply pw_below_drewN | apply below_drew1) | exact HB.out)) hb); clear HB; have HB := n0_; clear n0_; (try clear hb); (try clear hb2); (try clear hk); (try clear hi)) | ((with_reducible refine gate_callee (f := 8) rfl ?_); refine goesL_ (some 86) rfl rfl Try.func8 (by kernel_rfl) rfl #[] rfl (by (try simp only [List.map_toArray, List.map_cons, List.map_nil]); first | done | rfl | (simp only [List.length_drop, List.length_take]; rfl)) ?_; (with_reducible refine (marginalialaw10_alive.calls k2  true _ A37.out).mono ?_); rintro e w48 ⟨rfl, hb⟩; refine ⟨_, rfl, ?_⟩; have n0_ := Aside0.mk (below_step (by repeat (first | (with_reducible first | exact HB.out | apply below_alloc | apply pw_below_drewN | apply below_drew1) | exact HB.out)) hb); clear HB; have HB := n0_; clear n0_; (try clear hb); (try clear hb2); (try clear hk); (try clear hi)) | ((with_reducible refine gate_dst (N := 102) rfl ?_); (try (refine gate_guard (by rfl) ?_; dsimp only)); refine Kd.R_lit Kd.string _ 9 ?hg (N := 102) ?hd (xs := ([t150] : List ByteArray)) (inner := [.string t150]) (ok := fun _ => True) (okp := fun _ => True) ?hr ?hp (fun _ hk => hk) trivial (Below.refl _ _) (Nat.le_refl _) (by simp) ?_; (case hd => rfl); (case hg => rfl); (case hr => first | (go_simp; done) | (go_simp; rfl)); (case hp => exact (Reps.one (show Kd.M Kd.string _ _ _ t150 [.string t150] from rfl) (Reps.none _ _))); intro v157 w49 ho50 hb hg_ hnew_; clear hg_ hnew_; (first | rw [← Ny156.out] at ho50 | (simp only [Int.reduceToNat] at ho50; rw [← Ny156.out] at ho50)); have n0_ := Aside0.mk (Kd.R_lower ho50 (below_size (by repeat (first | (with_reducible first | exact HB.out | apply below_alloc | apply pw_below_drewN | apply below_drew1) | exact HB.out)))); have n1_ := Aside0.mk (below_step (by repeat (first | (with_reducible first | exact HB.out | apply below_alloc | apply pw_below_drewN | apply below_drew1) | exact HB.out)) hb); clear HB; have HO158 := n0_; have HB := n1_; clear n0_ n1_; clear hb ho50; obtain ⟨Ao51, co51, eo51⟩ := Kd.R_slice HO158.out; subst eo51) | (go_at_call 11; (with_reducible refine (scheme_Safe.calls k2 a0 _ _ y156 true _ ?side1 ?side2 A44.out).mono ?_); (case side1 => repeat (first | exact (Kd.R_reads' HO158.out).2.2 | (with_reducible refine Kd.C_alloc ?_ _) | (with_reducible refine Kd.C_drewN ?_ _) | (with_reducible refine Kd.C_drew ?_))); (case side2 => exact (Kd.R_reads' HO158.out).2.1); rintro e w52 ⟨rfl, hb⟩; have n0_ := Aside0.mk (Kd.R_below (by (with_reducible repeat (first | apply Kd.R_alloc | apply Kd.R_drewN | apply Kd.R_drew)); exact HO158.out) hb); have n1_ := Aside0.mk (below_step (by repeat (first | (with_reducible first | exact HB.out | apply below_alloc | apply pw_below_drewN | apply below_drew1) | exact HB.out)) hb); clear HO158; clear HB; have HO158 := n0_; have HB := n1_; clear n0_ n1_; (try clear hb); (try clear hb2); (try clear hk); (try clear hi)) | ((with_reducible refine gate_dst (N := 109) rfl ?_); (try (refine gate_guard (by rfl) ?_; dsimp only)); refine Kd.R_lit Kd.string _ 9 ?hg (N := 109) ?hd (xs := ([t150 ++ (⟨#[120]⟩ : ByteArray)] : List ByteArray)) (inner := [.string (t150 ++ (⟨#[120]⟩ : ByteArray))]) (ok := fun _ => True) (okp := fun _ => True) ?hr ?hp (fun _ hk => hk) trivial (Below.refl _ _) (Nat.le_refl _) (by simp) ?_; (case hd => rfl); (case hg => rfl); (case hr => first | (go_simp; done) | (go_simp; rfl)); (case hp => exact (Reps.one (show Kd.M Kd.string _ _ _ (t150 ++ (⟨#[120]⟩ : ByteArray)) [.string (t150 ++ (⟨#[120]⟩ : ByteArray))] from rfl) (Reps.none _ _))); intro v161 w53 ho54 hb hg_ hnew_; clear hg_ hnew_; (first | rw [← Ny160.out] at ho54 | (simp only [Int.reduceToNat] at ho54; rw [← Ny160.out] at ho54)); have n0_ := Aside0.mk (Kd.R_elder' (by (with_reducible repeat (first | apply Kd.R_alloc | apply Kd.R_drewN | apply Kd.R_drew)); exact HO158.out) (Kd.R_base ho54) hb); have n1_ := Aside0.mk (Kd.R_lower (Kd.R_new' ho54 (Kd.R_lt (by (with_reducible repeat (first | apply Kd.R_alloc | apply Kd.R_drewN | apply Kd.R_drew)); exact HO158.out))) (below_size (by repeat (first | (with_reducible first | exact HB.out | apply below_alloc | apply pw_below_drewN | apply below_drew1) | exact HB.out)))); have n2_ := Aside0.mk (below_step (by repeat (first | (with_reducible first | exact HB.out | apply below_alloc | apply pw_below_drewN | apply below_drew1) | exact HB.out)) hb); clear HO158; clear HB; have HO158 := n0_; have HO162 := n1_; have HB := n2_; clear n0_ n1_ n2_; clear hb ho54; obtain ⟨Ao55, co55, eo55⟩ := Kd.R_slice HO162.out; subst eo55) | (go_at_call 11; (with_reducible refine (scheme_Safe.calls k2 a0 _ _ y160 t163 _ ?side1 ?side2 A46.out).mono ?_); (case side1 => repeat (first | exact (Kd.R_reads' HO162.out).2.2 | (with_reducible refine Kd.C_alloc ?_ _) | (with_reducible refine Kd.C_drewN ?_ _) | (with_reducible refine Kd.C_drew ?_))); (case side2 => exact (Kd.R_reads' HO162.out).2.1); rintro e w56 ⟨rfl, hb⟩; have n0_ := Aside0.mk (Kd.R_below (by (with_reducible repeat (first | apply Kd.R_alloc | apply Kd.R_drewN | apply Kd.R_drew)); exact HO158.out) hb); have n1_ := Aside0.mk (Kd.R_below (by (with_reducible repeat (first | apply Kd.R_alloc | apply Kd.R_drewN | apply Kd.R_drew)); exact HO162.out) hb); have n2_ := Aside0.mk (below_step (by repeat (first | (with_reducible first | exact HB.out | apply below_alloc | apply pw_below_drewN | apply below_drew1) | exact HB.out)) hb); clear HO158; clear HO162; clear HB; have HO158 := n0_; have HO162 := n1_; have HB := n2_; clear n0_ n1_ n2_; (try clear hb); (try clear hb2); (try clear hk); (try clear hi)))
                              go_ret
                              exact ⟨by first | rfl | (simp [errW_none, errW_some] <;> rfl) | (simp [*, errW_none, errW_some] <;> rfl), by repeat (first | (with_reducible first | exact HB.out | apply below_alloc | apply pw_below_drewN | apply below_drew1) | exact HB.out)⟩
                            · replace c45 := Bool.eq_false_iff.mpr c45
                              subst c45
                              have H1 : (some false) = some r := by rw [if_neg (show ¬ (false = true) by decide)] at H; exact H
                              clear H
                              have H := H1
                              clear H1
                              obtain rfl := Option.some.inj H
                              go_wp2_with (first | ((with_reducible refine gate_callee (f := 9) rfl ?_); refine goesL_ (some 83) rfl rfl Try.func9 (by kernel_rfl) rfl #[.string ((t150 ++ (⟨#[58]⟩ : ByteArray)) ++ a1)] rfl (by (try simp only [List.map_toArray, List.map_cons, List.map_nil]); first | done | rfl | (simp only [List.length_drop, List.length_take]; rfl)) ?_; (with_reducible refine (scheme_Of.calls k2 ((t150 ++ (⟨#[58]⟩ : ByteArray)) ++ a1) t153 true _ A36.out).mono ?_); rintro e w57 ⟨rfl, hb⟩; refine ⟨_, rfl, ?_⟩; have n0_ := Aside0.mk (below_step (by repeat (first | (with_reducible first | exact HB.out | apply below_alloc | apply pw_below_drewN | apply below_drew1) | exact HB.out)) hb); clear HB; have HB := n0_; clear n0_; (try clear hb); (try clear hb2); (try clear hk); (try clear hi)) | ((with_reducible refine gate_callee (f := 8) rfl ?_); refine goesL_ (some 86) rfl rfl Try.func8 (by kernel_rfl) rfl #[] rfl (by (try simp only [List.map_toArray, List.map_cons, List.map_nil]); first | done | rfl | (simp only [List.length_drop, List.length_take]; rfl)) ?_; (with_reducible refine (marginalialaw10_alive.calls k2  true _ A37.out).mono ?_); rintro e w58 ⟨rfl, hb⟩; refine ⟨_, rfl, ?_⟩; have n0_ := Aside0.mk (below_step (by repeat (first | (with_reducible first | exact HB.out | apply below_alloc | apply pw_below_drewN | apply below_drew1) | exact HB.out)) hb); clear HB; have HB := n0_; clear n0_; (try clear hb); (try clear hb2); (try clear hk); (try clear hi)) | ((with_reducible refine gate_dst (N := 102) rfl ?_); (try (refine gate_guard (by rfl) ?_; dsimp only)); refine Kd.R_lit Kd.string _ 9 ?hg (N := 102) ?hd (xs := ([t150] : List ByteArray)) (inner := [.string t150]) (ok := fun _ => True) (okp := fun _ => True) ?hr ?hp (fun _ hk => hk) trivial (Below.refl _ _) (Nat.le_refl _) (by simp) ?_; (case hd => rfl); (case hg => rfl); (case hr => first | (go_simp; done) | (go_simp; rfl)); (case hp => exact (Reps.one (show Kd.M Kd.string _ _ _ t150 [.string t150] from rfl) (Reps.none _ _))); intro v157 w59 ho60 hb hg_ hnew_; clear hg_ hnew_; (first | rw [← Ny156.out] at ho60 | (simp only [Int.reduceToNat] at ho60; rw [← Ny156.out] at ho60)); have n0_ := Aside0.mk (Kd.R_lower ho60 (below_size (by repeat (first | (with_reducible first | exact HB.out | apply below_alloc | apply pw_below_drewN | apply below_drew1) | exact HB.out)))); have n1_ := Aside0.mk (below_step (by repeat (first | (with_reducible first | exact HB.out | apply below_alloc | apply pw_below_drewN | apply below_drew1) | exact HB.out)) hb); clear HB; have HO158 := n0_; have HB := n1_; clear n0_ n1_; clear hb ho60; obtain ⟨Ao61, co61, eo61⟩ := Kd.R_slice HO158.out; subst eo61) | (go_at_call 11; (with_reducible refine (scheme_Safe.calls k2 a0 _ _ y156 false _ ?side1 ?side2 A44.out).mono ?_); (case side1 => repeat (first | exact (Kd.R_reads' HO158.out).2.2 | (with_reducible refine Kd.C_alloc ?_ _) | (with_reducible refine Kd.C_drewN ?_ _) | (with_reducible refine Kd.C_drew ?_))); (case side2 => exact (Kd.R_reads' HO158.out).2.1); rintro e w62 ⟨rfl, hb⟩; have n0_ := Aside0.mk (Kd.R_below (by (with_reducible repeat (first | apply Kd.R_alloc | apply Kd.R_drewN | apply Kd.R_drew)); exact HO158.out) hb); have n1_ := Aside0.mk (below_step (by repeat (first | (with_reducible first | exact HB.out | apply below_alloc | apply pw_below_drewN | apply below_drew1) | exact HB.out)) hb); clear HO158; clear HB; have HO158 := n0_; have HB := n1_; clear n0_ n1_; (try clear hb); (try clear hb2); (try clear hk); (try clear hi)))
                              go_ret
                              exact ⟨by first | rfl | (simp [errW_none, errW_some] <;> rfl) | (simp [*, errW_none, errW_some] <;> rfl), by repeat (first | (with_reducible first | exact HB.out | apply below_alloc | apply pw_below_drewN | apply below_drew1) | exact HB.out)⟩
                          · rw [if_neg c43] at H
                            have c43b0 : (t150.toList == t153.toList) = false := beq_eq_false_iff_ne.mpr c43
                            have c43b1 : (t150.toList != t153.toList) = true := bne_iff_ne.mpr c43
                            obtain rfl := Option.some.inj H
                            go_wp2_with (first | ((with_reducible refine gate_callee (f := 9) rfl ?_); refine goesL_ (some 83) rfl rfl Try.func9 (by kernel_rfl) rfl #[.string ((t150 ++ (⟨#[58]⟩ : ByteArray)) ++ a1)] rfl (by (try simp only [List.map_toArray, List.map_cons, List.map_nil]); first | done | rfl | (simp only [List.length_drop, List.length_take]; rfl)) ?_; (with_reducible refine (scheme_Of.calls k2 ((t150 ++ (⟨#[58]⟩ : ByteArray)) ++ a1) t153 true _ A36.out).mono ?_); rintro e w63 ⟨rfl, hb⟩; refine ⟨_, rfl, ?_⟩; have n0_ := Aside0.mk (below_step (by repeat (first | (with_reducible first | exact HB.out | apply below_alloc | apply pw_below_drewN | apply below_drew1) | exact HB.out)) hb); clear HB; have HB := n0_; clear n0_; (try clear hb); (try clear hb2); (try clear hk); (try clear hi)) | ((with_reducible refine gate_callee (f := 8) rfl ?_); refine goesL_ (some 86) rfl rfl Try.func8 (by kernel_rfl) rfl #[] rfl (by (try simp only [List.map_toArray, List.map_cons, List.map_nil]); first | done | rfl | (simp only [List.length_drop, List.length_take]; rfl)) ?_; (with_reducible refine (marginalialaw10_alive.calls k2  true _ A37.out).mono ?_); rintro e w64 ⟨rfl, hb⟩; refine ⟨_, rfl, ?_⟩; have n0_ := Aside0.mk (below_step (by repeat (first | (with_reducible first | exact HB.out | apply below_alloc | apply pw_below_drewN | apply below_drew1) | exact HB.out)) hb); clear HB; have HB := n0_; clear n0_; (try clear hb); (try clear hb2); (try clear hk); (try clear hi)))
                            go_ret
                            exact ⟨by first | rfl | (simp [errW_none, errW_some] <;> rfl) | (simp [*, errW_none, errW_some] <;> rfl), by repeat (first | (with_reducible first | exact HB.out | apply below_alloc | apply pw_below_drewN | apply below_drew1) | exact HB.out)⟩
                        · replace c42 := Bool.eq_false_iff.mpr c42
                          subst c42
                          have H1 : (some false) = some r := by rw [if_neg (show ¬ (false = true) by decide)] at H; exact H
                          clear H
                          have H := H1
                          clear H1
                          obtain rfl := Option.some.inj H
                          go_wp2_with (first | ((with_reducible refine gate_callee (f := 9) rfl ?_); refine goesL_ (some 83) rfl rfl Try.func9 (by kernel_rfl) rfl #[.string ((t150 ++ (⟨#[58]⟩ : ByteArray)) ++ a1)] rfl (by (try simp only [List.map_toArray, List.map_cons, List.map_nil]); first | done | rfl | (simp only [List.length_drop, List.length_take]; rfl)) ?_; (with_reducible refine (scheme_Of.calls k2 ((t150 ++ (⟨#[58]⟩ : ByteArray)) ++ a1) t153 false _ A36.out).mono ?_); rintro e w65 ⟨rfl, hb⟩; refine ⟨_, rfl, ?_⟩; have n0_ := Aside0.mk (below_step (by repeat (first | (with_reducible first | exact HB.out | apply below_alloc | apply pw_below_drewN | apply below_drew1) | exact HB.out)) hb); clear HB; have HB := n0_; clear n0_; (try clear hb); (try clear hb2); (try clear hk); (try clear hi)) | ((with_reducible refine gate_callee (f := 8) rfl ?_); refine goesL_ (some 86) rfl rfl Try.func8 (by kernel_rfl) rfl #[] rfl (by (try simp only [List.map_toArray, List.map_cons, List.map_nil]); first | done | rfl | (simp only [List.length_drop, List.length_take]; rfl)) ?_; (with_reducible refine (marginalialaw10_alive.calls k2  true _ A37.out).mono ?_); rintro e w66 ⟨rfl, hb⟩; refine ⟨_, rfl, ?_⟩; have n0_ := Aside0.mk (below_step (by repeat (first | (with_reducible first | exact HB.out | apply below_alloc | apply pw_below_drewN | apply below_drew1) | exact HB.out)) hb); clear HB; have HB := n0_; clear n0_; (try clear hb); (try clear hb2); (try clear hk); (try clear hi)))
                          go_ret
                          exact ⟨by first | rfl | (simp [errW_none, errW_some] <;> rfl) | (simp [*, errW_none, errW_some] <;> rfl), by repeat (first | (with_reducible first | exact HB.out | apply below_alloc | apply pw_below_drewN | apply below_drew1) | exact HB.out)⟩
                    · replace c38 := Bool.eq_false_iff.mpr c38
                      subst c38
                      have H1 : (some false) = some r := by rw [if_neg (show ¬ (false = true) by decide)] at H; exact H
                      clear H
                      have H := H1
                      clear H1
                      obtain rfl := Option.some.inj H
                      go_wp2_with (first | ((with_reducible refine gate_callee (f := 9) rfl ?_); refine goesL_ (some 83) rfl rfl Try.func9 (by kernel_rfl) rfl #[.string ((t150 ++ (⟨#[58]⟩ : ByteArray)) ++ a1)] rfl (by (try simp only [List.map_toArray, List.map_cons, List.map_nil]); first | done | rfl | (simp only [List.length_drop, List.length_take]; rfl)) ?_; (with_reducible refine (scheme_Of.calls k2 ((t150 ++ (⟨#[58]⟩ : ByteArray)) ++ a1) t153 t154 _ A36.out).mono ?_); rintro e w67 ⟨rfl, hb⟩; refine ⟨_, rfl, ?_⟩; have n0_ := Aside0.mk (below_step (by repeat (first | (with_reducible first | exact HB.out | apply below_alloc | apply pw_below_drewN | apply below_drew1) | exact HB.out)) hb); clear HB; have HB := n0_; clear n0_; (try clear hb); (try clear hb2); (try clear hk); (try clear hi)) | ((with_reducible refine gate_callee (f := 8) rfl ?_); refine goesL_ (some 86) rfl rfl Try.func8 (by kernel_rfl) rfl #[] rfl (by (try simp only [List.map_toArray, List.map_cons, List.map_nil]); first | done | rfl | (simp only [List.length_drop, List.length_take]; rfl)) ?_; (with_reducible refine (marginalialaw10_alive.calls k2  false _ A37.out).mono ?_); rintro e w68 ⟨rfl, hb⟩; refine ⟨_, rfl, ?_⟩; have n0_ := Aside0.mk (below_step (by repeat (first | (with_reducible first | exact HB.out | apply below_alloc | apply pw_below_drewN | apply below_drew1) | exact HB.out)) hb); clear HB; have HB := n0_; clear n0_; (try clear hb); (try clear hb2); (try clear hk); (try clear hi)))
                      go_ret
                      exact ⟨by first | rfl | (simp [errW_none, errW_some] <;> rfl) | (simp [*, errW_none, errW_some] <;> rfl), by repeat (first | (with_reducible first | exact HB.out | apply below_alloc | apply pw_below_drewN | apply below_drew1) | exact HB.out)⟩
                  · rw [if_neg c35] at H
                    exact absurd H (by simp)
                · rw [if_neg c34] at H
                  exact absurd H (by simp)
        · replace c9 := Bool.eq_false_iff.mpr c9
          subst c9
          have H1 : ((marginalialaw10_alive.f kj2).bind fun t152 => (if t152 = true then (some (t150.toList == ([] : List UInt8))) else (some false))) = some r := by rw [if_neg (show ¬ (false = true) by decide)] at H; exact H
          clear H
          have H := H1
          clear H1
          replace H := Option.bind_eq_some_iff.mp H
          obtain ⟨t152, A690, H⟩ := H
          replace H : (if t152 = true then (some (t150.toList == ([] : List UInt8))) else (some false)) = some r := H
          have A69 := Aside0.mk A690
          clear A690
          by_cases c70 : t152 = true
          · subst c70
            have H1 : (some (t150.toList == ([] : List UInt8))) = some r := by rw [if_pos rfl] at H; exact H
            clear H
            have H := H1
            clear H1
            obtain rfl := Option.some.inj H
            go_wp2_with (first | ((with_reducible refine gate_callee (f := 9) rfl ?_); refine goesL_ (some 23) rfl rfl Try.func9 (by kernel_rfl) rfl #[.string a0] rfl (by (try simp only [List.map_toArray, List.map_cons, List.map_nil]); first | done | rfl | (simp only [List.length_drop, List.length_take]; rfl)) ?_; (with_reducible refine (scheme_Of.calls kj2 a0 t150 false _ A8.out).mono ?_); rintro e w71 ⟨rfl, hb⟩; refine ⟨_, rfl, ?_⟩; have n0_ := Aside0.mk (below_step (by repeat (first | (with_reducible first | exact HB.out | apply below_alloc | apply pw_below_drewN | apply below_drew1) | exact HB.out)) hb); clear HB; have HB := n0_; clear n0_; (try clear hb); (try clear hb2); (try clear hk); (try clear hi)) | ((with_reducible refine gate_callee (f := 8) rfl ?_); refine goesL_ (some 28) rfl rfl Try.func8 (by kernel_rfl) rfl #[] rfl (by (try simp only [List.map_toArray, List.map_cons, List.map_nil]); first | done | rfl | (simp only [List.length_drop, List.length_take]; rfl)) ?_; (with_reducible refine (marginalialaw10_alive.calls kj2  true _ A69.out).mono ?_); rintro e w72 ⟨rfl, hb⟩; refine ⟨_, rfl, ?_⟩; have n0_ := Aside0.mk (below_step (by repeat (first | (with_reducible first | exact HB.out | apply below_alloc | apply pw_below_drewN | apply below_drew1) | exact HB.out)) hb); clear HB; have HB := n0_; clear n0_; (try clear hb); (try clear hb2); (try clear hk); (try clear hi)))
            go_ret
            exact ⟨by first | rfl | (simp [errW_none, errW_some] <;> rfl) | (simp [*, errW_none, errW_some] <;> rfl), by repeat (first | (with_reducible first | exact HB.out | apply below_alloc | apply pw_below_drewN | apply below_drew1) | exact HB.out)⟩
          · replace c70 := Bool.eq_false_iff.mpr c70
            subst c70
            have H1 : (some false) = some r := by rw [if_neg (show ¬ (false = true) by decide)] at H; exact H
            clear H
            have H := H1
            clear H1
            obtain rfl := Option.some.inj H
            go_wp2_with (first | ((with_reducible refine gate_callee (f := 9) rfl ?_); refine goesL_ (some 23) rfl rfl Try.func9 (by kernel_rfl) rfl #[.string a0] rfl (by (try simp only [List.map_toArray, List.map_cons, List.map_nil]); first | done | rfl | (simp only [List.length_drop, List.length_take]; rfl)) ?_; (with_reducible refine (scheme_Of.calls kj2 a0 t150 false _ A8.out).mono ?_); rintro e w73 ⟨rfl, hb⟩; refine ⟨_, rfl, ?_⟩; have n0_ := Aside0.mk (below_step (by repeat (first | (with_reducible first | exact HB.out | apply below_alloc | apply pw_below_drewN | apply below_drew1) | exact HB.out)) hb); clear HB; have HB := n0_; clear n0_; (try clear hb); (try clear hb2); (try clear hk); (try clear hi)) | ((with_reducible refine gate_callee (f := 8) rfl ?_); refine goesL_ (some 28) rfl rfl Try.func8 (by kernel_rfl) rfl #[] rfl (by (try simp only [List.map_toArray, List.map_cons, List.map_nil]); first | done | rfl | (simp only [List.length_drop, List.length_take]; rfl)) ?_; (with_reducible refine (marginalialaw10_alive.calls kj2  false _ A69.out).mono ?_); rintro e w74 ⟨rfl, hb⟩; refine ⟨_, rfl, ?_⟩; have n0_ := Aside0.mk (below_step (by repeat (first | (with_reducible first | exact HB.out | apply below_alloc | apply pw_below_drewN | apply below_drew1) | exact HB.out)) hb); clear HB; have HB := n0_; clear n0_; (try clear hb); (try clear hb2); (try clear hk); (try clear hi)))
            go_ret
            exact ⟨by first | rfl | (simp [errW_none, errW_some] <;> rfl) | (simp [*, errW_none, errW_some] <;> rfl), by repeat (first | (with_reducible first | exact HB.out | apply below_alloc | apply pw_below_drewN | apply below_drew1) | exact HB.out)⟩

/-- THE ONE PURE STATEMENT of marginalialaw10_SchemeLetters: yours. -/
def marginalialaw10_SchemeLetters.Pure : Prop := ∀ (a0 : ByteArray) (a1 : ByteArray), a0.size ≤ 140737488351232 → a1.size ≤ 140737488351232 → ∃ k, marginalialaw10_SchemeLetters.f k a0 a1 = some true
theorem marginalialaw10_SchemeLetters.walk (P : marginalialaw10_SchemeLetters.Pure) (a0 : ByteArray) (a1 : ByteArray) (w : World) (w0 : a0.size ≤ 140737488351232) (w1 : a1.size ≤ 140737488351232) :
    Calls Try.prog 6 #[.string a0, .string a1] w fun e w' => e = .returned (.bool true) ∧ Below w.heap.size w w' := by
  obtain ⟨k, h⟩ := P a0 a1 w0 w1
  refine (marginalialaw10_SchemeLetters.calls k a0 a1 true w h).mono ?_
  rintro e w' ⟨rfl, hd⟩
  exact ⟨rfl, hd⟩

end Go.Proofs.Ythomonglhieifaa.PAll
