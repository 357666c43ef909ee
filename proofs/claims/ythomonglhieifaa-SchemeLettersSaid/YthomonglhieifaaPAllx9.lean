-- Written by a program of this session (hprint.py: the kit's print over several laws at once, with functions proved by hand). Lean checks it.
import Derived.Test.YthomonglhieifaaPAllx0
import Derived.Test.YthomonglhieifaaPAllx6
import Derived.Test.YthomonglhieifaaPAllx7
import Derived.Test.YthomonglhieifaaPAllx8
namespace Go.Proofs.Ythomonglhieifaa.PAll
open Go.RowKit Go.Proofs.YthomonglhieifaaW.PrintWords Go.Proofs.YthomonglhieifaaW.PrintLast Go.Proofs.YthomonglhieifaaW.PrintMore
attribute [local go_sem] max2_int min2_int max_two min_two max_three min_three max_four min_four   -- for this text's walks alone
set_option linter.unusedVariables false
set_option linter.unusedSimpArgs false

/-! ### marginaliaref10_Of: function 10 -/
mutual
def marginaliaref10_Of.j0 : Nat → ByteArray → Bool → Option (ByteArray × Bool)
  | 0, _, _ => none
  | k + 1, x0, x15 => if x15 = true then (some ((⟨#[]⟩ : ByteArray), false)) else (marginaliaref10_Of.l0 k x0 0)
def marginaliaref10_Of.l0 : Nat → ByteArray → Int → Option (ByteArray × Bool)
  | 0, _, _ => none
  | k + 1, x0, x4 => if x4 < (x0.size : Int) then (if 0 ≤ x4 then (if (bt x0 x4) = 58 then (if x4 ≤ (x0.size : Int) then ((marginaliaref02_Lower.f k (x0.extract 0 (x4 : Int).toNat)).bind fun t133 => (some (t133, true))) else (none)) else ((marginaliaref02_Letter.f (bt x0 x4)).bind fun t134 => (if t134 = true then (marginaliaref10_Of.l0 k x0 (wrap64 (x4 + 1))) else ((marginaliaref02_Figure.f (bt x0 x4)).bind fun t135 => (if t135 = true then (marginaliaref10_Of.l0 k x0 (wrap64 (x4 + 1))) else (if (bt x0 x4) = 43 then (marginaliaref10_Of.l0 k x0 (wrap64 (x4 + 1))) else (if (bt x0 x4) = 45 then (marginaliaref10_Of.l0 k x0 (wrap64 (x4 + 1))) else (if (bt x0 x4) = 46 then (marginaliaref10_Of.l0 k x0 (wrap64 (x4 + 1))) else (some ((⟨#[]⟩ : ByteArray), false)))))))))) else (none)) else (some ((⟨#[]⟩ : ByteArray), false))
end
def marginaliaref10_Of.f (k : Nat) (a0 : ByteArray) : Option (ByteArray × Bool) := (marginaliaref10_tidy.f k a0).bind fun t131 => (if t131.toList = ([] : List UInt8) then (marginaliaref10_Of.j0 k t131 true) else (if 0 < (t131.size : Int) then ((marginaliaref02_Letter.f (bt t131 0)).bind fun t132 => (marginaliaref10_Of.j0 k t131 (!t132))) else (none)))
theorem marginaliaref10_Of.mono_l : ∀ k, (∀ y0 y1, LeO (marginaliaref10_Of.j0 k y0 y1) (marginaliaref10_Of.j0 (k + 1) y0 y1)) ∧ (∀ y0 y1, LeO (marginaliaref10_Of.l0 k y0 y1) (marginaliaref10_Of.l0 (k + 1) y0 y1))
  | 0 => ⟨fun _ _ r h => by simp [marginaliaref10_Of.j0] at h, fun _ _ r h => by simp [marginaliaref10_Of.l0] at h⟩
  | k + 1 => by
    obtain ⟨ih0, ih1⟩ := marginaliaref10_Of.mono_l k
    refine ⟨?_, ?_⟩
    · intro y0 y1
      unfold marginaliaref10_Of.j0
      repeat' first
      | (with_reducible exact ih0 _ _)
      | (with_reducible exact ih1 _ _)
      | (with_reducible exact marginaliaref02_Lower.mono _ _)
      | (with_reducible exact marginaliaref10_tidy.mono _ _)
      | (with_reducible exact LeO.refl _)
      | (with_reducible exact LeO.none _)
      | (with_reducible refine LeO.ite ?_ ?_)
      | (with_reducible refine LeO.bind ?_ (fun _ => ?_))
      | exact ih0 _ _
      | exact ih1 _ _
      | exact marginaliaref02_Lower.mono _ _
      | exact marginaliaref10_tidy.mono _ _
      | exact LeO.none _
      | refine LeO.ite ?_ ?_
      | refine LeO.bind ?_ (fun _ => ?_)
    · intro y0 y1
      unfold marginaliaref10_Of.l0
      repeat' first
      | (with_reducible exact ih0 _ _)
      | (with_reducible exact ih1 _ _)
      | (with_reducible exact marginaliaref02_Lower.mono _ _)
      | (with_reducible exact marginaliaref10_tidy.mono _ _)
      | (with_reducible exact LeO.refl _)
      | (with_reducible exact LeO.none _)
      | (with_reducible refine LeO.ite ?_ ?_)
      | (with_reducible refine LeO.bind ?_ (fun _ => ?_))
      | exact ih0 _ _
      | exact ih1 _ _
      | exact marginaliaref02_Lower.mono _ _
      | exact marginaliaref10_tidy.mono _ _
      | exact LeO.none _
      | refine LeO.ite ?_ ?_
      | refine LeO.bind ?_ (fun _ => ?_)
theorem marginaliaref10_Of.mono : ∀ a0 k, LeO (marginaliaref10_Of.f k a0) (marginaliaref10_Of.f (k + 1) a0) := by
  intro a0 k
  obtain ⟨ih0, ih1⟩ := marginaliaref10_Of.mono_l k
  unfold marginaliaref10_Of.f
  repeat' first
      | (with_reducible exact ih0 _ _)
      | (with_reducible exact ih1 _ _)
      | (with_reducible exact marginaliaref02_Lower.mono _ _)
      | (with_reducible exact marginaliaref10_tidy.mono _ _)
      | (with_reducible exact LeO.refl _)
      | (with_reducible exact LeO.none _)
      | (with_reducible refine LeO.ite ?_ ?_)
      | (with_reducible refine LeO.bind ?_ (fun _ => ?_))
      | exact ih0 _ _
      | exact ih1 _ _
      | exact marginaliaref02_Lower.mono _ _
      | exact marginaliaref10_tidy.mono _ _
      | exact LeO.none _
      | refine LeO.ite ?_ ?_
      | refine LeO.bind ?_ (fun _ => ?_)
set_option maxHeartbeats 8000000 in
set_option maxRecDepth 100000 in
theorem marginaliaref10_Of.calls (k : Nat) (a0 : ByteArray) (r1 : ByteArray) (r2 : Bool) (w : World) (h : marginaliaref10_Of.f k a0 = some (r1, r2)) :
    Calls Try.prog 10 #[.string a0] w fun e w' => e = .returned (.tuple #[.string r1, .bool r2]) ∧ Below w.heap.size w w' := by
  have HB := Aside0.mk (Below.refl w.heap.size w)
  have H : ((marginaliaref10_tidy.f k a0).bind fun t131 => (if t131.toList = ([] : List UInt8) then (marginaliaref10_Of.j0 k t131 true) else (if 0 < (t131.size : Int) then ((marginaliaref02_Letter.f (bt t131 0)).bind fun t132 => (marginaliaref10_Of.j0 k t131 (!t132))) else (none)))) = some (r1, r2) := h
  clear h
  replace H := Option.bind_eq_some_iff.mp H
  obtain ⟨t131, A20, H⟩ := H
  replace H : (if t131.toList = ([] : List UInt8) then (marginaliaref10_Of.j0 k t131 true) else (if 0 < (t131.size : Int) then ((marginaliaref02_Letter.f (bt t131 0)).bind fun t132 => (marginaliaref10_Of.j0 k t131 (!t132))) else (none))) = some (r1, r2) := H
  have A2 := Aside0.mk A20
  clear A20
  have HC3 := Aside0.mk H
  clear H
  go_enter Try.func10, Try.ntmps10
  go_upto_region 2 with (first | ((with_reducible refine gate_callee (f := 18) rfl ?_); refine goesL_ (some 7) rfl rfl Try.func18 (by kernel_rfl) rfl #[.string a0] rfl (by (try simp only [List.map_toArray, List.map_cons, List.map_nil]); first | done | rfl | (simp only [List.length_drop, List.length_take]; rfl)) ?_; (with_reducible refine (marginaliaref10_tidy.calls k a0 t131 _ A2.out).mono ?_); rintro e w' ⟨rfl, ⟨nd, rfl⟩⟩; refine ⟨_, rfl, ?_⟩))
  (try simp only [Act.put, List.setIfInBounds_toArray, List.set_cons_zero, List.set_cons_succ])
  go_cut [15] (fun v15 wc => ∃ (kq : Nat) (x15_2 : Bool), v15 = .bool x15_2 ∧ Aside0 (marginaliaref10_Of.j0 kq t131 x15_2 = some (r1, r2)) ∧ Aside0 (kq ≤ k) ∧ Aside0 (Below w.heap.size w wc))
  case first =>
    have H := HC3.out
    clear HC3
    by_cases c4 : t131.toList = ([] : List UInt8)
    · rw [if_pos c4] at H
      have c4b0 : (t131.toList == ([] : List UInt8)) = true := beq_iff_eq.mpr c4
      have c4b1 : (t131.toList != ([] : List UInt8)) = false := bne_eq_false_iff_eq.mpr c4
      clear c4
      (first | rw [c4b0] | (simp only [i64_w, i32_w]; rw [c4b0]) | skip)
      have H' := Aside0.mk H
      clear H
      go_wp2
      go_meet
      case rel => exact ⟨_, (true), (by first | rfl | (simp; done) | (simp [*]; done)), H', ⟨by first | omega | exact Nat.le_refl _⟩, ⟨by repeat (first | (with_reducible first | exact HB.out | apply below_alloc | apply pw_below_drewN | apply below_drew1) | exact HB.out)⟩⟩
    · rw [if_neg c4] at H
      have c4b0 : (t131.toList == ([] : List UInt8)) = false := beq_eq_false_iff_ne.mpr c4
      have c4b1 : (t131.toList != ([] : List UInt8)) = true := bne_iff_ne.mpr c4
      (first | rw [c4b0] | (simp only [i64_w, i32_w]; rw [c4b0]) | skip)
      by_cases c5 : 0 < (t131.size : Int)
      · rw [if_pos c5] at H
        have c5b0 : decide (0 < (t131.size : Int)) = true := decide_eq_true c5
        have c5b1 : decide (0 < t131.size) = true := decide_eq_true (by omega)
        clear c5
        replace H := Option.bind_eq_some_iff.mp H
        obtain ⟨t132, A70, H⟩ := H
        replace H : (marginaliaref10_Of.j0 k t131 (!t132)) = some (r1, r2) := H
        have A7 := Aside0.mk A70
        clear A70
        have H' := Aside0.mk H
        clear H
        have p6 : 0 ≤ (0 : Int) := (by omega)
        have q6 : 0 < t131.size := (by have : (0 : Int) < (t131.size : Int) := of_decide_eq_true (by first | (with_reducible assumption) | assumption); omega)
        have hx6 : ∀ h : 0 < t131.size, ((t131[0]'h).toNat : Int) = bt t131 0 := bt_at t131 0
        clear p6
        have qi6 : (0 < (t131.size : Int)) = True := eq_true (of_decide_eq_true (by first | (with_reducible assumption) | assumption))
        replace q6 := eq_true q6
        go_wp2_with (first | (go_at_call 19; (with_reducible refine (marginaliaref02_Letter.calls (bt t131 0) t132 _ A7.out).mono ?_); rintro e w' ⟨rfl, ⟨nd, rfl⟩⟩))
        go_meet
        case rel => exact ⟨_, (!t132), (by first | rfl | (simp; done) | (simp [*]; done)), H', ⟨by first | omega | exact Nat.le_refl _⟩, ⟨by repeat (first | (with_reducible first | exact HB.out | apply below_alloc | apply pw_below_drewN | apply below_drew1) | exact HB.out)⟩⟩
      · rw [if_neg c5] at H
        exact absurd H (by simp)
  case rest =>
    clear HC3
    try clear c1
    try clear p2
    try clear c4
    try clear c4b0
    try clear c4b1
    try clear c5
    try clear c5b0
    try clear c5b1
    try clear p6
    try clear q6
    try clear hx6
    try clear qi6
    try clear p6
    try clear q6
    obtain ⟨kq, x15_2, rfl, HA, HJ2, HB⟩ := hcut
    cases kq with
    | zero => exact absurd HA.out (by simp [marginaliaref10_Of.j0])
    | succ kj2 =>
      have H := HA.out
      clear HA
      simp only [marginaliaref10_Of.j0] at H
      by_cases c8 : x15_2 = true
      · subst c8
        have H1 : (some ((⟨#[]⟩ : ByteArray), false)) = some (r1, r2) := by rw [if_pos rfl] at H; exact H
        clear H
        have H := H1
        clear H1
        simp only [Option.some.injEq, Prod.mk.injEq] at H
        obtain ⟨rfl, rfl⟩ := H
        go_wp2
        go_ret2
        exact ⟨by first | rfl | (simp [errW_none, errW_some] <;> rfl) | (simp [*, errW_none, errW_some] <;> rfl), by repeat (first | (with_reducible first | exact HB.out | apply below_alloc | apply pw_below_drewN | apply below_drew1) | exact HB.out)⟩
      · replace c8 := Bool.eq_false_iff.mpr c8
        subst c8
        have H1 : (marginaliaref10_Of.l0 kj2 t131 0) = some (r1, r2) := by rw [if_neg (show ¬ (false = true) by decide)] at H; exact H
        clear H
        have H := H1
        clear H1
        have H' := Aside0.mk H
        clear H
        go_wp2
        go_loopg [4] kj2 (fun kq v4 w' => ∃ (x4_2 : Int), v4 = .int .i64 x4_2 ∧ Aside0 (marginaliaref10_Of.l0 kq t131 x4_2 = some (r1, r2)) ∧ Aside0 (kq ≤ kj2) ∧ Aside0 (Below w.heap.size w w'))
        case atStart => exact ⟨(0), (by first | rfl | (simp; done) | (simp [*]; done)), H', ⟨Nat.le_refl _⟩, ⟨by repeat (first | (with_reducible first | exact HB.out | apply below_alloc | apply pw_below_drewN | apply below_drew1) | exact HB.out)⟩⟩
        case round =>
          clear H'
          try clear c1
          try clear p2
          try clear c4
          try clear c4b0
          try clear c4b1
          try clear c5
          try clear c5b0
          try clear c5b1
          try clear p6
          try clear q6
          try clear hx6
          try clear qi6
          try clear c8
          try clear p2
          try clear p6
          try clear q6
          obtain ⟨x4_2, rfl, HA, HK2, HB⟩ := hrel
          cases gk with
          | zero => exact absurd HA.out (by simp [marginaliaref10_Of.l0])
          | succ k2 =>
            have H := HA.out
            clear HA
            simp only [marginaliaref10_Of.l0] at H
            by_cases c9 : x4_2 < (t131.size : Int)
            · rw [if_pos c9] at H
              have c9b0 : decide (x4_2 < (t131.size : Int)) = true := decide_eq_true c9
              clear c9
              by_cases c10 : 0 ≤ x4_2
              · rw [if_pos c10] at H
                have c10b0 : decide (0 ≤ x4_2) = true := decide_eq_true c10
                clear c10
                by_cases c12 : (bt t131 x4_2) = 58
                · rw [if_pos c12] at H
                  have c12b0 : ((bt t131 x4_2) == 58) = true := beq_iff_eq.mpr c12
                  have c12b1 : ((bt t131 x4_2) != 58) = false := bne_eq_false_iff_eq.mpr c12
                  clear c12
                  have c13b0 := eq_true (of_decide_eq_true (by first | (with_reducible assumption) | assumption) : 0 ≤ x4_2)
                  by_cases c14 : x4_2 ≤ (t131.size : Int)
                  · rw [if_pos c14] at H
                    have c14b0 := eq_true c14
                    have c14b1 : decide (x4_2 ≤ (t131.size : Int)) = true := decide_eq_true c14
                    clear c14
                    replace H := Option.bind_eq_some_iff.mp H
                    obtain ⟨t133, A150, H⟩ := H
                    replace H : (some (t133, true)) = some (r1, r2) := H
                    have A15 := Aside0.mk A150
                    clear A150
                    simp only [Option.some.injEq, Prod.mk.injEq] at H
                    obtain ⟨rfl, rfl⟩ := H
                    have p11 : 0 ≤ (x4_2 : Int) := of_decide_eq_true (by first | (with_reducible assumption) | assumption)
                    have q11 : x4_2 < (t131.size : Int) := of_decide_eq_true (by first | (with_reducible assumption) | assumption)
                    have hx11 := bt_at t131 x4_2
                    replace p11 := eq_true p11
                    replace q11 := eq_true q11
                    go_wp2_with (first | ((with_reducible refine gate_callee (f := 20) rfl ?_); refine goesL_ (some 30) rfl rfl Try.func20 (by kernel_rfl) rfl #[.string (t131.extract 0 (x4_2 : Int).toNat)] rfl (by (try simp only [List.map_toArray, List.map_cons, List.map_nil]); first | done | rfl | (simp only [List.length_drop, List.length_take]; rfl)) ?_; (with_reducible refine (marginaliaref02_Lower.calls k2 (t131.extract 0 (x4_2 : Int).toNat) t133 _ A15.out).mono ?_); rintro e w16 ⟨rfl, hb⟩; refine ⟨_, rfl, ?_⟩; have n0_ := Aside0.mk (below_step (by repeat (first | (with_reducible first | exact HB.out | apply below_alloc | apply pw_below_drewN | apply below_drew1) | exact HB.out)) hb); clear HB; have HB := n0_; clear n0_; (try clear hb); (try clear hb2); (try clear hk); (try clear hi)))
                    go_ret2
                    exact ⟨by first | rfl | (simp [errW_none, errW_some] <;> rfl) | (simp [*, errW_none, errW_some] <;> rfl), by repeat (first | (with_reducible first | exact HB.out | apply below_alloc | apply pw_below_drewN | apply below_drew1) | exact HB.out)⟩
                  · rw [if_neg c14] at H
                    exact absurd H (by simp)
                · rw [if_neg c12] at H
                  have c12b0 : ((bt t131 x4_2) == 58) = false := beq_eq_false_iff_ne.mpr c12
                  have c12b1 : ((bt t131 x4_2) != 58) = true := bne_iff_ne.mpr c12
                  replace H := Option.bind_eq_some_iff.mp H
                  obtain ⟨t134, A170, H⟩ := H
                  replace H : (if t134 = true then (marginaliaref10_Of.l0 k2 t131 (wrap64 (x4_2 + 1))) else ((marginaliaref02_Figure.f (bt t131 x4_2)).bind fun t135 => (if t135 = true then (marginaliaref10_Of.l0 k2 t131 (wrap64 (x4_2 + 1))) else (if (bt t131 x4_2) = 43 then (marginaliaref10_Of.l0 k2 t131 (wrap64 (x4_2 + 1))) else (if (bt t131 x4_2) = 45 then (marginaliaref10_Of.l0 k2 t131 (wrap64 (x4_2 + 1))) else (if (bt t131 x4_2) = 46 then (marginaliaref10_Of.l0 k2 t131 (wrap64 (x4_2 + 1))) else (some ((⟨#[]⟩ : ByteArray), false)))))))) = some (r1, r2) := H
                  have A17 := Aside0.mk A170
                  clear A170
                  by_cases c18 : t134 = true
                  · subst c18
                    have H1 : (marginaliaref10_Of.l0 k2 t131 (wrap64 (x4_2 + 1))) = some (r1, r2) := by rw [if_pos rfl] at H; exact H
                    clear H
                    have H := H1
                    clear H1
                    have H' := Aside0.mk H
                    clear H
                    have p11 : 0 ≤ (x4_2 : Int) := of_decide_eq_true (by first | (with_reducible assumption) | assumption)
                    have q11 : x4_2 < (t131.size : Int) := of_decide_eq_true (by first | (with_reducible assumption) | assumption)
                    have hx11 := bt_at t131 x4_2
                    replace p11 := eq_true p11
                    replace q11 := eq_true q11
                    go_wp2_with (first | ((with_reducible refine gate_callee (f := 19) rfl ?_); refine goesL_ (some 32) rfl rfl Try.func19 (by kernel_rfl) rfl #[.int .u8 (bt t131 x4_2)] rfl (by (try simp only [List.map_toArray, List.map_cons, List.map_nil]); first | done | rfl | (simp only [List.length_drop, List.length_take]; rfl)) ?_; (with_reducible refine (marginaliaref02_Letter.calls (bt t131 x4_2) true _ A17.out).mono ?_); rintro e w' ⟨rfl, ⟨nd, rfl⟩⟩; refine ⟨_, rfl, ?_⟩))
                    go_roundg k2
                    case measure => have := HJ2.out; have := HK2.out; omega
                    case rel => exact ⟨(wrap64 (x4_2 + 1)), (by first | rfl | (simp; done) | (simp [*]; done)), H', ⟨by have := HJ2.out; have := HK2.out; omega⟩, ⟨by repeat (first | (with_reducible first | exact HB.out | apply below_alloc | apply pw_below_drewN | apply below_drew1) | exact HB.out)⟩⟩
                  · replace c18 := Bool.eq_false_iff.mpr c18
                    subst c18
                    have H1 : ((marginaliaref02_Figure.f (bt t131 x4_2)).bind fun t135 => (if t135 = true then (marginaliaref10_Of.l0 k2 t131 (wrap64 (x4_2 + 1))) else (if (bt t131 x4_2) = 43 then (marginaliaref10_Of.l0 k2 t131 (wrap64 (x4_2 + 1))) else (if (bt t131 x4_2) = 45 then (marginaliaref10_Of.l0 k2 t131 (wrap64 (x4_2 + 1))) else (if (bt t131 x4_2) = 46 then (marginaliaref10_Of.l0 k2 t131 (wrap64 (x4_2 + 1))) else (some ((⟨#[]⟩ : ByteArray), false))))))) = some (r1, r2) := by rw [if_neg (show ¬ (false = true) by decide)] at H; exact H
                    clear H
                    have H := H1
                    clear H1
                    replace H := Option.bind_eq_some_iff.mp H
                    obtain ⟨t135, A190, H⟩ := H
                    replace H : (if t135 = true then (marginaliaref10_Of.l0 k2 t131 (wrap64 (x4_2 + 1))) else (if (bt t131 x4_2) = 43 then (marginaliaref10_Of.l0 k2 t131 (wrap64 (x4_2 + 1))) else (if (bt t131 x4_2) = 45 then (marginaliaref10_Of.l0 k2 t131 (wrap64 (x4_2 + 1))) else (if (bt t131 x4_2) = 46 then (marginaliaref10_Of.l0 k2 t131 (wrap64 (x4_2 + 1))) else (some ((⟨#[]⟩ : ByteArray), false)))))) = some (r1, r2) := H
                    have A19 := Aside0.mk A190
                    clear A190
                    by_cases c20 : t135 = true
                    · subst c20
                      have H1 : (marginaliaref10_Of.l0 k2 t131 (wrap64 (x4_2 + 1))) = some (r1, r2) := by rw [if_pos rfl] at H; exact H
                      clear H
                      have H := H1
                      clear H1
                      have H' := Aside0.mk H
                      clear H
                      have p11 : 0 ≤ (x4_2 : Int) := of_decide_eq_true (by first | (with_reducible assumption) | assumption)
                      have q11 : x4_2 < (t131.size : Int) := of_decide_eq_true (by first | (with_reducible assumption) | assumption)
                      have hx11 := bt_at t131 x4_2
                      replace p11 := eq_true p11
                      replace q11 := eq_true q11
                      go_wp2_with (first | ((with_reducible refine gate_callee (f := 19) rfl ?_); refine goesL_ (some 32) rfl rfl Try.func19 (by kernel_rfl) rfl #[.int .u8 (bt t131 x4_2)] rfl (by (try simp only [List.map_toArray, List.map_cons, List.map_nil]); first | done | rfl | (simp only [List.length_drop, List.length_take]; rfl)) ?_; (with_reducible refine (marginaliaref02_Letter.calls (bt t131 x4_2) false _ A17.out).mono ?_); rintro e w' ⟨rfl, ⟨nd, rfl⟩⟩; refine ⟨_, rfl, ?_⟩) | (go_at_call 21; (with_reducible refine (marginaliaref02_Figure.calls (bt t131 x4_2) true _ A19.out).mono ?_); rintro e w' ⟨rfl, ⟨nd, rfl⟩⟩))
                      go_roundg k2
                      case measure => have := HJ2.out; have := HK2.out; omega
                      case rel => exact ⟨(wrap64 (x4_2 + 1)), (by first | rfl | (simp; done) | (simp [*]; done)), H', ⟨by have := HJ2.out; have := HK2.out; omega⟩, ⟨by repeat (first | (with_reducible first | exact HB.out | apply below_alloc | apply pw_below_drewN | apply below_drew1) | exact HB.out)⟩⟩
                    · replace c20 := Bool.eq_false_iff.mpr c20
                      subst c20
                      have H1 : (if (bt t131 x4_2) = 43 then (marginaliaref10_Of.l0 k2 t131 (wrap64 (x4_2 + 1))) else (if (bt t131 x4_2) = 45 then (marginaliaref10_Of.l0 k2 t131 (wrap64 (x4_2 + 1))) else (if (bt t131 x4_2) = 46 then (marginaliaref10_Of.l0 k2 t131 (wrap64 (x4_2 + 1))) else (some ((⟨#[]⟩ : ByteArray), false))))) = some (r1, r2) := by rw [if_neg (show ¬ (false = true) by decide)] at H; exact H
                      clear H
                      have H := H1
                      clear H1
                      by_cases c21 : (bt t131 x4_2) = 43
                      · rw [if_pos c21] at H
                        have c21b0 : ((bt t131 x4_2) == 43) = true := beq_iff_eq.mpr c21
                        have c21b1 : ((bt t131 x4_2) != 43) = false := bne_eq_false_iff_eq.mpr c21
                        clear c21
                        have H' := Aside0.mk H
                        clear H
                        have p11 : 0 ≤ (x4_2 : Int) := of_decide_eq_true (by first | (with_reducible assumption) | assumption)
                        have q11 : x4_2 < (t131.size : Int) := of_decide_eq_true (by first | (with_reducible assumption) | assumption)
                        have hx11 := bt_at t131 x4_2
                        replace p11 := eq_true p11
                        replace q11 := eq_true q11
                        go_wp2_with (first | ((with_reducible refine gate_callee (f := 19) rfl ?_); refine goesL_ (some 32) rfl rfl Try.func19 (by kernel_rfl) rfl #[.int .u8 (bt t131 x4_2)] rfl (by (try simp only [List.map_toArray, List.map_cons, List.map_nil]); first | done | rfl | (simp only [List.length_drop, List.length_take]; rfl)) ?_; (with_reducible refine (marginaliaref02_Letter.calls (bt t131 x4_2) false _ A17.out).mono ?_); rintro e w' ⟨rfl, ⟨nd, rfl⟩⟩; refine ⟨_, rfl, ?_⟩) | (go_at_call 21; (with_reducible refine (marginaliaref02_Figure.calls (bt t131 x4_2) false _ A19.out).mono ?_); rintro e w' ⟨rfl, ⟨nd, rfl⟩⟩))
                        go_roundg k2
                        case measure => have := HJ2.out; have := HK2.out; omega
                        case rel => exact ⟨(wrap64 (x4_2 + 1)), (by first | rfl | (simp; done) | (simp [*]; done)), H', ⟨by have := HJ2.out; have := HK2.out; omega⟩, ⟨by repeat (first | (with_reducible first | exact HB.out | apply below_alloc | apply pw_below_drewN | apply below_drew1) | exact HB.out)⟩⟩
                      · rw [if_neg c21] at H
                        have c21b0 : ((bt t131 x4_2) == 43) = false := beq_eq_false_iff_ne.mpr c21
                        have c21b1 : ((bt t131 x4_2) != 43) = true := bne_iff_ne.mpr c21
                        by_cases c22 : (bt t131 x4_2) = 45
                        · rw [if_pos c22] at H
                          have c22b0 : ((bt t131 x4_2) == 45) = true := beq_iff_eq.mpr c22
                          have c22b1 : ((bt t131 x4_2) != 45) = false := bne_eq_false_iff_eq.mpr c22
                          clear c22
                          have H' := Aside0.mk H
                          clear H
                          have p11 : 0 ≤ (x4_2 : Int) := of_decide_eq_true (by first | (with_reducible assumption) | assumption)
                          have q11 : x4_2 < (t131.size : Int) := of_decide_eq_true (by first | (with_reducible assumption) | assumption)
                          have hx11 := bt_at t131 x4_2
                          replace p11 := eq_true p11
                          replace q11 := eq_true q11
                          go_wp2_with (first | ((with_reducible refine gate_callee (f := 19) rfl ?_); refine goesL_ (some 32) rfl rfl Try.func19 (by kernel_rfl) rfl #[.int .u8 (bt t131 x4_2)] rfl (by (try simp only [List.map_toArray, List.map_cons, List.map_nil]); first | done | rfl | (simp only [List.length_drop, List.length_take]; rfl)) ?_; (with_reducible refine (marginaliaref02_Letter.calls (bt t131 x4_2) false _ A17.out).mono ?_); rintro e w' ⟨rfl, ⟨nd, rfl⟩⟩; refine ⟨_, rfl, ?_⟩) | (go_at_call 21; (with_reducible refine (marginaliaref02_Figure.calls (bt t131 x4_2) false _ A19.out).mono ?_); rintro e w' ⟨rfl, ⟨nd, rfl⟩⟩))
                          go_roundg k2
                          case measure => have := HJ2.out; have := HK2.out; omega
                          case rel => exact ⟨(wrap64 (x4_2 + 1)), (by first | rfl | (simp; done) | (simp [*]; done)), H', ⟨by have := HJ2.out; have := HK2.out; omega⟩, ⟨by repeat (first | (with_reducible first | exact HB.out | apply below_alloc | apply pw_below_drewN | apply below_drew1) | exact HB.out)⟩⟩
                        · rw [if_neg c22] at H
                          have c22b0 : ((bt t131 x4_2) == 45) = false := beq_eq_false_iff_ne.mpr c22
                          have c22b1 : ((bt t131 x4_2) != 45) = true := bne_iff_ne.mpr c22
                          by_cases c23 : (bt t131 x4_2) = 46
                          · rw [if_pos c23] at H
                            have c23b0 : ((bt t131 x4_2) == 46) = true := beq_iff_eq.mpr c23
                            have c23b1 : ((bt t131 x4_2) != 46) = false := bne_eq_false_iff_eq.mpr c23
                            clear c23
                            have H' := Aside0.mk H
                            clear H
                            have p11 : 0 ≤ (x4_2 : Int) := of_decide_eq_true (by first | (with_reducible assumption) | assumption)
                            have q11 : x4_2 < (t131.size : Int) := of_decide_eq_true (by first | (with_reducible assumption) | assumption)
                            have hx11 := bt_at t131 x4_2
                            replace p11 := eq_true p11
                            replace q11 := eq_true q11
                            go_wp2_with (first | ((with_reducible refine gate_callee (f := 19) rfl ?_); refine goesL_ (some 32) rfl rfl Try.func19 (by kernel_rfl) rfl #[.int .u8 (bt t131 x4_2)] rfl (by (try simp only [List.map_toArray, List.map_cons, List.map_nil]); first | done | rfl | (simp only [List.length_drop, List.length_take]; rfl)) ?_; (with_reducible refine (marginaliaref02_Letter.calls (bt t131 x4_2) false _ A17.out).mono ?_); rintro e w' ⟨rfl, ⟨nd, rfl⟩⟩; refine ⟨_, rfl, ?_⟩) | (go_at_call 21; (with_reducible refine (marginaliaref02_Figure.calls (bt t131 x4_2) false _ A19.out).mono ?_); rintro e w' ⟨rfl, ⟨nd, rfl⟩⟩))
                            go_roundg k2
                            case measure => have := HJ2.out; have := HK2.out; omega
                            case rel => exact ⟨(wrap64 (x4_2 + 1)), (by first | rfl | (simp; done) | (simp [*]; done)), H', ⟨by have := HJ2.out; have := HK2.out; omega⟩, ⟨by repeat (first | (with_reducible first | exact HB.out | apply below_alloc | apply pw_below_drewN | apply below_drew1) | exact HB.out)⟩⟩
                          · rw [if_neg c23] at H
                            have c23b0 : ((bt t131 x4_2) == 46) = false := beq_eq_false_iff_ne.mpr c23
                            have c23b1 : ((bt t131 x4_2) != 46) = true := bne_iff_ne.mpr c23
                            simp only [Option.some.injEq, Prod.mk.injEq] at H
                            obtain ⟨rfl, rfl⟩ := H
                            have p11 : 0 ≤ (x4_2 : Int) := of_decide_eq_true (by first | (with_reducible assumption) | assumption)
                            have q11 : x4_2 < (t131.size : Int) := of_decide_eq_true (by first | (with_reducible assumption) | assumption)
                            have hx11 := bt_at t131 x4_2
                            replace p11 := eq_true p11
                            replace q11 := eq_true q11
                            go_wp2_with (first | ((with_reducible refine gate_callee (f := 19) rfl ?_); refine goesL_ (some 32) rfl rfl Try.func19 (by kernel_rfl) rfl #[.int .u8 (bt t131 x4_2)] rfl (by (try simp only [List.map_toArray, List.map_cons, List.map_nil]); first | done | rfl | (simp only [List.length_drop, List.length_take]; rfl)) ?_; (with_reducible refine (marginaliaref02_Letter.calls (bt t131 x4_2) false _ A17.out).mono ?_); rintro e w' ⟨rfl, ⟨nd, rfl⟩⟩; refine ⟨_, rfl, ?_⟩) | (go_at_call 21; (with_reducible refine (marginaliaref02_Figure.calls (bt t131 x4_2) false _ A19.out).mono ?_); rintro e w' ⟨rfl, ⟨nd, rfl⟩⟩))
                            go_ret2
                            exact ⟨by first | rfl | (simp [errW_none, errW_some] <;> rfl) | (simp [*, errW_none, errW_some] <;> rfl), by repeat (first | (with_reducible first | exact HB.out | apply below_alloc | apply pw_below_drewN | apply below_drew1) | exact HB.out)⟩
              · rw [if_neg c10] at H
                exact absurd H (by simp)
            · rw [if_neg c9] at H
              have c9b0 : decide (x4_2 < (t131.size : Int)) = false := decide_eq_false c9
              clear c9
              simp only [Option.some.injEq, Prod.mk.injEq] at H
              obtain ⟨rfl, rfl⟩ := H
              go_wp2
              go_ret2
              exact ⟨by first | rfl | (simp [errW_none, errW_some] <;> rfl) | (simp [*, errW_none, errW_some] <;> rfl), by repeat (first | (with_reducible first | exact HB.out | apply below_alloc | apply pw_below_drewN | apply below_drew1) | exact HB.out)⟩

/-! ### marginalialaw10_SchemeOf: function 3 -/
def marginalialaw10_SchemeOf.f (k : Nat) (a0 : ByteArray) : Option (Bool) := if (a0.size : Int) > 200 then ((marginalialaw10_alive.f k).bind fun t136 => (some t136)) else ((scheme_Of.f k a0).bind fun bt137 => ((marginaliaref10_Of.f k a0).bind fun bt139 => ((marginalialaw10_alive.f k).bind fun t141 => (if t141 = true then (if bt137.1.toList = bt139.1.toList then (some (bt137.2 == bt139.2)) else (some false)) else (some false)))))
theorem marginalialaw10_SchemeOf.mono : ∀ a0 k, LeO (marginalialaw10_SchemeOf.f k a0) (marginalialaw10_SchemeOf.f (k + 1) a0) := by
  intro a0 k
  unfold marginalialaw10_SchemeOf.f
  repeat' first
      | (with_reducible exact marginalialaw10_alive.mono _)
      | (with_reducible exact marginaliaref10_Of.mono _ _)
      | (with_reducible exact scheme_Of.mono _ _)
      | (with_reducible exact LeO.refl _)
      | (with_reducible exact LeO.none _)
      | (with_reducible refine LeO.ite ?_ ?_)
      | (with_reducible refine LeO.bind ?_ (fun _ => ?_))
      | exact marginalialaw10_alive.mono _
      | exact marginaliaref10_Of.mono _ _
      | exact scheme_Of.mono _ _
      | exact LeO.none _
      | refine LeO.ite ?_ ?_
      | refine LeO.bind ?_ (fun _ => ?_)
set_option maxHeartbeats 8000000 in
set_option maxRecDepth 100000 in
theorem marginalialaw10_SchemeOf.calls (k : Nat) (a0 : ByteArray) (r : Bool) (w : World) (h : marginalialaw10_SchemeOf.f k a0 = some r) :
    Calls Try.prog 3 #[.string a0] w fun e w' => e = .returned (.bool r) ∧ Below w.heap.size w w' := by
  have HB := Aside0.mk (Below.refl w.heap.size w)
  have H : (if (a0.size : Int) > 200 then ((marginalialaw10_alive.f k).bind fun t136 => (some t136)) else ((scheme_Of.f k a0).bind fun bt137 => ((marginaliaref10_Of.f k a0).bind fun bt139 => ((marginalialaw10_alive.f k).bind fun t141 => (if t141 = true then (if bt137.1.toList = bt139.1.toList then (some (bt137.2 == bt139.2)) else (some false)) else (some false)))))) = some r := h
  clear h
  by_cases c2 : (a0.size : Int) > 200
  · rw [if_pos c2] at H
    have c2b0 : decide (200 < (a0.size : Int)) = true := decide_eq_true c2
    have c2b1 : decide (200 < a0.size) = true := decide_eq_true (by omega)
    clear c2
    replace H := Option.bind_eq_some_iff.mp H
    obtain ⟨t136, A30, H⟩ := H
    replace H : (some t136) = some r := H
    have A3 := Aside0.mk A30
    clear A30
    obtain rfl := Option.some.inj H
    go_enter Try.func3, Try.ntmps3
    go_wp2_with (first | ((with_reducible refine gate_callee (f := 8) rfl ?_); refine goesL_ (some 10) rfl rfl Try.func8 (by kernel_rfl) rfl #[] rfl (by (try simp only [List.map_toArray, List.map_cons, List.map_nil]); first | done | rfl | (simp only [List.length_drop, List.length_take]; rfl)) ?_; (with_reducible refine (marginalialaw10_alive.calls k  t136 _ A3.out).mono ?_); rintro e w4 ⟨rfl, hb⟩; refine ⟨_, rfl, ?_⟩; have n0_ := Aside0.mk (below_step (by repeat (first | (with_reducible first | exact HB.out | apply below_alloc | apply pw_below_drewN | apply below_drew1) | exact HB.out)) hb); clear HB; have HB := n0_; clear n0_; (try clear hb); (try clear hb2); (try clear hk); (try clear hi)))
    go_ret
    exact ⟨by first | rfl | (simp [errW_none, errW_some] <;> rfl) | (simp [*, errW_none, errW_some] <;> rfl), by repeat (first | (with_reducible first | exact HB.out | apply below_alloc | apply pw_below_drewN | apply below_drew1) | exact HB.out)⟩
  · rw [if_neg c2] at H
    have c2b0 : decide (200 < (a0.size : Int)) = false := decide_eq_false c2
    have c2b1 : decide (200 < a0.size) = false := decide_eq_false (by omega)
    clear c2
    replace H := Option.bind_eq_some_iff.mp H
    obtain ⟨⟨t137, t138⟩, A50, H⟩ := H
    replace H : ((marginaliaref10_Of.f k a0).bind fun bt139 => ((marginalialaw10_alive.f k).bind fun t141 => (if t141 = true then (if t137.toList = bt139.1.toList then (some (t138 == bt139.2)) else (some false)) else (some false)))) = some r := H
    have A5 := Aside0.mk A50
    clear A50
    replace H := Option.bind_eq_some_iff.mp H
    obtain ⟨⟨t139, t140⟩, A60, H⟩ := H
    replace H : ((marginalialaw10_alive.f k).bind fun t141 => (if t141 = true then (if t137.toList = t139.toList then (some (t138 == t140)) else (some false)) else (some false))) = some r := H
    have A6 := Aside0.mk A60
    clear A60
    replace H := Option.bind_eq_some_iff.mp H
    obtain ⟨t141, A70, H⟩ := H
    replace H : (if t141 = true then (if t137.toList = t139.toList then (some (t138 == t140)) else (some false)) else (some false)) = some r := H
    have A7 := Aside0.mk A70
    clear A70
    by_cases c8 : t141 = true
    · subst c8
      have H1 : (if t137.toList = t139.toList then (some (t138 == t140)) else (some false)) = some r := by rw [if_pos rfl] at H; exact H
      clear H
      have H := H1
      clear H1
      by_cases c9 : t137.toList = t139.toList
      · rw [if_pos c9] at H
        have c9b0 : (t137.toList == t139.toList) = true := beq_iff_eq.mpr c9
        have c9b1 : (t137.toList != t139.toList) = false := bne_eq_false_iff_eq.mpr c9
        clear c9
        obtain rfl := Option.some.inj H
        go_enter Try.func3, Try.ntmps3
        go_wp2_with (first | ((with_reducible refine gate_callee (f := 9) rfl ?_); refine goesL_ (some 13) rfl rfl Try.func9 (by kernel_rfl) rfl #[.string a0] rfl (by (try simp only [List.map_toArray, List.map_cons, List.map_nil]); first | done | rfl | (simp only [List.length_drop, List.length_take]; rfl)) ?_; (with_reducible refine (scheme_Of.calls k a0 t137 t138 _ A5.out).mono ?_); rintro e w10 ⟨rfl, hb⟩; refine ⟨_, rfl, ?_⟩; have n0_ := Aside0.mk (below_step (by repeat (first | (with_reducible first | exact HB.out | apply below_alloc | apply pw_below_drewN | apply below_drew1) | exact HB.out)) hb); clear HB; have HB := n0_; clear n0_; (try clear hb); (try clear hb2); (try clear hk); (try clear hi)) | ((with_reducible refine gate_callee (f := 10) rfl ?_); refine goesL_ (some 18) rfl rfl Try.func10 (by kernel_rfl) rfl #[.string a0] rfl (by (try simp only [List.map_toArray, List.map_cons, List.map_nil]); first | done | rfl | (simp only [List.length_drop, List.length_take]; rfl)) ?_; (with_reducible refine (marginaliaref10_Of.calls k a0 t139 t140 _ A6.out).mono ?_); rintro e w11 ⟨rfl, hb⟩; refine ⟨_, rfl, ?_⟩; have n0_ := Aside0.mk (below_step (by repeat (first | (with_reducible first | exact HB.out | apply below_alloc | apply pw_below_drewN | apply below_drew1) | exact HB.out)) hb); clear HB; have HB := n0_; clear n0_; (try clear hb); (try clear hb2); (try clear hk); (try clear hi)) | ((with_reducible refine gate_callee (f := 8) rfl ?_); refine goesL_ (some 21) rfl rfl Try.func8 (by kernel_rfl) rfl #[] rfl (by (try simp only [List.map_toArray, List.map_cons, List.map_nil]); first | done | rfl | (simp only [List.length_drop, List.length_take]; rfl)) ?_; (with_reducible refine (marginalialaw10_alive.calls k  true _ A7.out).mono ?_); rintro e w12 ⟨rfl, hb⟩; refine ⟨_, rfl, ?_⟩; have n0_ := Aside0.mk (below_step (by repeat (first | (with_reducible first | exact HB.out | apply below_alloc | apply pw_below_drewN | apply below_drew1) | exact HB.out)) hb); clear HB; have HB := n0_; clear n0_; (try clear hb); (try clear hb2); (try clear hk); (try clear hi)))
        go_ret
        exact ⟨by first | rfl | (simp [errW_none, errW_some] <;> rfl) | (simp [*, errW_none, errW_some] <;> rfl), by repeat (first | (with_reducible first | exact HB.out | apply below_alloc | apply pw_below_drewN | apply below_drew1) | exact HB.out)⟩
      · rw [if_neg c9] at H
        have c9b0 : (t137.toList == t139.toList) = false := beq_eq_false_iff_ne.mpr c9
        have c9b1 : (t137.toList != t139.toList) = true := bne_iff_ne.mpr c9
        obtain rfl := Option.some.inj H
        go_enter Try.func3, Try.ntmps3
        go_wp2_with (first | ((with_reducible refine gate_callee (f := 9) rfl ?_); refine goesL_ (some 13) rfl rfl Try.func9 (by kernel_rfl) rfl #[.string a0] rfl (by (try simp only [List.map_toArray, List.map_cons, List.map_nil]); first | done | rfl | (simp only [List.length_drop, List.length_take]; rfl)) ?_; (with_reducible refine (scheme_Of.calls k a0 t137 t138 _ A5.out).mono ?_); rintro e w13 ⟨rfl, hb⟩; refine ⟨_, rfl, ?_⟩; have n0_ := Aside0.mk (below_step (by repeat (first | (with_reducible first | exact HB.out | apply below_alloc | apply pw_below_drewN | apply below_drew1) | exact HB.out)) hb); clear HB; have HB := n0_; clear n0_; (try clear hb); (try clear hb2); (try clear hk); (try clear hi)) | ((with_reducible refine gate_callee (f := 10) rfl ?_); refine goesL_ (some 18) rfl rfl Try.func10 (by kernel_rfl) rfl #[.string a0] rfl (by (try simp only [List.map_toArray, List.map_cons, List.map_nil]); first | done | rfl | (simp only [List.length_drop, List.length_take]; rfl)) ?_; (with_reducible refine (marginaliaref10_Of.calls k a0 t139 t140 _ A6.out).mono ?_); rintro e w14 ⟨rfl, hb⟩; refine ⟨_, rfl, ?_⟩; have n0_ := Aside0.mk (below_step (by repeat (first | (with_reducible first | exact HB.out | apply below_alloc | apply pw_below_drewN | apply below_drew1) | exact HB.out)) hb); clear HB; have HB := n0_; clear n0_; (try clear hb); (try clear hb2); (try clear hk); (try clear hi)) | ((with_reducible refine gate_callee (f := 8) rfl ?_); refine goesL_ (some 21) rfl rfl Try.func8 (by kernel_rfl) rfl #[] rfl (by (try simp only [List.map_toArray, List.map_cons, List.map_nil]); first | done | rfl | (simp only [List.length_drop, List.length_take]; rfl)) ?_; (with_reducible refine (marginalialaw10_alive.calls k  true _ A7.out).mono ?_); rintro e w15 ⟨rfl, hb⟩; refine ⟨_, rfl, ?_⟩; have n0_ := Aside0.mk (below_step (by repeat (first | (with_reducible first | exact HB.out | apply below_alloc | apply pw_below_drewN | apply below_drew1) | exact HB.out)) hb); clear HB; have HB := n0_; clear n0_; (try clear hb); (try clear hb2); (try clear hk); (try clear hi)))
        go_ret
        exact ⟨by first | rfl | (simp [errW_none, errW_some] <;> rfl) | (simp [*, errW_none, errW_some] <;> rfl), by repeat (first | (with_reducible first | exact HB.out | apply below_alloc | apply pw_below_drewN | apply below_drew1) | exact HB.out)⟩
    · replace c8 := Bool.eq_false_iff.mpr c8
      subst c8
      have H1 : (some false) = some r := by rw [if_neg (show ¬ (false = true) by decide)] at H; exact H
      clear H
      have H := H1
      clear H1
      obtain rfl := Option.some.inj H
      go_enter Try.func3, Try.ntmps3
      go_wp2_with (first | ((with_reducible refine gate_callee (f := 9) rfl ?_); refine goesL_ (some 13) rfl rfl Try.func9 (by kernel_rfl) rfl #[.string a0] rfl (by (try simp only [List.map_toArray, List.map_cons, List.map_nil]); first | done | rfl | (simp only [List.length_drop, List.length_take]; rfl)) ?_; (with_reducible refine (scheme_Of.calls k a0 t137 t138 _ A5.out).mono ?_); rintro e w16 ⟨rfl, hb⟩; refine ⟨_, rfl, ?_⟩; have n0_ := Aside0.mk (below_step (by repeat (first | (with_reducible first | exact HB.out | apply below_alloc | apply pw_below_drewN | apply below_drew1) | exact HB.out)) hb); clear HB; have HB := n0_; clear n0_; (try clear hb); (try clear hb2); (try clear hk); (try clear hi)) | ((with_reducible refine gate_callee (f := 10) rfl ?_); refine goesL_ (some 18) rfl rfl Try.func10 (by kernel_rfl) rfl #[.string a0] rfl (by (try simp only [List.map_toArray, List.map_cons, List.map_nil]); first | done | rfl | (simp only [List.length_drop, List.length_take]; rfl)) ?_; (with_reducible refine (marginaliaref10_Of.calls k a0 t139 t140 _ A6.out).mono ?_); rintro e w17 ⟨rfl, hb⟩; refine ⟨_, rfl, ?_⟩; have n0_ := Aside0.mk (below_step (by repeat (first | (with_reducible first | exact HB.out | apply below_alloc | apply pw_below_drewN | apply below_drew1) | exact HB.out)) hb); clear HB; have HB := n0_; clear n0_; (try clear hb); (try clear hb2); (try clear hk); (try clear hi)) | ((with_reducible refine gate_callee (f := 8) rfl ?_); refine goesL_ (some 21) rfl rfl Try.func8 (by kernel_rfl) rfl #[] rfl (by (try simp only [List.map_toArray, List.map_cons, List.map_nil]); first | done | rfl | (simp only [List.length_drop, List.length_take]; rfl)) ?_; (with_reducible refine (marginalialaw10_alive.calls k  false _ A7.out).mono ?_); rintro e w18 ⟨rfl, hb⟩; refine ⟨_, rfl, ?_⟩; have n0_ := Aside0.mk (below_step (by repeat (first | (with_reducible first | exact HB.out | apply below_alloc | apply pw_below_drewN | apply below_drew1) | exact HB.out)) hb); clear HB; have HB := n0_; clear n0_; (try clear hb); (try clear hb2); (try clear hk); (try clear hi)))
      go_ret
      exact ⟨by first | rfl | (simp [errW_none, errW_some] <;> rfl) | (simp [*, errW_none, errW_some] <;> rfl), by repeat (first | (with_reducible first | exact HB.out | apply below_alloc | apply pw_below_drewN | apply below_drew1) | exact HB.out)⟩

/-- THE ONE PURE STATEMENT of marginalialaw10_SchemeOf: yours. -/
def marginalialaw10_SchemeOf.Pure : Prop := ∀ (a0 : ByteArray), a0.size ≤ 140737488351232 → ∃ k, marginalialaw10_SchemeOf.f k a0 = some true
theorem marginalialaw10_SchemeOf.walk (P : marginalialaw10_SchemeOf.Pure) (a0 : ByteArray) (w : World) (w0 : a0.size ≤ 140737488351232) :
    Calls Try.prog 3 #[.string a0] w fun e w' => e = .returned (.bool true) ∧ Below w.heap.size w w' := by
  obtain ⟨k, h⟩ := P a0 w0
  refine (marginalialaw10_SchemeOf.calls k a0 true w h).mono ?_
  rintro e w' ⟨rfl, hd⟩
  exact ⟨rfl, hd⟩

/-! ### marginaliaref10_Safe: function 12 -/
def marginaliaref10_Safe.l0 : Nat → List ByteArray → ByteArray → Int → Option (Bool)
  | 0, _, _, _ => none
  | k + 1, x1, x5, x7 => if x7 < (x1.length : Int) then (if 0 ≤ x7 then (if (rdOf ByteArray.empty x1 x7).toList = x5.toList then (some true) else (marginaliaref10_Safe.l0 k x1 x5 (wrap64 (x7 + 1)))) else (none)) else (some false)
def marginaliaref10_Safe.f (k : Nat) (a0 : ByteArray) (l1 : List ByteArray) : Option (Bool) := (marginaliaref10_Of.f k a0).bind fun bt142 => (if bt142.2 = true then (marginaliaref10_Safe.l0 k l1 bt142.1 0) else (some true))
theorem marginaliaref10_Safe.mono_l : ∀ k, (∀ y0 y1 y2, LeO (marginaliaref10_Safe.l0 k y0 y1 y2) (marginaliaref10_Safe.l0 (k + 1) y0 y1 y2))
  | 0 => fun _ _ _ r h => by simp [marginaliaref10_Safe.l0] at h
  | k + 1 => by
    have ih0 := marginaliaref10_Safe.mono_l k
    · intro y0 y1 y2
      unfold marginaliaref10_Safe.l0
      repeat' first
      | (with_reducible exact ih0 _ _ _)
      | (with_reducible exact marginaliaref10_Of.mono _ _)
      | (with_reducible exact LeO.refl _)
      | (with_reducible exact LeO.none _)
      | (with_reducible refine LeO.ite ?_ ?_)
      | (with_reducible refine LeO.bind ?_ (fun _ => ?_))
      | exact ih0 _ _ _
      | exact marginaliaref10_Of.mono _ _
      | exact LeO.none _
      | refine LeO.ite ?_ ?_
      | refine LeO.bind ?_ (fun _ => ?_)
theorem marginaliaref10_Safe.mono : ∀ a0 a1 k, LeO (marginaliaref10_Safe.f k a0 a1) (marginaliaref10_Safe.f (k + 1) a0 a1) := by
  intro a0 a1 k
  have ih0 := marginaliaref10_Safe.mono_l k
  unfold marginaliaref10_Safe.f
  repeat' first
      | (with_reducible exact ih0 _ _ _)
      | (with_reducible exact marginaliaref10_Of.mono _ _)
      | (with_reducible exact LeO.refl _)
      | (with_reducible exact LeO.none _)
      | (with_reducible refine LeO.ite ?_ ?_)
      | (with_reducible refine LeO.bind ?_ (fun _ => ?_))
      | exact ih0 _ _ _
      | exact marginaliaref10_Of.mono _ _
      | exact LeO.none _
      | refine LeO.ite ?_ ?_
      | refine LeO.bind ?_ (fun _ => ?_)
set_option maxHeartbeats 8000000 in
set_option maxRecDepth 100000 in
theorem marginaliaref10_Safe.calls (k : Nat) (a0 : ByteArray) (A1 : Option Addr) (c1 : Nat) (l1 : List ByteArray) (r : Bool) (w : World) (hr1 : Kd.C Kd.string w A1 l1.length l1) (hc1 : l1.length ≤ c1) (h : marginaliaref10_Safe.f k a0 l1 = some r) :
    Calls Try.prog 12 #[.string a0, .slice A1 l1.length c1] w fun e w' => e = .returned (.bool r) ∧ Below w.heap.size w w' := by
  have HR1 := Aside0.mk hr1
  have HC1 := Aside0.mk hc1
  clear hr1 hc1
  have HB := Aside0.mk (Below.refl w.heap.size w)
  have H : ((marginaliaref10_Of.f k a0).bind fun bt142 => (if bt142.2 = true then (marginaliaref10_Safe.l0 k l1 bt142.1 0) else (some true))) = some r := h
  clear h
  replace H := Option.bind_eq_some_iff.mp H
  obtain ⟨⟨t142, t143⟩, A30, H⟩ := H
  replace H : (if t143 = true then (marginaliaref10_Safe.l0 k l1 t142 0) else (some true)) = some r := H
  have A3 := Aside0.mk A30
  clear A30
  by_cases c4 : t143 = true
  · subst c4
    have H1 : (marginaliaref10_Safe.l0 k l1 t142 0) = some r := by rw [if_pos rfl] at H; exact H
    clear H
    have H := H1
    clear H1
    have H' := Aside0.mk H
    clear H
    go_enter Try.func12, Try.ntmps12
    go_wp2_with (first | ((with_reducible refine gate_callee (f := 10) rfl ?_); refine goesL_ (some 10) rfl rfl Try.func10 (by kernel_rfl) rfl #[.string a0] rfl (by (try simp only [List.map_toArray, List.map_cons, List.map_nil]); first | done | rfl | (simp only [List.length_drop, List.length_take]; rfl)) ?_; (with_reducible refine (marginaliaref10_Of.calls k a0 t142 true _ A3.out).mono ?_); rintro e w5 ⟨rfl, hb⟩; refine ⟨_, rfl, ?_⟩; have n0_ := Aside0.mk (below_step (by repeat (first | (with_reducible first | exact HB.out | apply below_alloc | apply pw_below_drewN | apply below_drew1) | exact HB.out)) hb); clear HB; have HB := n0_; clear n0_; (try clear hb); (try clear hb2); (try clear hk); (try clear hi)))
    go_loopg [7] k (fun kq v7 w' => ∃ (x7_1 : Int), v7 = .int .i64 x7_1 ∧ Aside0 (marginaliaref10_Safe.l0 kq l1 t142 x7_1 = some r) ∧ Aside0 (kq ≤ k) ∧ Aside0 (Below w.heap.size w w'))
    case atStart => exact ⟨(0), (by first | rfl | (simp; done) | (simp [*]; done)), H', ⟨Nat.le_refl _⟩, ⟨by repeat (first | (with_reducible first | exact HB.out | apply below_alloc | apply pw_below_drewN | apply below_drew1) | exact HB.out)⟩⟩
    case round =>
      clear H'
      try clear c1
      try clear p2
      try clear c4
      obtain ⟨x7_1, rfl, HA, HK1, HB⟩ := hrel
      cases gk with
      | zero => exact absurd HA.out (by simp [marginaliaref10_Safe.l0])
      | succ k1 =>
        have H := HA.out
        clear HA
        simp only [marginaliaref10_Safe.l0] at H
        by_cases c6 : x7_1 < (l1.length : Int)
        · rw [if_pos c6] at H
          have c6b0 : decide (x7_1 < (l1.length : Int)) = true := decide_eq_true c6
          clear c6
          by_cases c7 : 0 ≤ x7_1
          · rw [if_pos c7] at H
            have c7b0 : decide (0 ≤ x7_1) = true := decide_eq_true c7
            clear c7
            by_cases c8 : (rdOf ByteArray.empty l1 x7_1).toList = t142.toList
            · rw [if_pos c8] at H
              have c8b0 : ((rdOf ByteArray.empty l1 x7_1).toList == t142.toList) = true := beq_iff_eq.mpr c8
              have c8b1 : ((rdOf ByteArray.empty l1 x7_1).toList != t142.toList) = false := bne_eq_false_iff_eq.mpr c8
              clear c8
              obtain rfl := Option.some.inj H
              have p144 : 0 ≤ (x7_1 : Int) := of_decide_eq_true (by first | (with_reducible assumption) | assumption)
              have q144 : x7_1 < (l1.length : Int) := of_decide_eq_true (by first | (with_reducible assumption) | assumption)
              obtain ⟨ad144, e144, hx144_0⟩ := Kd.at_string HR1.out x7_1 p144 q144
              cases e144
              replace hx144_0 := (HB.out.cell (World.block_lt_of_cell? w _ hx144_0)).trans hx144_0
              replace p144 := eq_true p144
              replace q144 := eq_true q144
              go_wp2
              go_ret
              exact ⟨by first | rfl | (simp [errW_none, errW_some] <;> rfl) | (simp [*, errW_none, errW_some] <;> rfl), by repeat (first | (with_reducible first | exact HB.out | apply below_alloc | apply pw_below_drewN | apply below_drew1) | exact HB.out)⟩
            · rw [if_neg c8] at H
              have c8b0 : ((rdOf ByteArray.empty l1 x7_1).toList == t142.toList) = false := beq_eq_false_iff_ne.mpr c8
              have c8b1 : ((rdOf ByteArray.empty l1 x7_1).toList != t142.toList) = true := bne_iff_ne.mpr c8
              have H' := Aside0.mk H
              clear H
              have p144 : 0 ≤ (x7_1 : Int) := of_decide_eq_true (by first | (with_reducible assumption) | assumption)
              have q144 : x7_1 < (l1.length : Int) := of_decide_eq_true (by first | (with_reducible assumption) | assumption)
              obtain ⟨ad144, e144, hx144_0⟩ := Kd.at_string HR1.out x7_1 p144 q144
              cases e144
              replace hx144_0 := (HB.out.cell (World.block_lt_of_cell? w _ hx144_0)).trans hx144_0
              replace p144 := eq_true p144
              replace q144 := eq_true q144
              go_wp2
              go_roundg k1
              case measure => have := HK1.out; omega
              case rel => exact ⟨(wrap64 (x7_1 + 1)), (by first | rfl | (simp; done) | (simp [*]; done)), H', ⟨by have := HK1.out; omega⟩, ⟨by repeat (first | (with_reducible first | exact HB.out | apply below_alloc | apply pw_below_drewN | apply below_drew1) | exact HB.out)⟩⟩
          · rw [if_neg c7] at H
            exact absurd H (by simp)
        · rw [if_neg c6] at H
          have c6b0 : decide (x7_1 < (l1.length : Int)) = false := decide_eq_false c6
          clear c6
          obtain rfl := Option.some.inj H
          go_wp2
          go_ret
          exact ⟨by first | rfl | (simp [errW_none, errW_some] <;> rfl) | (simp [*, errW_none, errW_some] <;> rfl), by repeat (first | (with_reducible first | exact HB.out | apply below_alloc | apply pw_below_drewN | apply below_drew1) | exact HB.out)⟩
  · replace c4 := Bool.eq_false_iff.mpr c4
    subst c4
    have H1 : (some true) = some r := by rw [if_neg (show ¬ (false = true) by decide)] at H; exact H
    clear H
    have H := H1
    clear H1
    obtain rfl := Option.some.inj H
    go_enter Try.func12, Try.ntmps12
    go_wp2_with (first | ((with_reducible refine gate_callee (f := 10) rfl ?_); refine goesL_ (some 10) rfl rfl Try.func10 (by kernel_rfl) rfl #[.string a0] rfl (by (try simp only [List.map_toArray, List.map_cons, List.map_nil]); first | done | rfl | (simp only [List.length_drop, List.length_take]; rfl)) ?_; (with_reducible refine (marginaliaref10_Of.calls k a0 t142 false _ A3.out).mono ?_); rintro e w9 ⟨rfl, hb⟩; refine ⟨_, rfl, ?_⟩; have n0_ := Aside0.mk (below_step (by repeat (first | (with_reducible first | exact HB.out | apply below_alloc | apply pw_below_drewN | apply below_drew1) | exact HB.out)) hb); clear HB; have HB := n0_; clear n0_; (try clear hb); (try clear hb2); (try clear hk); (try clear hi)))
    go_ret
    exact ⟨by first | rfl | (simp [errW_none, errW_some] <;> rfl) | (simp [*, errW_none, errW_some] <;> rfl), by repeat (first | (with_reducible first | exact HB.out | apply below_alloc | apply pw_below_drewN | apply below_drew1) | exact HB.out)⟩

/-! ### marginalialaw10_SchemeSafe: function 4 -/
def marginalialaw10_SchemeSafe.j0 : Nat → ByteArray → List ByteArray → Bool → Option (Bool)
  | 0, _, _, _ => none
  | k + 1, x0, x1, x12 => if x12 = true then ((marginalialaw10_alive.f k).bind fun t145 => (some t145)) else ((marginalialaw10_alive.f k).bind fun t146 => (if t146 = true then ((scheme_Safe.f k x0 x1).bind fun t147 => ((marginaliaref10_Safe.f k x0 x1).bind fun t148 => (some (t147 == t148)))) else (some false)))
def marginalialaw10_SchemeSafe.f (k : Nat) (a0 : ByteArray) (l1 : List ByteArray) : Option (Bool) := if (a0.size : Int) > 200 then (marginalialaw10_SchemeSafe.j0 k a0 l1 true) else (marginalialaw10_SchemeSafe.j0 k a0 l1 (decide ((l1.length : Int) > 40)))
theorem marginalialaw10_SchemeSafe.mono_l : ∀ k, (∀ y0 y1 y2, LeO (marginalialaw10_SchemeSafe.j0 k y0 y1 y2) (marginalialaw10_SchemeSafe.j0 (k + 1) y0 y1 y2))
  | 0 => fun _ _ _ r h => by simp [marginalialaw10_SchemeSafe.j0] at h
  | k + 1 => by
    have ih0 := marginalialaw10_SchemeSafe.mono_l k
    · intro y0 y1 y2
      unfold marginalialaw10_SchemeSafe.j0
      repeat' first
      | (with_reducible exact ih0 _ _ _)
      | (with_reducible exact marginalialaw10_alive.mono _)
      | (with_reducible exact marginaliaref10_Safe.mono _ _ _)
      | (with_reducible exact scheme_Safe.mono _ _ _)
      | (with_reducible exact LeO.refl _)
      | (with_reducible exact LeO.none _)
      | (with_reducible refine LeO.ite ?_ ?_)
      | (with_reducible refine LeO.bind ?_ (fun _ => ?_))
      | exact ih0 _ _ _
      | exact marginalialaw10_alive.mono _
      | exact marginaliaref10_Safe.mono _ _ _
      | exact scheme_Safe.mono _ _ _
      | exact LeO.none _
      | refine LeO.ite ?_ ?_
      | refine LeO.bind ?_ (fun _ => ?_)
theorem marginalialaw10_SchemeSafe.mono : ∀ a0 a1 k, LeO (marginalialaw10_SchemeSafe.f k a0 a1) (marginalialaw10_SchemeSafe.f (k + 1) a0 a1) := by
  intro a0 a1 k
  have ih0 := marginalialaw10_SchemeSafe.mono_l k
  unfold marginalialaw10_SchemeSafe.f
  repeat' first
      | (with_reducible exact ih0 _ _ _)
      | (with_reducible exact marginalialaw10_alive.mono _)
      | (with_reducible exact marginaliaref10_Safe.mono _ _ _)
      | (with_reducible exact scheme_Safe.mono _ _ _)
      | (with_reducible exact LeO.refl _)
      | (with_reducible exact LeO.none _)
      | (with_reducible refine LeO.ite ?_ ?_)
      | (with_reducible refine LeO.bind ?_ (fun _ => ?_))
      | exact ih0 _ _ _
      | exact marginalialaw10_alive.mono _
      | exact marginaliaref10_Safe.mono _ _ _
      | exact scheme_Safe.mono _ _ _
      | exact LeO.none _
      | refine LeO.ite ?_ ?_
      | refine LeO.bind ?_ (fun _ => ?_)
set_option maxHeartbeats 8000000 in
set_option maxRecDepth 100000 in
theorem marginalialaw10_SchemeSafe.calls (k : Nat) (a0 : ByteArray) (A1 : Option Addr) (c1 : Nat) (l1 : List ByteArray) (r : Bool) (w : World) (hr1 : Kd.C Kd.string w A1 l1.length l1) (hc1 : l1.length ≤ c1) (h : marginalialaw10_SchemeSafe.f k a0 l1 = some r) :
    Calls Try.prog 4 #[.string a0, .slice A1 l1.length c1] w fun e w' => e = .returned (.bool r) ∧ Below w.heap.size w w' := by
  have HR1 := Aside0.mk hr1
  have HC1 := Aside0.mk hc1
  clear hr1 hc1
  have HB := Aside0.mk (Below.refl w.heap.size w)
  have H : (if (a0.size : Int) > 200 then (marginalialaw10_SchemeSafe.j0 k a0 l1 true) else (marginalialaw10_SchemeSafe.j0 k a0 l1 (decide ((l1.length : Int) > 40)))) = some r := h
  clear h
  have HC3 := Aside0.mk H
  clear H
  go_enter Try.func4, Try.ntmps4
  go_upto_region 1 with (fail)
  go_cut [12] (fun v12 wc => ∃ (kq : Nat) (x12_2 : Bool), v12 = .bool x12_2 ∧ Aside0 (marginalialaw10_SchemeSafe.j0 kq a0 l1 x12_2 = some r) ∧ Aside0 (kq ≤ k) ∧ Aside0 (Below w.heap.size w wc))
  case first =>
    have H := HC3.out
    clear HC3
    by_cases c4 : (a0.size : Int) > 200
    · rw [if_pos c4] at H
      have c4b0 : decide (200 < (a0.size : Int)) = true := decide_eq_true c4
      have c4b1 : decide (200 < a0.size) = true := decide_eq_true (by omega)
      clear c4
      (first | rw [c4b0] | (simp only [i64_w, i32_w]; rw [c4b0]) | skip)
      have H' := Aside0.mk H
      clear H
      go_wp2
      go_meet
      case rel => exact ⟨_, (true), (by first | rfl | (simp; done) | (simp [*]; done)), H', ⟨by first | omega | exact Nat.le_refl _⟩, ⟨by repeat (first | (with_reducible first | exact HB.out | apply below_alloc | apply pw_below_drewN | apply below_drew1) | exact HB.out)⟩⟩
    · rw [if_neg c4] at H
      have c4b0 : decide (200 < (a0.size : Int)) = false := decide_eq_false c4
      have c4b1 : decide (200 < a0.size) = false := decide_eq_false (by omega)
      clear c4
      (first | rw [c4b0] | (simp only [i64_w, i32_w]; rw [c4b0]) | skip)
      have H' := Aside0.mk H
      clear H
      go_wp2
      go_meet
      case rel => exact ⟨_, (decide ((l1.length : Int) > 40)), (by first | rfl | (simp; done) | (simp [*]; done)), H', ⟨by first | omega | exact Nat.le_refl _⟩, ⟨by repeat (first | (with_reducible first | exact HB.out | apply below_alloc | apply pw_below_drewN | apply below_drew1) | exact HB.out)⟩⟩
  case rest =>
    clear HC3
    try clear c1
    try clear p2
    try clear c4
    try clear c4b0
    try clear c4b1
    obtain ⟨kq, x12_2, rfl, HA, HJ2, HB⟩ := hcut
    cases kq with
    | zero => exact absurd HA.out (by simp [marginalialaw10_SchemeSafe.j0])
    | succ kj2 =>
      have H := HA.out
      clear HA
      simp only [marginalialaw10_SchemeSafe.j0] at H
      by_cases c5 : x12_2 = true
      · subst c5
        have H1 : ((marginalialaw10_alive.f kj2).bind fun t145 => (some t145)) = some r := by rw [if_pos rfl] at H; exact H
        clear H
        have H := H1
        clear H1
        replace H := Option.bind_eq_some_iff.mp H
        obtain ⟨t145, A60, H⟩ := H
        replace H : (some t145) = some r := H
        have A6 := Aside0.mk A60
        clear A60
        obtain rfl := Option.some.inj H
        go_wp2_with (first | ((with_reducible refine gate_callee (f := 8) rfl ?_); refine goesL_ (some 13) rfl rfl Try.func8 (by kernel_rfl) rfl #[] rfl (by (try simp only [List.map_toArray, List.map_cons, List.map_nil]); first | done | rfl | (simp only [List.length_drop, List.length_take]; rfl)) ?_; (with_reducible refine (marginalialaw10_alive.calls kj2  t145 _ A6.out).mono ?_); rintro e w7 ⟨rfl, hb⟩; refine ⟨_, rfl, ?_⟩; have n0_ := Aside0.mk (below_step (by repeat (first | (with_reducible first | exact HB.out | apply below_alloc | apply pw_below_drewN | apply below_drew1) | exact HB.out)) hb); clear HB; have HB := n0_; clear n0_; (try clear hb); (try clear hb2); (try clear hk); (try clear hi)))
        go_ret
        exact ⟨by first | rfl | (simp [errW_none, errW_some] <;> rfl) | (simp [*, errW_none, errW_some] <;> rfl), by repeat (first | (with_reducible first | exact HB.out | apply below_alloc | apply pw_below_drewN | apply below_drew1) | exact HB.out)⟩
      · replace c5 := Bool.eq_false_iff.mpr c5
        subst c5
        have H1 : ((marginalialaw10_alive.f kj2).bind fun t146 => (if t146 = true then ((scheme_Safe.f kj2 a0 l1).bind fun t147 => ((marginaliaref10_Safe.f kj2 a0 l1).bind fun t148 => (some (t147 == t148)))) else (some false))) = some r := by rw [if_neg (show ¬ (false = true) by decide)] at H; exact H
        clear H
        have H := H1
        clear H1
        replace H := Option.bind_eq_some_iff.mp H
        obtain ⟨t146, A80, H⟩ := H
        replace H : (if t146 = true then ((scheme_Safe.f kj2 a0 l1).bind fun t147 => ((marginaliaref10_Safe.f kj2 a0 l1).bind fun t148 => (some (t147 == t148)))) else (some false)) = some r := H
        have A8 := Aside0.mk A80
        clear A80
        by_cases c9 : t146 = true
        · subst c9
          have H1 : ((scheme_Safe.f kj2 a0 l1).bind fun t147 => ((marginaliaref10_Safe.f kj2 a0 l1).bind fun t148 => (some (t147 == t148)))) = some r := by rw [if_pos rfl] at H; exact H
          clear H
          have H := H1
          clear H1
          replace H := Option.bind_eq_some_iff.mp H
          obtain ⟨t147, A100, H⟩ := H
          replace H : ((marginaliaref10_Safe.f kj2 a0 l1).bind fun t148 => (some (t147 == t148))) = some r := H
          have A10 := Aside0.mk A100
          clear A100
          replace H := Option.bind_eq_some_iff.mp H
          obtain ⟨t148, A110, H⟩ := H
          replace H : (some (t147 == t148)) = some r := H
          have A11 := Aside0.mk A110
          clear A110
          obtain rfl := Option.some.inj H
          go_wp2_with (first | ((with_reducible refine gate_callee (f := 8) rfl ?_); refine goesL_ (some 14) rfl rfl Try.func8 (by kernel_rfl) rfl #[] rfl (by (try simp only [List.map_toArray, List.map_cons, List.map_nil]); first | done | rfl | (simp only [List.length_drop, List.length_take]; rfl)) ?_; (with_reducible refine (marginalialaw10_alive.calls kj2  true _ A8.out).mono ?_); rintro e w12 ⟨rfl, hb⟩; refine ⟨_, rfl, ?_⟩; have n0_ := Aside0.mk (below_step (by repeat (first | (with_reducible first | exact HB.out | apply below_alloc | apply pw_below_drewN | apply below_drew1) | exact HB.out)) hb); clear HB; have HB := n0_; clear n0_; (try clear hb); (try clear hb2); (try clear hk); (try clear hi)) | (go_at_call 11; (with_reducible refine (scheme_Safe.calls kj2 a0 _ _ l1 t147 _ ?side1 ?side2 A10.out).mono ?_); (case side1 => repeat (first | exact (Kd.C_below HR1.out HB.out) | (with_reducible refine Kd.C_alloc ?_ _) | (with_reducible refine Kd.C_drewN ?_ _) | (with_reducible refine Kd.C_drew ?_))); (case side2 => exact HC1.out); rintro e w13 ⟨rfl, hb⟩; have n0_ := Aside0.mk (below_step (by repeat (first | (with_reducible first | exact HB.out | apply below_alloc | apply pw_below_drewN | apply below_drew1) | exact HB.out)) hb); clear HB; have HB := n0_; clear n0_; (try clear hb); (try clear hb2); (try clear hk); (try clear hi)) | (go_at_call 12; (with_reducible refine (marginaliaref10_Safe.calls kj2 a0 _ _ l1 t148 _ ?side1 ?side2 A11.out).mono ?_); (case side1 => repeat (first | exact (Kd.C_below HR1.out HB.out) | (with_reducible refine Kd.C_alloc ?_ _) | (with_reducible refine Kd.C_drewN ?_ _) | (with_reducible refine Kd.C_drew ?_))); (case side2 => exact HC1.out); rintro e w14 ⟨rfl, hb⟩; have n0_ := Aside0.mk (below_step (by repeat (first | (with_reducible first | exact HB.out | apply below_alloc | apply pw_below_drewN | apply below_drew1) | exact HB.out)) hb); clear HB; have HB := n0_; clear n0_; (try clear hb); (try clear hb2); (try clear hk); (try clear hi)))
          go_ret
          exact ⟨by first | rfl | (simp [errW_none, errW_some] <;> rfl) | (simp [*, errW_none, errW_some] <;> rfl), by repeat (first | (with_reducible first | exact HB.out | apply below_alloc | apply pw_below_drewN | apply below_drew1) | exact HB.out)⟩
        · replace c9 := Bool.eq_false_iff.mpr c9
          subst c9
          have H1 : (some false) = some r := by rw [if_neg (show ¬ (false = true) by decide)] at H; exact H
          clear H
          have H := H1
          clear H1
          obtain rfl := Option.some.inj H
          go_wp2_with (first | ((with_reducible refine gate_callee (f := 8) rfl ?_); refine goesL_ (some 14) rfl rfl Try.func8 (by kernel_rfl) rfl #[] rfl (by (try simp only [List.map_toArray, List.map_cons, List.map_nil]); first | done | rfl | (simp only [List.length_drop, List.length_take]; rfl)) ?_; (with_reducible refine (marginalialaw10_alive.calls kj2  false _ A8.out).mono ?_); rintro e w15 ⟨rfl, hb⟩; refine ⟨_, rfl, ?_⟩; have n0_ := Aside0.mk (below_step (by repeat (first | (with_reducible first | exact HB.out | apply below_alloc | apply pw_below_drewN | apply below_drew1) | exact HB.out)) hb); clear HB; have HB := n0_; clear n0_; (try clear hb); (try clear hb2); (try clear hk); (try clear hi)))
          go_ret
          exact ⟨by first | rfl | (simp [errW_none, errW_some] <;> rfl) | (simp [*, errW_none, errW_some] <;> rfl), by repeat (first | (with_reducible first | exact HB.out | apply below_alloc | apply pw_below_drewN | apply below_drew1) | exact HB.out)⟩

end Go.Proofs.Ythomonglhieifaa.PAll
