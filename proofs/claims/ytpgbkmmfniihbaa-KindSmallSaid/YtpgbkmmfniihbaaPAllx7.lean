-- Written by a program of this session (hprint.py: the kit's print over several laws at once, with functions proved by hand). Lean checks it.
import Derived.Test.YtpgbkmmfniihbaaPAllx0
import Derived.Test.YtpgbkmmfniihbaaPAllx1
import Derived.Test.YtpgbkmmfniihbaaPAllx2
import Derived.Test.YtpgbkmmfniihbaaPAllx4
namespace Go.Proofs.Ytpgbkmmfniihbaa.PAll
open Go.RowKit Go.Proofs.YtpgbkmmfniihbaaW.PrintWords Go.Proofs.YtpgbkmmfniihbaaW.PrintLast Go.Proofs.YtpgbkmmfniihbaaW.PrintMore
attribute [local go_sem] max2_int min2_int max_two min_two max_three min_three max_four min_four   -- for this text's walks alone
set_option linter.unusedVariables false
set_option linter.unusedSimpArgs false

/-! ### marginalialaw02_KindSmall: function 7 -/
def marginalialaw02_KindSmall.j0 : Nat → Int → Bool → Option (Bool)
  | 0, _, _ => none
  | k + 1, x2, x35 => if x35 = true then (some false) else ((kind_Letter.f x2).bind fun t266 => ((marginalialaw02_alive.f k).bind fun t267 => (if t267 = true then (if t266 = true then ((kind_Space.f x2).bind fun t268 => (if t268 = true then (some false) else ((kind_Figure.f x2).bind fun t269 => (if t269 = true then (some false) else ((kind_White.f k (strOfNums (([x2, x2] : List Int)))).bind fun t273 => ((kind_Space.f x2).bind fun t274 => (some (t273 == t274)))))))) else ((kind_White.f k (strOfNums (([x2, x2] : List Int)))).bind fun t278 => ((kind_Space.f x2).bind fun t279 => (some (t278 == t279))))) else (some false))))
def marginalialaw02_KindSmall.f (k : Nat) (a0 : Int) (a1 : ByteArray) (a2 : Int) : Option (Bool) := if (a1.size : Int) > 300 then ((marginalialaw02_alive.f k).bind fun t261 => (some t261)) else ((kind_Lower.f a1).bind fun t262 => (if t262.toList = a1.toList then (if (t262.size : Int) = (a1.size : Int) then ((kind_Lower.f t262).bind fun t263 => (marginalialaw02_KindSmall.j0 k a2 (t263.toList != t262.toList))) else (marginalialaw02_KindSmall.j0 k a2 true)) else ((kind_Is.f k a0 a1).bind fun t264 => (if t264 = true then (marginalialaw02_KindSmall.j0 k a2 true) else (if (t262.size : Int) = (a1.size : Int) then ((kind_Lower.f t262).bind fun t265 => (marginalialaw02_KindSmall.j0 k a2 (t265.toList != t262.toList))) else (marginalialaw02_KindSmall.j0 k a2 true))))))
theorem marginalialaw02_KindSmall.mono_l : ∀ k, (∀ y0 y1, LeO (marginalialaw02_KindSmall.j0 k y0 y1) (marginalialaw02_KindSmall.j0 (k + 1) y0 y1))
  | 0 => fun _ _ r h => by simp [marginalialaw02_KindSmall.j0] at h
  | k + 1 => by
    have ih0 := marginalialaw02_KindSmall.mono_l k
    · intro y0 y1
      unfold marginalialaw02_KindSmall.j0
      repeat' first
      | (with_reducible exact ih0 _ _)
      | (with_reducible exact kind_Is.mono _ _ _)
      | (with_reducible exact kind_White.mono _ _)
      | (with_reducible exact marginalialaw02_alive.mono _)
      | (with_reducible exact LeO.refl _)
      | (with_reducible exact LeO.none _)
      | (with_reducible refine LeO.ite ?_ ?_)
      | (with_reducible refine LeO.bind ?_ (fun _ => ?_))
      | exact ih0 _ _
      | exact kind_Is.mono _ _ _
      | exact kind_White.mono _ _
      | exact marginalialaw02_alive.mono _
      | exact LeO.none _
      | refine LeO.ite ?_ ?_
      | refine LeO.bind ?_ (fun _ => ?_)
theorem marginalialaw02_KindSmall.mono : ∀ a0 a1 a2 k, LeO (marginalialaw02_KindSmall.f k a0 a1 a2) (marginalialaw02_KindSmall.f (k + 1) a0 a1 a2) := by
  intro a0 a1 a2 k
  have ih0 := marginalialaw02_KindSmall.mono_l k
  unfold marginalialaw02_KindSmall.f
  repeat' first
      | (with_reducible exact ih0 _ _)
      | (with_reducible exact kind_Is.mono _ _ _)
      | (with_reducible exact kind_White.mono _ _)
      | (with_reducible exact marginalialaw02_alive.mono _)
      | (with_reducible exact LeO.refl _)
      | (with_reducible exact LeO.none _)
      | (with_reducible refine LeO.ite ?_ ?_)
      | (with_reducible refine LeO.bind ?_ (fun _ => ?_))
      | exact ih0 _ _
      | exact kind_Is.mono _ _ _
      | exact kind_White.mono _ _
      | exact marginalialaw02_alive.mono _
      | exact LeO.none _
      | refine LeO.ite ?_ ?_
      | refine LeO.bind ?_ (fun _ => ?_)
set_option maxHeartbeats 8000000 in
set_option maxRecDepth 100000 in
theorem marginalialaw02_KindSmall.calls (k : Nat) (a0 : Int) (a1 : ByteArray) (a2 : Int) (r : Bool) (w : World) (h : marginalialaw02_KindSmall.f k a0 a1 a2 = some r) :
    Calls Try.prog 7 #[.int .i64 a0, .string a1, .int .u8 a2] w fun e w' => e = .returned (.bool r) ∧ Below w.heap.size w w' := by
  have HB := Aside0.mk (Below.refl w.heap.size w)
  have H : (if (a1.size : Int) > 300 then ((marginalialaw02_alive.f k).bind fun t261 => (some t261)) else ((kind_Lower.f a1).bind fun t262 => (if t262.toList = a1.toList then (if (t262.size : Int) = (a1.size : Int) then ((kind_Lower.f t262).bind fun t263 => (marginalialaw02_KindSmall.j0 k a2 (t263.toList != t262.toList))) else (marginalialaw02_KindSmall.j0 k a2 true)) else ((kind_Is.f k a0 a1).bind fun t264 => (if t264 = true then (marginalialaw02_KindSmall.j0 k a2 true) else (if (t262.size : Int) = (a1.size : Int) then ((kind_Lower.f t262).bind fun t265 => (marginalialaw02_KindSmall.j0 k a2 (t265.toList != t262.toList))) else (marginalialaw02_KindSmall.j0 k a2 true))))))) = some r := h
  clear h
  by_cases c4 : (a1.size : Int) > 300
  · rw [if_pos c4] at H
    have c4b0 : decide (300 < (a1.size : Int)) = true := decide_eq_true c4
    have c4b1 : decide (300 < a1.size) = true := decide_eq_true (by omega)
    clear c4
    replace H := Option.bind_eq_some_iff.mp H
    obtain ⟨t261, A50, H⟩ := H
    replace H : (some t261) = some r := H
    have A5 := Aside0.mk A50
    clear A50
    obtain rfl := Option.some.inj H
    go_enter Try.func7, Try.ntmps7
    go_wp2_with (first | ((with_reducible refine gate_callee (f := 8) rfl ?_); refine goesL_ (some 12) rfl rfl Try.func8 (by kernel_rfl) rfl #[] rfl (by (try simp only [List.map_toArray, List.map_cons, List.map_nil]); first | done | rfl | (simp only [List.length_drop, List.length_take]; rfl)) ?_; (with_reducible refine (marginalialaw02_alive.calls k  t261 _ A5.out).mono ?_); rintro e w6 ⟨rfl, hb⟩; refine ⟨_, rfl, ?_⟩; have n0_ := Aside0.mk (below_step (by repeat (first | (with_reducible first | exact HB.out | apply below_alloc | apply pw_below_drewN | apply below_drew1) | exact HB.out)) hb); clear HB; have HB := n0_; clear n0_; (try clear hb); (try clear hb2); (try clear hk); (try clear hi)))
    go_ret
    exact ⟨by first | rfl | (simp [errW_none, errW_some] <;> rfl) | (simp [*, errW_none, errW_some] <;> rfl), by repeat (first | (with_reducible first | exact HB.out | apply below_alloc | apply pw_below_drewN | apply below_drew1) | exact HB.out)⟩
  · rw [if_neg c4] at H
    have c4b0 : decide (300 < (a1.size : Int)) = false := decide_eq_false c4
    have c4b1 : decide (300 < a1.size) = false := decide_eq_false (by omega)
    clear c4
    replace H := Option.bind_eq_some_iff.mp H
    obtain ⟨t262, A70, H⟩ := H
    replace H : (if t262.toList = a1.toList then (if (t262.size : Int) = (a1.size : Int) then ((kind_Lower.f t262).bind fun t263 => (marginalialaw02_KindSmall.j0 k a2 (t263.toList != t262.toList))) else (marginalialaw02_KindSmall.j0 k a2 true)) else ((kind_Is.f k a0 a1).bind fun t264 => (if t264 = true then (marginalialaw02_KindSmall.j0 k a2 true) else (if (t262.size : Int) = (a1.size : Int) then ((kind_Lower.f t262).bind fun t265 => (marginalialaw02_KindSmall.j0 k a2 (t265.toList != t262.toList))) else (marginalialaw02_KindSmall.j0 k a2 true))))) = some r := H
    have A7 := Aside0.mk A70
    clear A70
    have HC8 := Aside0.mk H
    clear H
    go_enter Try.func7, Try.ntmps7
    go_upto_region 4 with (first | ((with_reducible refine gate_callee (f := 17) rfl ?_); refine goesL_ (some 14) rfl rfl Try.func17 (by kernel_rfl) rfl #[.string a1] rfl (by (try simp only [List.map_toArray, List.map_cons, List.map_nil]); first | done | rfl | (simp only [List.length_drop, List.length_take]; rfl)) ?_; (with_reducible refine (kind_Lower.calls a1 t262 _ A7.out).mono ?_); rintro e w9 ⟨rfl, hb⟩; refine ⟨_, rfl, ?_⟩; have n0_ := Aside0.mk (below_step (by repeat (first | (with_reducible first | exact HB.out | apply below_alloc | apply pw_below_drewN | apply below_drew1) | exact HB.out)) hb); clear HB; have HB := n0_; clear n0_; (try clear hb); (try clear hb2); (try clear hk); (try clear hi)))
    (try simp only [Act.put, List.setIfInBounds_toArray, List.set_cons_zero, List.set_cons_succ])
    go_cut [35] (fun v35 wc => ∃ (kq : Nat) (x35_7 : Bool), v35 = .bool x35_7 ∧ Aside0 (marginalialaw02_KindSmall.j0 kq a2 x35_7 = some r) ∧ Aside0 (kq ≤ k) ∧ Aside0 (Below w.heap.size w wc))
    case first =>
      have H := HC8.out
      clear HC8
      by_cases c10 : t262.toList = a1.toList
      · rw [if_pos c10] at H
        have c10b0 : (t262.toList == a1.toList) = true := beq_iff_eq.mpr c10
        have c10b1 : (t262.toList != a1.toList) = false := bne_eq_false_iff_eq.mpr c10
        clear c10
        (first | rw [c10b0] | (simp only [i64_w, i32_w]; rw [c10b0]) | skip)
        by_cases c11 : (t262.size : Int) = (a1.size : Int)
        · rw [if_pos c11] at H
          have c11b0 : ((t262.size : Int) == (a1.size : Int)) = true := beq_iff_eq.mpr c11
          have c11b1 : ((t262.size : Int) != (a1.size : Int)) = false := bne_eq_false_iff_eq.mpr c11
          have c11b2 : (t262.size == a1.size) = true := by first | simpa using c11 | (simp at c11 ⊢; omega)
          clear c11
          replace H := Option.bind_eq_some_iff.mp H
          obtain ⟨t263, A120, H⟩ := H
          replace H : (marginalialaw02_KindSmall.j0 k a2 (t263.toList != t262.toList)) = some r := H
          have A12 := Aside0.mk A120
          clear A120
          have H' := Aside0.mk H
          clear H
          go_wp2_with (first | (go_at_call 17; (with_reducible refine (kind_Lower.calls t262 t263 _ A12.out).mono ?_); rintro e w13 ⟨rfl, hb⟩; have n0_ := Aside0.mk (below_step (by repeat (first | (with_reducible first | exact HB.out | apply below_alloc | apply pw_below_drewN | apply below_drew1) | exact HB.out)) hb); clear HB; have HB := n0_; clear n0_; (try clear hb); (try clear hb2); (try clear hk); (try clear hi)))
          go_meet
          case rel => exact ⟨_, ((t263.toList != t262.toList)), (by first | rfl | (simp; done) | (simp [*]; done)), H', ⟨by first | omega | exact Nat.le_refl _⟩, ⟨by repeat (first | (with_reducible first | exact HB.out | apply below_alloc | apply pw_below_drewN | apply below_drew1) | exact HB.out)⟩⟩
        · rw [if_neg c11] at H
          have c11b0 : ((t262.size : Int) == (a1.size : Int)) = false := beq_eq_false_iff_ne.mpr c11
          have c11b1 : ((t262.size : Int) != (a1.size : Int)) = true := bne_iff_ne.mpr c11
          have c11b2 : (t262.size == a1.size) = false := by first | simpa using c11 | (simp at c11 ⊢; omega)
          have H' := Aside0.mk H
          clear H
          go_wp2
          go_meet
          case rel => exact ⟨_, (true), (by first | rfl | (simp; done) | (simp [*]; done)), H', ⟨by first | omega | exact Nat.le_refl _⟩, ⟨by repeat (first | (with_reducible first | exact HB.out | apply below_alloc | apply pw_below_drewN | apply below_drew1) | exact HB.out)⟩⟩
      · rw [if_neg c10] at H
        have c10b0 : (t262.toList == a1.toList) = false := beq_eq_false_iff_ne.mpr c10
        have c10b1 : (t262.toList != a1.toList) = true := bne_iff_ne.mpr c10
        (first | rw [c10b0] | (simp only [i64_w, i32_w]; rw [c10b0]) | skip)
        replace H := Option.bind_eq_some_iff.mp H
        obtain ⟨t264, A140, H⟩ := H
        replace H : (if t264 = true then (marginalialaw02_KindSmall.j0 k a2 true) else (if (t262.size : Int) = (a1.size : Int) then ((kind_Lower.f t262).bind fun t265 => (marginalialaw02_KindSmall.j0 k a2 (t265.toList != t262.toList))) else (marginalialaw02_KindSmall.j0 k a2 true))) = some r := H
        have A14 := Aside0.mk A140
        clear A140
        by_cases c15 : t264 = true
        · subst c15
          have H1 : (marginalialaw02_KindSmall.j0 k a2 true) = some r := by rw [if_pos rfl] at H; exact H
          clear H
          have H := H1
          clear H1
          have H' := Aside0.mk H
          clear H
          go_wp2_with (first | (go_at_call 19; (with_reducible refine (kind_Is.calls k a0 a1 true _ A14.out).mono ?_); rintro e w16 ⟨rfl, hb⟩; have n0_ := Aside0.mk (below_step (by repeat (first | (with_reducible first | exact HB.out | apply below_alloc | apply pw_below_drewN | apply below_drew1) | exact HB.out)) hb); clear HB; have HB := n0_; clear n0_; (try clear hb); (try clear hb2); (try clear hk); (try clear hi)))
          go_meet
          case rel => exact ⟨_, (true), (by first | rfl | (simp; done) | (simp [*]; done)), H', ⟨by first | omega | exact Nat.le_refl _⟩, ⟨by repeat (first | (with_reducible first | exact HB.out | apply below_alloc | apply pw_below_drewN | apply below_drew1) | exact HB.out)⟩⟩
        · replace c15 := Bool.eq_false_iff.mpr c15
          subst c15
          have H1 : (if (t262.size : Int) = (a1.size : Int) then ((kind_Lower.f t262).bind fun t265 => (marginalialaw02_KindSmall.j0 k a2 (t265.toList != t262.toList))) else (marginalialaw02_KindSmall.j0 k a2 true)) = some r := by rw [if_neg (show ¬ (false = true) by decide)] at H; exact H
          clear H
          have H := H1
          clear H1
          by_cases c17 : (t262.size : Int) = (a1.size : Int)
          · rw [if_pos c17] at H
            have c17b0 : ((t262.size : Int) == (a1.size : Int)) = true := beq_iff_eq.mpr c17
            have c17b1 : ((t262.size : Int) != (a1.size : Int)) = false := bne_eq_false_iff_eq.mpr c17
            have c17b2 : (t262.size == a1.size) = true := by first | simpa using c17 | (simp at c17 ⊢; omega)
            clear c17
            replace H := Option.bind_eq_some_iff.mp H
            obtain ⟨t265, A180, H⟩ := H
            replace H : (marginalialaw02_KindSmall.j0 k a2 (t265.toList != t262.toList)) = some r := H
            have A18 := Aside0.mk A180
            clear A180
            have H' := Aside0.mk H
            clear H
            go_wp2_with (first | (go_at_call 19; (with_reducible refine (kind_Is.calls k a0 a1 false _ A14.out).mono ?_); rintro e w19 ⟨rfl, hb⟩; have n0_ := Aside0.mk (below_step (by repeat (first | (with_reducible first | exact HB.out | apply below_alloc | apply pw_below_drewN | apply below_drew1) | exact HB.out)) hb); clear HB; have HB := n0_; clear n0_; (try clear hb); (try clear hb2); (try clear hk); (try clear hi)) | (go_at_call 17; (with_reducible refine (kind_Lower.calls t262 t265 _ A18.out).mono ?_); rintro e w20 ⟨rfl, hb⟩; have n0_ := Aside0.mk (below_step (by repeat (first | (with_reducible first | exact HB.out | apply below_alloc | apply pw_below_drewN | apply below_drew1) | exact HB.out)) hb); clear HB; have HB := n0_; clear n0_; (try clear hb); (try clear hb2); (try clear hk); (try clear hi)))
            go_meet
            case rel => exact ⟨_, ((t265.toList != t262.toList)), (by first | rfl | (simp; done) | (simp [*]; done)), H', ⟨by first | omega | exact Nat.le_refl _⟩, ⟨by repeat (first | (with_reducible first | exact HB.out | apply below_alloc | apply pw_below_drewN | apply below_drew1) | exact HB.out)⟩⟩
          · rw [if_neg c17] at H
            have c17b0 : ((t262.size : Int) == (a1.size : Int)) = false := beq_eq_false_iff_ne.mpr c17
            have c17b1 : ((t262.size : Int) != (a1.size : Int)) = true := bne_iff_ne.mpr c17
            have c17b2 : (t262.size == a1.size) = false := by first | simpa using c17 | (simp at c17 ⊢; omega)
            have H' := Aside0.mk H
            clear H
            go_wp2_with (first | (go_at_call 19; (with_reducible refine (kind_Is.calls k a0 a1 false _ A14.out).mono ?_); rintro e w21 ⟨rfl, hb⟩; have n0_ := Aside0.mk (below_step (by repeat (first | (with_reducible first | exact HB.out | apply below_alloc | apply pw_below_drewN | apply below_drew1) | exact HB.out)) hb); clear HB; have HB := n0_; clear n0_; (try clear hb); (try clear hb2); (try clear hk); (try clear hi)))
            go_meet
            case rel => exact ⟨_, (true), (by first | rfl | (simp; done) | (simp [*]; done)), H', ⟨by first | omega | exact Nat.le_refl _⟩, ⟨by repeat (first | (with_reducible first | exact HB.out | apply below_alloc | apply pw_below_drewN | apply below_drew1) | exact HB.out)⟩⟩
    case rest =>
      clear HC8
      try clear c1
      try clear p2
      try clear c4
      try clear c4b0
      try clear c4b1
      try clear c7
      try clear c8
      try clear c10
      try clear c10b0
      try clear c10b1
      try clear c11
      try clear c11b0
      try clear c11b1
      try clear c11b2
      try clear c15
      try clear c17
      try clear c17b0
      try clear c17b1
      try clear c17b2
      obtain ⟨kq, x35_7, rfl, HA, HJ7, HB⟩ := hcut
      cases kq with
      | zero => exact absurd HA.out (by simp [marginalialaw02_KindSmall.j0])
      | succ kj7 =>
        have H := HA.out
        clear HA
        simp only [marginalialaw02_KindSmall.j0] at H
        by_cases c22 : x35_7 = true
        · subst c22
          have H1 : (some false) = some r := by rw [if_pos rfl] at H; exact H
          clear H
          have H := H1
          clear H1
          obtain rfl := Option.some.inj H
          go_wp2
          go_ret
          exact ⟨by first | rfl | (simp [errW_none, errW_some] <;> rfl) | (simp [*, errW_none, errW_some] <;> rfl), by repeat (first | (with_reducible first | exact HB.out | apply below_alloc | apply pw_below_drewN | apply below_drew1) | exact HB.out)⟩
        · replace c22 := Bool.eq_false_iff.mpr c22
          subst c22
          have H1 : ((kind_Letter.f a2).bind fun t266 => ((marginalialaw02_alive.f kj7).bind fun t267 => (if t267 = true then (if t266 = true then ((kind_Space.f a2).bind fun t268 => (if t268 = true then (some false) else ((kind_Figure.f a2).bind fun t269 => (if t269 = true then (some false) else ((kind_White.f kj7 (strOfNums (([a2, a2] : List Int)))).bind fun t273 => ((kind_Space.f a2).bind fun t274 => (some (t273 == t274)))))))) else ((kind_White.f kj7 (strOfNums (([a2, a2] : List Int)))).bind fun t278 => ((kind_Space.f a2).bind fun t279 => (some (t278 == t279))))) else (some false)))) = some r := by rw [if_neg (show ¬ (false = true) by decide)] at H; exact H
          clear H
          have H := H1
          clear H1
          replace H := Option.bind_eq_some_iff.mp H
          obtain ⟨t266, A230, H⟩ := H
          replace H : ((marginalialaw02_alive.f kj7).bind fun t267 => (if t267 = true then (if t266 = true then ((kind_Space.f a2).bind fun t268 => (if t268 = true then (some false) else ((kind_Figure.f a2).bind fun t269 => (if t269 = true then (some false) else ((kind_White.f kj7 (strOfNums (([a2, a2] : List Int)))).bind fun t273 => ((kind_Space.f a2).bind fun t274 => (some (t273 == t274)))))))) else ((kind_White.f kj7 (strOfNums (([a2, a2] : List Int)))).bind fun t278 => ((kind_Space.f a2).bind fun t279 => (some (t278 == t279))))) else (some false))) = some r := H
          have A23 := Aside0.mk A230
          clear A230
          replace H := Option.bind_eq_some_iff.mp H
          obtain ⟨t267, A240, H⟩ := H
          replace H : (if t267 = true then (if t266 = true then ((kind_Space.f a2).bind fun t268 => (if t268 = true then (some false) else ((kind_Figure.f a2).bind fun t269 => (if t269 = true then (some false) else ((kind_White.f kj7 (strOfNums (([a2, a2] : List Int)))).bind fun t273 => ((kind_Space.f a2).bind fun t274 => (some (t273 == t274)))))))) else ((kind_White.f kj7 (strOfNums (([a2, a2] : List Int)))).bind fun t278 => ((kind_Space.f a2).bind fun t279 => (some (t278 == t279))))) else (some false)) = some r := H
          have A24 := Aside0.mk A240
          clear A240
          by_cases c25 : t267 = true
          · subst c25
            have H1 : (if t266 = true then ((kind_Space.f a2).bind fun t268 => (if t268 = true then (some false) else ((kind_Figure.f a2).bind fun t269 => (if t269 = true then (some false) else ((kind_White.f kj7 (strOfNums (([a2, a2] : List Int)))).bind fun t273 => ((kind_Space.f a2).bind fun t274 => (some (t273 == t274)))))))) else ((kind_White.f kj7 (strOfNums (([a2, a2] : List Int)))).bind fun t278 => ((kind_Space.f a2).bind fun t279 => (some (t278 == t279))))) = some r := by rw [if_pos rfl] at H; exact H
            clear H
            have H := H1
            clear H1
            by_cases c26 : t266 = true
            · subst c26
              have H1 : ((kind_Space.f a2).bind fun t268 => (if t268 = true then (some false) else ((kind_Figure.f a2).bind fun t269 => (if t269 = true then (some false) else ((kind_White.f kj7 (strOfNums (([a2, a2] : List Int)))).bind fun t273 => ((kind_Space.f a2).bind fun t274 => (some (t273 == t274)))))))) = some r := by rw [if_pos rfl] at H; exact H
              clear H
              have H := H1
              clear H1
              replace H := Option.bind_eq_some_iff.mp H
              obtain ⟨t268, A270, H⟩ := H
              replace H : (if t268 = true then (some false) else ((kind_Figure.f a2).bind fun t269 => (if t269 = true then (some false) else ((kind_White.f kj7 (strOfNums (([a2, a2] : List Int)))).bind fun t273 => ((kind_Space.f a2).bind fun t274 => (some (t273 == t274))))))) = some r := H
              have A27 := Aside0.mk A270
              clear A270
              by_cases c28 : t268 = true
              · subst c28
                have H1 : (some false) = some r := by rw [if_pos rfl] at H; exact H
                clear H
                have H := H1
                clear H1
                obtain rfl := Option.some.inj H
                go_wp2_with (first | ((with_reducible refine gate_callee (f := 11) rfl ?_); refine goesL_ (some 37) rfl rfl Try.func11 (by kernel_rfl) rfl #[.int .u8 a2] rfl (by (try simp only [List.map_toArray, List.map_cons, List.map_nil]); first | done | rfl | (simp only [List.length_drop, List.length_take]; rfl)) ?_; (with_reducible refine (kind_Letter.calls a2 true _ A23.out).mono ?_); rintro e w' ⟨rfl, ⟨nd, rfl⟩⟩; refine ⟨_, rfl, ?_⟩) | ((with_reducible refine gate_callee (f := 8) rfl ?_); refine goesL_ (some 38) rfl rfl Try.func8 (by kernel_rfl) rfl #[] rfl (by (try simp only [List.map_toArray, List.map_cons, List.map_nil]); first | done | rfl | (simp only [List.length_drop, List.length_take]; rfl)) ?_; (with_reducible refine (marginalialaw02_alive.calls kj7  true _ A24.out).mono ?_); rintro e w29 ⟨rfl, hb⟩; refine ⟨_, rfl, ?_⟩; have n0_ := Aside0.mk (below_step (by repeat (first | (with_reducible first | exact HB.out | apply below_alloc | apply pw_below_drewN | apply below_drew1) | exact HB.out)) hb); clear HB; have HB := n0_; clear n0_; (try clear hb); (try clear hb2); (try clear hk); (try clear hi)) | (go_at_call 9; (with_reducible refine (kind_Space.calls a2 true _ A27.out).mono ?_); rintro e w' ⟨rfl, ⟨nd, rfl⟩⟩))
                go_ret
                exact ⟨by first | rfl | (simp [errW_none, errW_some] <;> rfl) | (simp [*, errW_none, errW_some] <;> rfl), by repeat (first | (with_reducible first | exact HB.out | apply below_alloc | apply pw_below_drewN | apply below_drew1) | exact HB.out)⟩
              · replace c28 := Bool.eq_false_iff.mpr c28
                subst c28
                have H1 : ((kind_Figure.f a2).bind fun t269 => (if t269 = true then (some false) else ((kind_White.f kj7 (strOfNums (([a2, a2] : List Int)))).bind fun t273 => ((kind_Space.f a2).bind fun t274 => (some (t273 == t274)))))) = some r := by rw [if_neg (show ¬ (false = true) by decide)] at H; exact H
                clear H
                have H := H1
                clear H1
                replace H := Option.bind_eq_some_iff.mp H
                obtain ⟨t269, A300, H⟩ := H
                replace H : (if t269 = true then (some false) else ((kind_White.f kj7 (strOfNums (([a2, a2] : List Int)))).bind fun t273 => ((kind_Space.f a2).bind fun t274 => (some (t273 == t274))))) = some r := H
                have A30 := Aside0.mk A300
                clear A300
                by_cases c31 : t269 = true
                · subst c31
                  have H1 : (some false) = some r := by rw [if_pos rfl] at H; exact H
                  clear H
                  have H := H1
                  clear H1
                  obtain rfl := Option.some.inj H
                  go_wp2_with (first | ((with_reducible refine gate_callee (f := 11) rfl ?_); refine goesL_ (some 37) rfl rfl Try.func11 (by kernel_rfl) rfl #[.int .u8 a2] rfl (by (try simp only [List.map_toArray, List.map_cons, List.map_nil]); first | done | rfl | (simp only [List.length_drop, List.length_take]; rfl)) ?_; (with_reducible refine (kind_Letter.calls a2 true _ A23.out).mono ?_); rintro e w' ⟨rfl, ⟨nd, rfl⟩⟩; refine ⟨_, rfl, ?_⟩) | ((with_reducible refine gate_callee (f := 8) rfl ?_); refine goesL_ (some 38) rfl rfl Try.func8 (by kernel_rfl) rfl #[] rfl (by (try simp only [List.map_toArray, List.map_cons, List.map_nil]); first | done | rfl | (simp only [List.length_drop, List.length_take]; rfl)) ?_; (with_reducible refine (marginalialaw02_alive.calls kj7  true _ A24.out).mono ?_); rintro e w32 ⟨rfl, hb⟩; refine ⟨_, rfl, ?_⟩; have n0_ := Aside0.mk (below_step (by repeat (first | (with_reducible first | exact HB.out | apply below_alloc | apply pw_below_drewN | apply below_drew1) | exact HB.out)) hb); clear HB; have HB := n0_; clear n0_; (try clear hb); (try clear hb2); (try clear hk); (try clear hi)) | (go_at_call 9; (with_reducible refine (kind_Space.calls a2 false _ A27.out).mono ?_); rintro e w' ⟨rfl, ⟨nd, rfl⟩⟩) | (go_at_call 13; (with_reducible refine (kind_Figure.calls a2 true _ A30.out).mono ?_); rintro e w' ⟨rfl, ⟨nd, rfl⟩⟩))
                  go_ret
                  exact ⟨by first | rfl | (simp [errW_none, errW_some] <;> rfl) | (simp [*, errW_none, errW_some] <;> rfl), by repeat (first | (with_reducible first | exact HB.out | apply below_alloc | apply pw_below_drewN | apply below_drew1) | exact HB.out)⟩
                · replace c31 := Bool.eq_false_iff.mpr c31
                  subst c31
                  have H1 : ((kind_White.f kj7 (strOfNums (([a2, a2] : List Int)))).bind fun t273 => ((kind_Space.f a2).bind fun t274 => (some (t273 == t274)))) = some r := by rw [if_neg (show ¬ (false = true) by decide)] at H; exact H
                  clear H
                  have H := H1
                  clear H1
                  obtain ⟨y270, hy270⟩ : ∃ y_ : List Int, y_ = (([a2, a2] : List Int)) := ⟨_, rfl⟩
                  replace H : ((kind_White.f kj7 (strOfNums y270)).bind fun t273 => ((kind_Space.f a2).bind fun t274 => (some (t273 == t274)))) = some r := by first | (rw [hy270]; with_reducible exact H) | (have H2_ := (Option.bind_some _ _).symm.trans H; rw [hy270]; with_reducible exact H2_) | (have H2_ := (Option.bind_some _ _).symm.trans H; with_reducible exact H2_) | with_reducible exact H | (rw [hy270]; exact H) | exact H
                  have Ny270 := Aside0.mk hy270
                  clear hy270
                  replace H := Option.bind_eq_some_iff.mp H
                  obtain ⟨t273, A330, H⟩ := H
                  replace H : ((kind_Space.f a2).bind fun t274 => (some (t273 == t274))) = some r := H
                  have A33 := Aside0.mk A330
                  clear A330
                  replace H := Option.bind_eq_some_iff.mp H
                  obtain ⟨t274, A340, H⟩ := H
                  replace H : (some (t273 == t274)) = some r := H
                  obtain rfl := Option.some.inj (A27.out.symm.trans A340); have A34 := Aside0.mk A340
                  clear A340
                  obtain rfl := Option.some.inj H
                  go_wp2_with (first | ((with_reducible refine gate_callee (f := 11) rfl ?_); refine goesL_ (some 37) rfl rfl Try.func11 (by kernel_rfl) rfl #[.int .u8 a2] rfl (by (try simp only [List.map_toArray, List.map_cons, List.map_nil]); first | done | rfl | (simp only [List.length_drop, List.length_take]; rfl)) ?_; (with_reducible refine (kind_Letter.calls a2 true _ A23.out).mono ?_); rintro e w' ⟨rfl, ⟨nd, rfl⟩⟩; refine ⟨_, rfl, ?_⟩) | ((with_reducible refine gate_callee (f := 8) rfl ?_); refine goesL_ (some 38) rfl rfl Try.func8 (by kernel_rfl) rfl #[] rfl (by (try simp only [List.map_toArray, List.map_cons, List.map_nil]); first | done | rfl | (simp only [List.length_drop, List.length_take]; rfl)) ?_; (with_reducible refine (marginalialaw02_alive.calls kj7  true _ A24.out).mono ?_); rintro e w35 ⟨rfl, hb⟩; refine ⟨_, rfl, ?_⟩; have n0_ := Aside0.mk (below_step (by repeat (first | (with_reducible first | exact HB.out | apply below_alloc | apply pw_below_drewN | apply below_drew1) | exact HB.out)) hb); clear HB; have HB := n0_; clear n0_; (try clear hb); (try clear hb2); (try clear hk); (try clear hi)) | (go_at_call 9; (with_reducible refine (kind_Space.calls a2 false _ A27.out).mono ?_); rintro e w' ⟨rfl, ⟨nd, rfl⟩⟩) | (go_at_call 13; (with_reducible refine (kind_Figure.calls a2 false _ A30.out).mono ?_); rintro e w' ⟨rfl, ⟨nd, rfl⟩⟩) | ((with_reducible refine gate_dst (N := 58) rfl ?_); (try (refine gate_guard (by rfl) ?_; dsimp only)); refine Kd.R_lit (Kd.int .u8) _ 5 ?hg (N := 58) ?hd (xs := ([a2, a2] : List Int)) (inner := [.int .u8 a2, .int .u8 a2]) (ok := fun _ => True) (okp := fun _ => True) ?hr ?hp (fun _ hk => hk) trivial (Below.refl _ _) (Nat.le_refl _) (by simp) ?_; (case hd => rfl); (case hg => rfl); (case hr => first | (go_simp; done) | (go_simp; rfl)); (case hp => exact (Reps.one (show Kd.M (Kd.int .u8) _ _ _ a2 [.int .u8 a2] from rfl) (Reps.one (show Kd.M (Kd.int .u8) _ _ _ a2 [.int .u8 a2] from rfl) (Reps.none _ _)))); intro v271 w36 ho37 hb hg_ hnew_; clear hg_ hnew_; (first | rw [← Ny270.out] at ho37 | (simp only [Int.reduceToNat] at ho37; rw [← Ny270.out] at ho37)); have n0_ := Aside0.mk (Kd.R_lower ho37 (below_size (by repeat (first | (with_reducible first | exact HB.out | apply below_alloc | apply pw_below_drewN | apply below_drew1) | exact HB.out)))); have n1_ := Aside0.mk (below_step (by repeat (first | (with_reducible first | exact HB.out | apply below_alloc | apply pw_below_drewN | apply below_drew1) | exact HB.out)) hb); clear HB; have HO272 := n0_; have HB := n1_; clear n0_ n1_; clear hb ho37; have hcv38 := own_string (P := Try.prog) Try.underlying28 Try.underlying5 Try.underlying9 (Kd.own_of_R HO272.out)) | (go_at_call 15; (with_reducible refine (kind_White.calls kj7 (strOfNums y270) t273 _ A33.out).mono ?_); rintro e w' ⟨rfl, ⟨nd, rfl⟩⟩) | (go_at_call 9; (with_reducible refine (kind_Space.calls a2 t274 _ A34.out).mono ?_); rintro e w' ⟨rfl, ⟨nd, rfl⟩⟩))
                  go_ret
                  exact ⟨by first | rfl | (simp [errW_none, errW_some] <;> rfl) | (simp [*, errW_none, errW_some] <;> rfl), by repeat (first | (with_reducible first | exact HB.out | apply below_alloc | apply pw_below_drewN | apply below_drew1) | exact HB.out)⟩
            · replace c26 := Bool.eq_false_iff.mpr c26
              subst c26
              have H1 : ((kind_White.f kj7 (strOfNums (([a2, a2] : List Int)))).bind fun t278 => ((kind_Space.f a2).bind fun t279 => (some (t278 == t279)))) = some r := by rw [if_neg (show ¬ (false = true) by decide)] at H; exact H
              clear H
              have H := H1
              clear H1
              obtain ⟨y275, hy275⟩ : ∃ y_ : List Int, y_ = (([a2, a2] : List Int)) := ⟨_, rfl⟩
              replace H : ((kind_White.f kj7 (strOfNums y275)).bind fun t278 => ((kind_Space.f a2).bind fun t279 => (some (t278 == t279)))) = some r := by first | (rw [hy275]; with_reducible exact H) | (have H2_ := (Option.bind_some _ _).symm.trans H; rw [hy275]; with_reducible exact H2_) | (have H2_ := (Option.bind_some _ _).symm.trans H; with_reducible exact H2_) | with_reducible exact H | (rw [hy275]; exact H) | exact H
              have Ny275 := Aside0.mk hy275
              clear hy275
              replace H := Option.bind_eq_some_iff.mp H
              obtain ⟨t278, A390, H⟩ := H
              replace H : ((kind_Space.f a2).bind fun t279 => (some (t278 == t279))) = some r := H
              have A39 := Aside0.mk A390
              clear A390
              replace H := Option.bind_eq_some_iff.mp H
              obtain ⟨t279, A400, H⟩ := H
              replace H : (some (t278 == t279)) = some r := H
              have A40 := Aside0.mk A400
              clear A400
              obtain rfl := Option.some.inj H
              go_wp2_with (first | ((with_reducible refine gate_callee (f := 11) rfl ?_); refine goesL_ (some 37) rfl rfl Try.func11 (by kernel_rfl) rfl #[.int .u8 a2] rfl (by (try simp only [List.map_toArray, List.map_cons, List.map_nil]); first | done | rfl | (simp only [List.length_drop, List.length_take]; rfl)) ?_; (with_reducible refine (kind_Letter.calls a2 false _ A23.out).mono ?_); rintro e w' ⟨rfl, ⟨nd, rfl⟩⟩; refine ⟨_, rfl, ?_⟩) | ((with_reducible refine gate_callee (f := 8) rfl ?_); refine goesL_ (some 38) rfl rfl Try.func8 (by kernel_rfl) rfl #[] rfl (by (try simp only [List.map_toArray, List.map_cons, List.map_nil]); first | done | rfl | (simp only [List.length_drop, List.length_take]; rfl)) ?_; (with_reducible refine (marginalialaw02_alive.calls kj7  true _ A24.out).mono ?_); rintro e w41 ⟨rfl, hb⟩; refine ⟨_, rfl, ?_⟩; have n0_ := Aside0.mk (below_step (by repeat (first | (with_reducible first | exact HB.out | apply below_alloc | apply pw_below_drewN | apply below_drew1) | exact HB.out)) hb); clear HB; have HB := n0_; clear n0_; (try clear hb); (try clear hb2); (try clear hk); (try clear hi)) | ((with_reducible refine gate_dst (N := 58) rfl ?_); (try (refine gate_guard (by rfl) ?_; dsimp only)); refine Kd.R_lit (Kd.int .u8) _ 5 ?hg (N := 58) ?hd (xs := ([a2, a2] : List Int)) (inner := [.int .u8 a2, .int .u8 a2]) (ok := fun _ => True) (okp := fun _ => True) ?hr ?hp (fun _ hk => hk) trivial (Below.refl _ _) (Nat.le_refl _) (by simp) ?_; (case hd => rfl); (case hg => rfl); (case hr => first | (go_simp; done) | (go_simp; rfl)); (case hp => exact (Reps.one (show Kd.M (Kd.int .u8) _ _ _ a2 [.int .u8 a2] from rfl) (Reps.one (show Kd.M (Kd.int .u8) _ _ _ a2 [.int .u8 a2] from rfl) (Reps.none _ _)))); intro v276 w42 ho43 hb hg_ hnew_; clear hg_ hnew_; (first | rw [← Ny275.out] at ho43 | (simp only [Int.reduceToNat] at ho43; rw [← Ny275.out] at ho43)); have n0_ := Aside0.mk (Kd.R_lower ho43 (below_size (by repeat (first | (with_reducible first | exact HB.out | apply below_alloc | apply pw_below_drewN | apply below_drew1) | exact HB.out)))); have n1_ := Aside0.mk (below_step (by repeat (first | (with_reducible first | exact HB.out | apply below_alloc | apply pw_below_drewN | apply below_drew1) | exact HB.out)) hb); clear HB; have HO277 := n0_; have HB := n1_; clear n0_ n1_; clear hb ho43; have hcv44 := own_string (P := Try.prog) Try.underlying28 Try.underlying5 Try.underlying9 (Kd.own_of_R HO277.out)) | (go_at_call 15; (with_reducible refine (kind_White.calls kj7 (strOfNums y275) t278 _ A39.out).mono ?_); rintro e w' ⟨rfl, ⟨nd, rfl⟩⟩) | (go_at_call 9; (with_reducible refine (kind_Space.calls a2 t279 _ A40.out).mono ?_); rintro e w' ⟨rfl, ⟨nd, rfl⟩⟩))
              go_ret
              exact ⟨by first | rfl | (simp [errW_none, errW_some] <;> rfl) | (simp [*, errW_none, errW_some] <;> rfl), by repeat (first | (with_reducible first | exact HB.out | apply below_alloc | apply pw_below_drewN | apply below_drew1) | exact HB.out)⟩
          · replace c25 := Bool.eq_false_iff.mpr c25
            subst c25
            have H1 : (some false) = some r := by rw [if_neg (show ¬ (false = true) by decide)] at H; exact H
            clear H
            have H := H1
            clear H1
            obtain rfl := Option.some.inj H
            go_wp2_with (first | ((with_reducible refine gate_callee (f := 11) rfl ?_); refine goesL_ (some 37) rfl rfl Try.func11 (by kernel_rfl) rfl #[.int .u8 a2] rfl (by (try simp only [List.map_toArray, List.map_cons, List.map_nil]); first | done | rfl | (simp only [List.length_drop, List.length_take]; rfl)) ?_; (with_reducible refine (kind_Letter.calls a2 t266 _ A23.out).mono ?_); rintro e w' ⟨rfl, ⟨nd, rfl⟩⟩; refine ⟨_, rfl, ?_⟩) | ((with_reducible refine gate_callee (f := 8) rfl ?_); refine goesL_ (some 38) rfl rfl Try.func8 (by kernel_rfl) rfl #[] rfl (by (try simp only [List.map_toArray, List.map_cons, List.map_nil]); first | done | rfl | (simp only [List.length_drop, List.length_take]; rfl)) ?_; (with_reducible refine (marginalialaw02_alive.calls kj7  false _ A24.out).mono ?_); rintro e w45 ⟨rfl, hb⟩; refine ⟨_, rfl, ?_⟩; have n0_ := Aside0.mk (below_step (by repeat (first | (with_reducible first | exact HB.out | apply below_alloc | apply pw_below_drewN | apply below_drew1) | exact HB.out)) hb); clear HB; have HB := n0_; clear n0_; (try clear hb); (try clear hb2); (try clear hk); (try clear hi)))
            go_ret
            exact ⟨by first | rfl | (simp [errW_none, errW_some] <;> rfl) | (simp [*, errW_none, errW_some] <;> rfl), by repeat (first | (with_reducible first | exact HB.out | apply below_alloc | apply pw_below_drewN | apply below_drew1) | exact HB.out)⟩

/-- THE ONE PURE STATEMENT of marginalialaw02_KindSmall: yours. -/
def marginalialaw02_KindSmall.Pure : Prop := ∀ (a0 : Int) (a1 : ByteArray) (a2 : Int), (Lit.int .i64 a0).wf = true → a1.size ≤ 140737488351232 → (Lit.int .u8 a2).wf = true → ∃ k, marginalialaw02_KindSmall.f k a0 a1 a2 = some true
theorem marginalialaw02_KindSmall.walk (P : marginalialaw02_KindSmall.Pure) (a0 : Int) (a1 : ByteArray) (a2 : Int) (w : World) (w0 : (Lit.int .i64 a0).wf = true) (w1 : a1.size ≤ 140737488351232) (w2 : (Lit.int .u8 a2).wf = true) :
    Calls Try.prog 7 #[.int .i64 a0, .string a1, .int .u8 a2] w fun e w' => e = .returned (.bool true) ∧ Below w.heap.size w w' := by
  obtain ⟨k, h⟩ := P a0 a1 a2 w0 w1 w2
  refine (marginalialaw02_KindSmall.calls k a0 a1 a2 true w h).mono ?_
  rintro e w' ⟨rfl, hd⟩
  exact ⟨rfl, hd⟩

end Go.Proofs.Ytpgbkmmfniihbaa.PAll
