-- Written by a program of this session (hprint.py: the kit's print over several laws at once, with functions proved by hand). Lean checks it.
import Derived.Test.YtpgbkmmfniihbaaPAllx0
import Derived.Test.YtpgbkmmfniihbaaPAllx4
import Derived.Test.YtpgbkmmfniihbaaPAllx5
namespace Go.Proofs.Ytpgbkmmfniihbaa.PAll
open Go.RowKit Go.Proofs.YtpgbkmmfniihbaaW.PrintWords Go.Proofs.YtpgbkmmfniihbaaW.PrintLast Go.Proofs.YtpgbkmmfniihbaaW.PrintMore
attribute [local go_sem] max2_int min2_int max_two min_two max_three min_three max_four min_four   -- for this text's walks alone
set_option linter.unusedVariables false
set_option linter.unusedSimpArgs false

/-! ### marginalialaw02_KindNames: function 5 -/
def marginalialaw02_KindNames.f (k : Nat) (a0 : Int) (a1 : ByteArray) : Option (Bool) := if (a1.size : Int) > 300 then ((marginalialaw02_alive.f k).bind fun t239 => (some t239)) else ((marginalialaw02_alive.f k).bind fun t240 => (if t240 = true then ((kind_Is.f k a0 a1).bind fun t241 => ((marginaliaref02_Is.f k a0 a1).bind fun t242 => (some (t241 == t242)))) else (some false)))
theorem marginalialaw02_KindNames.mono : ∀ a0 a1 k, LeO (marginalialaw02_KindNames.f k a0 a1) (marginalialaw02_KindNames.f (k + 1) a0 a1) := by
  intro a0 a1 k
  unfold marginalialaw02_KindNames.f
  repeat' first
      | (with_reducible exact kind_Is.mono _ _ _)
      | (with_reducible exact marginalialaw02_alive.mono _)
      | (with_reducible exact marginaliaref02_Is.mono _ _ _)
      | (with_reducible exact LeO.refl _)
      | (with_reducible exact LeO.none _)
      | (with_reducible refine LeO.ite ?_ ?_)
      | (with_reducible refine LeO.bind ?_ (fun _ => ?_))
      | exact kind_Is.mono _ _ _
      | exact marginalialaw02_alive.mono _
      | exact marginaliaref02_Is.mono _ _ _
      | exact LeO.none _
      | refine LeO.ite ?_ ?_
      | refine LeO.bind ?_ (fun _ => ?_)
set_option maxHeartbeats 8000000 in
set_option maxRecDepth 100000 in
theorem marginalialaw02_KindNames.calls (k : Nat) (a0 : Int) (a1 : ByteArray) (r : Bool) (w : World) (h : marginalialaw02_KindNames.f k a0 a1 = some r) :
    Calls Try.prog 5 #[.int .i64 a0, .string a1] w fun e w' => e = .returned (.bool r) ∧ Below w.heap.size w w' := by
  have HB := Aside0.mk (Below.refl w.heap.size w)
  have H : (if (a1.size : Int) > 300 then ((marginalialaw02_alive.f k).bind fun t239 => (some t239)) else ((marginalialaw02_alive.f k).bind fun t240 => (if t240 = true then ((kind_Is.f k a0 a1).bind fun t241 => ((marginaliaref02_Is.f k a0 a1).bind fun t242 => (some (t241 == t242)))) else (some false)))) = some r := h
  clear h
  by_cases c3 : (a1.size : Int) > 300
  · rw [if_pos c3] at H
    have c3b0 : decide (300 < (a1.size : Int)) = true := decide_eq_true c3
    have c3b1 : decide (300 < a1.size) = true := decide_eq_true (by omega)
    clear c3
    replace H := Option.bind_eq_some_iff.mp H
    obtain ⟨t239, A40, H⟩ := H
    replace H : (some t239) = some r := H
    have A4 := Aside0.mk A40
    clear A40
    obtain rfl := Option.some.inj H
    go_enter Try.func5, Try.ntmps5
    go_wp2_with (first | ((with_reducible refine gate_callee (f := 8) rfl ?_); refine goesL_ (some 8) rfl rfl Try.func8 (by kernel_rfl) rfl #[] rfl (by (try simp only [List.map_toArray, List.map_cons, List.map_nil]); first | done | rfl | (simp only [List.length_drop, List.length_take]; rfl)) ?_; (with_reducible refine (marginalialaw02_alive.calls k  t239 _ A4.out).mono ?_); rintro e w5 ⟨rfl, hb⟩; refine ⟨_, rfl, ?_⟩; have n0_ := Aside0.mk (below_step (by repeat (first | (with_reducible first | exact HB.out | apply below_alloc | apply pw_below_drewN | apply below_drew1) | exact HB.out)) hb); clear HB; have HB := n0_; clear n0_; (try clear hb); (try clear hb2); (try clear hk); (try clear hi)))
    go_ret
    exact ⟨by first | rfl | (simp [errW_none, errW_some] <;> rfl) | (simp [*, errW_none, errW_some] <;> rfl), by repeat (first | (with_reducible first | exact HB.out | apply below_alloc | apply pw_below_drewN | apply below_drew1) | exact HB.out)⟩
  · rw [if_neg c3] at H
    have c3b0 : decide (300 < (a1.size : Int)) = false := decide_eq_false c3
    have c3b1 : decide (300 < a1.size) = false := decide_eq_false (by omega)
    clear c3
    replace H := Option.bind_eq_some_iff.mp H
    obtain ⟨t240, A60, H⟩ := H
    replace H : (if t240 = true then ((kind_Is.f k a0 a1).bind fun t241 => ((marginaliaref02_Is.f k a0 a1).bind fun t242 => (some (t241 == t242)))) else (some false)) = some r := H
    have A6 := Aside0.mk A60
    clear A60
    by_cases c7 : t240 = true
    · subst c7
      have H1 : ((kind_Is.f k a0 a1).bind fun t241 => ((marginaliaref02_Is.f k a0 a1).bind fun t242 => (some (t241 == t242)))) = some r := by rw [if_pos rfl] at H; exact H
      clear H
      have H := H1
      clear H1
      replace H := Option.bind_eq_some_iff.mp H
      obtain ⟨t241, A80, H⟩ := H
      replace H : ((marginaliaref02_Is.f k a0 a1).bind fun t242 => (some (t241 == t242))) = some r := H
      have A8 := Aside0.mk A80
      clear A80
      replace H := Option.bind_eq_some_iff.mp H
      obtain ⟨t242, A90, H⟩ := H
      replace H : (some (t241 == t242)) = some r := H
      have A9 := Aside0.mk A90
      clear A90
      obtain rfl := Option.some.inj H
      go_enter Try.func5, Try.ntmps5
      go_wp2_with (first | ((with_reducible refine gate_callee (f := 8) rfl ?_); refine goesL_ (some 9) rfl rfl Try.func8 (by kernel_rfl) rfl #[] rfl (by (try simp only [List.map_toArray, List.map_cons, List.map_nil]); first | done | rfl | (simp only [List.length_drop, List.length_take]; rfl)) ?_; (with_reducible refine (marginalialaw02_alive.calls k  true _ A6.out).mono ?_); rintro e w10 ⟨rfl, hb⟩; refine ⟨_, rfl, ?_⟩; have n0_ := Aside0.mk (below_step (by repeat (first | (with_reducible first | exact HB.out | apply below_alloc | apply pw_below_drewN | apply below_drew1) | exact HB.out)) hb); clear HB; have HB := n0_; clear n0_; (try clear hb); (try clear hb2); (try clear hk); (try clear hi)) | (go_at_call 19; (with_reducible refine (kind_Is.calls k a0 a1 t241 _ A8.out).mono ?_); rintro e w11 ⟨rfl, hb⟩; have n0_ := Aside0.mk (below_step (by repeat (first | (with_reducible first | exact HB.out | apply below_alloc | apply pw_below_drewN | apply below_drew1) | exact HB.out)) hb); clear HB; have HB := n0_; clear n0_; (try clear hb); (try clear hb2); (try clear hk); (try clear hi)) | (go_at_call 20; (with_reducible refine (marginaliaref02_Is.calls k a0 a1 t242 _ A9.out).mono ?_); rintro e w12 ⟨rfl, hb⟩; have n0_ := Aside0.mk (below_step (by repeat (first | (with_reducible first | exact HB.out | apply below_alloc | apply pw_below_drewN | apply below_drew1) | exact HB.out)) hb); clear HB; have HB := n0_; clear n0_; (try clear hb); (try clear hb2); (try clear hk); (try clear hi)))
      go_ret
      exact ⟨by first | rfl | (simp [errW_none, errW_some] <;> rfl) | (simp [*, errW_none, errW_some] <;> rfl), by repeat (first | (with_reducible first | exact HB.out | apply below_alloc | apply pw_below_drewN | apply below_drew1) | exact HB.out)⟩
    · replace c7 := Bool.eq_false_iff.mpr c7
      subst c7
      have H1 : (some false) = some r := by rw [if_neg (show ¬ (false = true) by decide)] at H; exact H
      clear H
      have H := H1
      clear H1
      obtain rfl := Option.some.inj H
      go_enter Try.func5, Try.ntmps5
      go_wp2_with (first | ((with_reducible refine gate_callee (f := 8) rfl ?_); refine goesL_ (some 9) rfl rfl Try.func8 (by kernel_rfl) rfl #[] rfl (by (try simp only [List.map_toArray, List.map_cons, List.map_nil]); first | done | rfl | (simp only [List.length_drop, List.length_take]; rfl)) ?_; (with_reducible refine (marginalialaw02_alive.calls k  false _ A6.out).mono ?_); rintro e w13 ⟨rfl, hb⟩; refine ⟨_, rfl, ?_⟩; have n0_ := Aside0.mk (below_step (by repeat (first | (with_reducible first | exact HB.out | apply below_alloc | apply pw_below_drewN | apply below_drew1) | exact HB.out)) hb); clear HB; have HB := n0_; clear n0_; (try clear hb); (try clear hb2); (try clear hk); (try clear hi)))
      go_ret
      exact ⟨by first | rfl | (simp [errW_none, errW_some] <;> rfl) | (simp [*, errW_none, errW_some] <;> rfl), by repeat (first | (with_reducible first | exact HB.out | apply below_alloc | apply pw_below_drewN | apply below_drew1) | exact HB.out)⟩

/-- THE ONE PURE STATEMENT of marginalialaw02_KindNames: yours. -/
def marginalialaw02_KindNames.Pure : Prop := ∀ (a0 : Int) (a1 : ByteArray), (Lit.int .i64 a0).wf = true → a1.size ≤ 140737488351232 → ∃ k, marginalialaw02_KindNames.f k a0 a1 = some true
theorem marginalialaw02_KindNames.walk (P : marginalialaw02_KindNames.Pure) (a0 : Int) (a1 : ByteArray) (w : World) (w0 : (Lit.int .i64 a0).wf = true) (w1 : a1.size ≤ 140737488351232) :
    Calls Try.prog 5 #[.int .i64 a0, .string a1] w fun e w' => e = .returned (.bool true) ∧ Below w.heap.size w w' := by
  obtain ⟨k, h⟩ := P a0 a1 w0 w1
  refine (marginalialaw02_KindNames.calls k a0 a1 true w h).mono ?_
  rintro e w' ⟨rfl, hd⟩
  exact ⟨rfl, hd⟩

/-! ### marginalialaw02_KindWithin: function 6 -/
mutual
def marginalialaw02_KindWithin.j0 : Nat → ByteArray → Bool → Option (Bool)
  | 0, _, _ => none
  | k + 1, x0, x3 => if x3 = true then ((kind_Is.f k 4 x0).bind fun t251 => (marginalialaw02_KindWithin.j1 k x0 (!t251))) else (marginalialaw02_KindWithin.j1 k x0 false)
def marginalialaw02_KindWithin.j1 : Nat → ByteArray → Bool → Option (Bool)
  | 0, _, _ => none
  | k + 1, x0, x39 => if x39 = true then (some false) else ((kind_Is.f k 5 x0).bind fun t252 => (if t252 = true then ((kind_Is.f k 6 x0).bind fun t253 => (if t253 = true then (marginalialaw02_KindWithin.j2 k x0 true) else ((kind_Is.f k 4 x0).bind fun t254 => (marginalialaw02_KindWithin.j2 k x0 t254)))) else (marginalialaw02_KindWithin.j2 k x0 false)))
def marginalialaw02_KindWithin.j2 : Nat → ByteArray → Bool → Option (Bool)
  | 0, _, _ => none
  | k + 1, x0, x49 => if x49 = true then (some false) else ((kind_Is.f k 1 x0).bind fun t255 => (if t255 = true then ((kind_Is.f k 2 x0).bind fun t256 => (if t256 = true then (marginalialaw02_KindWithin.j3 k x0 true) else ((kind_Is.f k 3 x0).bind fun t257 => (marginalialaw02_KindWithin.j3 k x0 t257)))) else (marginalialaw02_KindWithin.j3 k x0 false)))
def marginalialaw02_KindWithin.j3 : Nat → ByteArray → Bool → Option (Bool)
  | 0, _, _ => none
  | k + 1, x0, x59 => if x59 = true then (some false) else ((marginalialaw02_alive.f k).bind fun t258 => (if t258 = true then ((kind_Is.f k 9 x0).bind fun t259 => (if t259 = true then ((kind_Is.f k 12 x0).bind fun t260 => (some t260)) else (some true))) else (some false)))
end
def marginalialaw02_KindWithin.f (k : Nat) (a0 : ByteArray) : Option (Bool) := if (a0.size : Int) > 300 then ((marginalialaw02_alive.f k).bind fun t243 => (some t243)) else ((kind_Is.f k 1 a0).bind fun t244 => (if t244 = true then (marginalialaw02_KindWithin.j0 k a0 true) else ((kind_Is.f k 2 a0).bind fun t245 => (if t245 = true then (marginalialaw02_KindWithin.j0 k a0 true) else ((kind_Is.f k 3 a0).bind fun t246 => (if t246 = true then (marginalialaw02_KindWithin.j0 k a0 true) else ((kind_Is.f k 7 a0).bind fun t247 => (if t247 = true then (marginalialaw02_KindWithin.j0 k a0 true) else ((kind_Is.f k 6 a0).bind fun t248 => (if t248 = true then (marginalialaw02_KindWithin.j0 k a0 true) else ((kind_Is.f k 9 a0).bind fun t249 => (if t249 = true then (marginalialaw02_KindWithin.j0 k a0 true) else ((kind_Is.f k 11 a0).bind fun t250 => (marginalialaw02_KindWithin.j0 k a0 t250))))))))))))))
theorem marginalialaw02_KindWithin.mono_l : ∀ k, (∀ y0 y1, LeO (marginalialaw02_KindWithin.j0 k y0 y1) (marginalialaw02_KindWithin.j0 (k + 1) y0 y1)) ∧ (∀ y0 y1, LeO (marginalialaw02_KindWithin.j1 k y0 y1) (marginalialaw02_KindWithin.j1 (k + 1) y0 y1)) ∧ (∀ y0 y1, LeO (marginalialaw02_KindWithin.j2 k y0 y1) (marginalialaw02_KindWithin.j2 (k + 1) y0 y1)) ∧ (∀ y0 y1, LeO (marginalialaw02_KindWithin.j3 k y0 y1) (marginalialaw02_KindWithin.j3 (k + 1) y0 y1))
  | 0 => ⟨fun _ _ r h => by simp [marginalialaw02_KindWithin.j0] at h, fun _ _ r h => by simp [marginalialaw02_KindWithin.j1] at h, fun _ _ r h => by simp [marginalialaw02_KindWithin.j2] at h, fun _ _ r h => by simp [marginalialaw02_KindWithin.j3] at h⟩
  | k + 1 => by
    obtain ⟨ih0, ih1, ih2, ih3⟩ := marginalialaw02_KindWithin.mono_l k
    refine ⟨?_, ?_, ?_, ?_⟩
    · intro y0 y1
      unfold marginalialaw02_KindWithin.j0
      repeat' first
      | (with_reducible exact ih0 _ _)
      | (with_reducible exact ih1 _ _)
      | (with_reducible exact ih2 _ _)
      | (with_reducible exact ih3 _ _)
      | (with_reducible exact kind_Is.mono _ _ _)
      | (with_reducible exact marginalialaw02_alive.mono _)
      | (with_reducible exact LeO.refl _)
      | (with_reducible exact LeO.none _)
      | (with_reducible refine LeO.ite ?_ ?_)
      | (with_reducible refine LeO.bind ?_ (fun _ => ?_))
      | exact ih0 _ _
      | exact ih1 _ _
      | exact ih2 _ _
      | exact ih3 _ _
      | exact kind_Is.mono _ _ _
      | exact marginalialaw02_alive.mono _
      | exact LeO.none _
      | refine LeO.ite ?_ ?_
      | refine LeO.bind ?_ (fun _ => ?_)
    · intro y0 y1
      unfold marginalialaw02_KindWithin.j1
      repeat' first
      | (with_reducible exact ih0 _ _)
      | (with_reducible exact ih1 _ _)
      | (with_reducible exact ih2 _ _)
      | (with_reducible exact ih3 _ _)
      | (with_reducible exact kind_Is.mono _ _ _)
      | (with_reducible exact marginalialaw02_alive.mono _)
      | (with_reducible exact LeO.refl _)
      | (with_reducible exact LeO.none _)
      | (with_reducible refine LeO.ite ?_ ?_)
      | (with_reducible refine LeO.bind ?_ (fun _ => ?_))
      | exact ih0 _ _
      | exact ih1 _ _
      | exact ih2 _ _
      | exact ih3 _ _
      | exact kind_Is.mono _ _ _
      | exact marginalialaw02_alive.mono _
      | exact LeO.none _
      | refine LeO.ite ?_ ?_
      | refine LeO.bind ?_ (fun _ => ?_)
    · intro y0 y1
      unfold marginalialaw02_KindWithin.j2
      repeat' first
      | (with_reducible exact ih0 _ _)
      | (with_reducible exact ih1 _ _)
      | (with_reducible exact ih2 _ _)
      | (with_reducible exact ih3 _ _)
      | (with_reducible exact kind_Is.mono _ _ _)
      | (with_reducible exact marginalialaw02_alive.mono _)
      | (with_reducible exact LeO.refl _)
      | (with_reducible exact LeO.none _)
      | (with_reducible refine LeO.ite ?_ ?_)
      | (with_reducible refine LeO.bind ?_ (fun _ => ?_))
      | exact ih0 _ _
      | exact ih1 _ _
      | exact ih2 _ _
      | exact ih3 _ _
      | exact kind_Is.mono _ _ _
      | exact marginalialaw02_alive.mono _
      | exact LeO.none _
      | refine LeO.ite ?_ ?_
      | refine LeO.bind ?_ (fun _ => ?_)
    · intro y0 y1
      unfold marginalialaw02_KindWithin.j3
      repeat' first
      | (with_reducible exact ih0 _ _)
      | (with_reducible exact ih1 _ _)
      | (with_reducible exact ih2 _ _)
      | (with_reducible exact ih3 _ _)
      | (with_reducible exact kind_Is.mono _ _ _)
      | (with_reducible exact marginalialaw02_alive.mono _)
      | (with_reducible exact LeO.refl _)
      | (with_reducible exact LeO.none _)
      | (with_reducible refine LeO.ite ?_ ?_)
      | (with_reducible refine LeO.bind ?_ (fun _ => ?_))
      | exact ih0 _ _
      | exact ih1 _ _
      | exact ih2 _ _
      | exact ih3 _ _
      | exact kind_Is.mono _ _ _
      | exact marginalialaw02_alive.mono _
      | exact LeO.none _
      | refine LeO.ite ?_ ?_
      | refine LeO.bind ?_ (fun _ => ?_)
theorem marginalialaw02_KindWithin.mono : ∀ a0 k, LeO (marginalialaw02_KindWithin.f k a0) (marginalialaw02_KindWithin.f (k + 1) a0) := by
  intro a0 k
  obtain ⟨ih0, ih1, ih2, ih3⟩ := marginalialaw02_KindWithin.mono_l k
  unfold marginalialaw02_KindWithin.f
  repeat' first
      | (with_reducible exact ih0 _ _)
      | (with_reducible exact ih1 _ _)
      | (with_reducible exact ih2 _ _)
      | (with_reducible exact ih3 _ _)
      | (with_reducible exact kind_Is.mono _ _ _)
      | (with_reducible exact marginalialaw02_alive.mono _)
      | (with_reducible exact LeO.refl _)
      | (with_reducible exact LeO.none _)
      | (with_reducible refine LeO.ite ?_ ?_)
      | (with_reducible refine LeO.bind ?_ (fun _ => ?_))
      | exact ih0 _ _
      | exact ih1 _ _
      | exact ih2 _ _
      | exact ih3 _ _
      | exact kind_Is.mono _ _ _
      | exact marginalialaw02_alive.mono _
      | exact LeO.none _
      | refine LeO.ite ?_ ?_
      | refine LeO.bind ?_ (fun _ => ?_)
set_option maxHeartbeats 8000000 in
set_option maxRecDepth 100000 in
theorem marginalialaw02_KindWithin.calls (k : Nat) (a0 : ByteArray) (r : Bool) (w : World) (h : marginalialaw02_KindWithin.f k a0 = some r) :
    Calls Try.prog 6 #[.string a0] w fun e w' => e = .returned (.bool r) ∧ Below w.heap.size w w' := by
  have HB := Aside0.mk (Below.refl w.heap.size w)
  have H : (if (a0.size : Int) > 300 then ((marginalialaw02_alive.f k).bind fun t243 => (some t243)) else ((kind_Is.f k 1 a0).bind fun t244 => (if t244 = true then (marginalialaw02_KindWithin.j0 k a0 true) else ((kind_Is.f k 2 a0).bind fun t245 => (if t245 = true then (marginalialaw02_KindWithin.j0 k a0 true) else ((kind_Is.f k 3 a0).bind fun t246 => (if t246 = true then (marginalialaw02_KindWithin.j0 k a0 true) else ((kind_Is.f k 7 a0).bind fun t247 => (if t247 = true then (marginalialaw02_KindWithin.j0 k a0 true) else ((kind_Is.f k 6 a0).bind fun t248 => (if t248 = true then (marginalialaw02_KindWithin.j0 k a0 true) else ((kind_Is.f k 9 a0).bind fun t249 => (if t249 = true then (marginalialaw02_KindWithin.j0 k a0 true) else ((kind_Is.f k 11 a0).bind fun t250 => (marginalialaw02_KindWithin.j0 k a0 t250))))))))))))))) = some r := h
  clear h
  by_cases c2 : (a0.size : Int) > 300
  · rw [if_pos c2] at H
    have c2b0 : decide (300 < (a0.size : Int)) = true := decide_eq_true c2
    have c2b1 : decide (300 < a0.size) = true := decide_eq_true (by omega)
    clear c2
    replace H := Option.bind_eq_some_iff.mp H
    obtain ⟨t243, A30, H⟩ := H
    replace H : (some t243) = some r := H
    have A3 := Aside0.mk A30
    clear A30
    obtain rfl := Option.some.inj H
    go_enter Try.func6, Try.ntmps6
    go_wp2_with (first | ((with_reducible refine gate_callee (f := 8) rfl ?_); refine goesL_ (some 7) rfl rfl Try.func8 (by kernel_rfl) rfl #[] rfl (by (try simp only [List.map_toArray, List.map_cons, List.map_nil]); first | done | rfl | (simp only [List.length_drop, List.length_take]; rfl)) ?_; (with_reducible refine (marginalialaw02_alive.calls k  t243 _ A3.out).mono ?_); rintro e w4 ⟨rfl, hb⟩; refine ⟨_, rfl, ?_⟩; have n0_ := Aside0.mk (below_step (by repeat (first | (with_reducible first | exact HB.out | apply below_alloc | apply pw_below_drewN | apply below_drew1) | exact HB.out)) hb); clear HB; have HB := n0_; clear n0_; (try clear hb); (try clear hb2); (try clear hk); (try clear hi)))
    go_ret
    exact ⟨by first | rfl | (simp [errW_none, errW_some] <;> rfl) | (simp [*, errW_none, errW_some] <;> rfl), by repeat (first | (with_reducible first | exact HB.out | apply below_alloc | apply pw_below_drewN | apply below_drew1) | exact HB.out)⟩
  · rw [if_neg c2] at H
    have c2b0 : decide (300 < (a0.size : Int)) = false := decide_eq_false c2
    have c2b1 : decide (300 < a0.size) = false := decide_eq_false (by omega)
    clear c2
    have HC5 := Aside0.mk H
    clear H
    go_enter Try.func6, Try.ntmps6
    go_upto_region 3 with (fail)
    go_cut [3] (fun v3 wc => ∃ (kq : Nat) (x3_4 : Bool), v3 = .bool x3_4 ∧ Aside0 (marginalialaw02_KindWithin.j0 kq a0 x3_4 = some r) ∧ Aside0 (kq ≤ k) ∧ Aside0 (Below w.heap.size w wc))
    case first =>
      have H := HC5.out
      clear HC5
      replace H := Option.bind_eq_some_iff.mp H
      obtain ⟨t244, A60, H⟩ := H
      replace H : (if t244 = true then (marginalialaw02_KindWithin.j0 k a0 true) else ((kind_Is.f k 2 a0).bind fun t245 => (if t245 = true then (marginalialaw02_KindWithin.j0 k a0 true) else ((kind_Is.f k 3 a0).bind fun t246 => (if t246 = true then (marginalialaw02_KindWithin.j0 k a0 true) else ((kind_Is.f k 7 a0).bind fun t247 => (if t247 = true then (marginalialaw02_KindWithin.j0 k a0 true) else ((kind_Is.f k 6 a0).bind fun t248 => (if t248 = true then (marginalialaw02_KindWithin.j0 k a0 true) else ((kind_Is.f k 9 a0).bind fun t249 => (if t249 = true then (marginalialaw02_KindWithin.j0 k a0 true) else ((kind_Is.f k 11 a0).bind fun t250 => (marginalialaw02_KindWithin.j0 k a0 t250))))))))))))) = some r := H
      have A6 := Aside0.mk A60
      clear A60
      by_cases c7 : t244 = true
      · subst c7
        have H1 : (marginalialaw02_KindWithin.j0 k a0 true) = some r := by rw [if_pos rfl] at H; exact H
        clear H
        have H := H1
        clear H1
        have H' := Aside0.mk H
        clear H
        go_wp2_with (first | ((with_reducible refine gate_callee (f := 19) rfl ?_); refine goesL_ (some 9) rfl rfl Try.func19 (by kernel_rfl) rfl #[.int .i64 1, .string a0] rfl (by (try simp only [List.map_toArray, List.map_cons, List.map_nil]); first | done | rfl | (simp only [List.length_drop, List.length_take]; rfl)) ?_; (with_reducible refine (kind_Is.calls k 1 a0 true _ A6.out).mono ?_); rintro e w8 ⟨rfl, hb⟩; refine ⟨_, rfl, ?_⟩; have n0_ := Aside0.mk (below_step (by repeat (first | (with_reducible first | exact HB.out | apply below_alloc | apply pw_below_drewN | apply below_drew1) | exact HB.out)) hb); clear HB; have HB := n0_; clear n0_; (try clear hb); (try clear hb2); (try clear hk); (try clear hi)))
        go_meet
        case rel => exact ⟨_, (true), (by first | rfl | (simp; done) | (simp [*]; done)), H', ⟨by first | omega | exact Nat.le_refl _⟩, ⟨by repeat (first | (with_reducible first | exact HB.out | apply below_alloc | apply pw_below_drewN | apply below_drew1) | exact HB.out)⟩⟩
      · replace c7 := Bool.eq_false_iff.mpr c7
        subst c7
        have H1 : ((kind_Is.f k 2 a0).bind fun t245 => (if t245 = true then (marginalialaw02_KindWithin.j0 k a0 true) else ((kind_Is.f k 3 a0).bind fun t246 => (if t246 = true then (marginalialaw02_KindWithin.j0 k a0 true) else ((kind_Is.f k 7 a0).bind fun t247 => (if t247 = true then (marginalialaw02_KindWithin.j0 k a0 true) else ((kind_Is.f k 6 a0).bind fun t248 => (if t248 = true then (marginalialaw02_KindWithin.j0 k a0 true) else ((kind_Is.f k 9 a0).bind fun t249 => (if t249 = true then (marginalialaw02_KindWithin.j0 k a0 true) else ((kind_Is.f k 11 a0).bind fun t250 => (marginalialaw02_KindWithin.j0 k a0 t250)))))))))))) = some r := by rw [if_neg (show ¬ (false = true) by decide)] at H; exact H
        clear H
        have H := H1
        clear H1
        replace H := Option.bind_eq_some_iff.mp H
        obtain ⟨t245, A90, H⟩ := H
        replace H : (if t245 = true then (marginalialaw02_KindWithin.j0 k a0 true) else ((kind_Is.f k 3 a0).bind fun t246 => (if t246 = true then (marginalialaw02_KindWithin.j0 k a0 true) else ((kind_Is.f k 7 a0).bind fun t247 => (if t247 = true then (marginalialaw02_KindWithin.j0 k a0 true) else ((kind_Is.f k 6 a0).bind fun t248 => (if t248 = true then (marginalialaw02_KindWithin.j0 k a0 true) else ((kind_Is.f k 9 a0).bind fun t249 => (if t249 = true then (marginalialaw02_KindWithin.j0 k a0 true) else ((kind_Is.f k 11 a0).bind fun t250 => (marginalialaw02_KindWithin.j0 k a0 t250))))))))))) = some r := H
        have A9 := Aside0.mk A90
        clear A90
        by_cases c10 : t245 = true
        · subst c10
          have H1 : (marginalialaw02_KindWithin.j0 k a0 true) = some r := by rw [if_pos rfl] at H; exact H
          clear H
          have H := H1
          clear H1
          have H' := Aside0.mk H
          clear H
          go_wp2_with (first | ((with_reducible refine gate_callee (f := 19) rfl ?_); refine goesL_ (some 9) rfl rfl Try.func19 (by kernel_rfl) rfl #[.int .i64 1, .string a0] rfl (by (try simp only [List.map_toArray, List.map_cons, List.map_nil]); first | done | rfl | (simp only [List.length_drop, List.length_take]; rfl)) ?_; (with_reducible refine (kind_Is.calls k 1 a0 false _ A6.out).mono ?_); rintro e w11 ⟨rfl, hb⟩; refine ⟨_, rfl, ?_⟩; have n0_ := Aside0.mk (below_step (by repeat (first | (with_reducible first | exact HB.out | apply below_alloc | apply pw_below_drewN | apply below_drew1) | exact HB.out)) hb); clear HB; have HB := n0_; clear n0_; (try clear hb); (try clear hb2); (try clear hk); (try clear hi)) | (go_at_call 19; (with_reducible refine (kind_Is.calls k 2 a0 true _ A9.out).mono ?_); rintro e w12 ⟨rfl, hb⟩; have n0_ := Aside0.mk (below_step (by repeat (first | (with_reducible first | exact HB.out | apply below_alloc | apply pw_below_drewN | apply below_drew1) | exact HB.out)) hb); clear HB; have HB := n0_; clear n0_; (try clear hb); (try clear hb2); (try clear hk); (try clear hi)))
          go_meet
          case rel => exact ⟨_, (true), (by first | rfl | (simp; done) | (simp [*]; done)), H', ⟨by first | omega | exact Nat.le_refl _⟩, ⟨by repeat (first | (with_reducible first | exact HB.out | apply below_alloc | apply pw_below_drewN | apply below_drew1) | exact HB.out)⟩⟩
        · replace c10 := Bool.eq_false_iff.mpr c10
          subst c10
          have H1 : ((kind_Is.f k 3 a0).bind fun t246 => (if t246 = true then (marginalialaw02_KindWithin.j0 k a0 true) else ((kind_Is.f k 7 a0).bind fun t247 => (if t247 = true then (marginalialaw02_KindWithin.j0 k a0 true) else ((kind_Is.f k 6 a0).bind fun t248 => (if t248 = true then (marginalialaw02_KindWithin.j0 k a0 true) else ((kind_Is.f k 9 a0).bind fun t249 => (if t249 = true then (marginalialaw02_KindWithin.j0 k a0 true) else ((kind_Is.f k 11 a0).bind fun t250 => (marginalialaw02_KindWithin.j0 k a0 t250)))))))))) = some r := by rw [if_neg (show ¬ (false = true) by decide)] at H; exact H
          clear H
          have H := H1
          clear H1
          replace H := Option.bind_eq_some_iff.mp H
          obtain ⟨t246, A130, H⟩ := H
          replace H : (if t246 = true then (marginalialaw02_KindWithin.j0 k a0 true) else ((kind_Is.f k 7 a0).bind fun t247 => (if t247 = true then (marginalialaw02_KindWithin.j0 k a0 true) else ((kind_Is.f k 6 a0).bind fun t248 => (if t248 = true then (marginalialaw02_KindWithin.j0 k a0 true) else ((kind_Is.f k 9 a0).bind fun t249 => (if t249 = true then (marginalialaw02_KindWithin.j0 k a0 true) else ((kind_Is.f k 11 a0).bind fun t250 => (marginalialaw02_KindWithin.j0 k a0 t250))))))))) = some r := H
          have A13 := Aside0.mk A130
          clear A130
          by_cases c14 : t246 = true
          · subst c14
            have H1 : (marginalialaw02_KindWithin.j0 k a0 true) = some r := by rw [if_pos rfl] at H; exact H
            clear H
            have H := H1
            clear H1
            have H' := Aside0.mk H
            clear H
            go_wp2_with (first | ((with_reducible refine gate_callee (f := 19) rfl ?_); refine goesL_ (some 9) rfl rfl Try.func19 (by kernel_rfl) rfl #[.int .i64 1, .string a0] rfl (by (try simp only [List.map_toArray, List.map_cons, List.map_nil]); first | done | rfl | (simp only [List.length_drop, List.length_take]; rfl)) ?_; (with_reducible refine (kind_Is.calls k 1 a0 false _ A6.out).mono ?_); rintro e w15 ⟨rfl, hb⟩; refine ⟨_, rfl, ?_⟩; have n0_ := Aside0.mk (below_step (by repeat (first | (with_reducible first | exact HB.out | apply below_alloc | apply pw_below_drewN | apply below_drew1) | exact HB.out)) hb); clear HB; have HB := n0_; clear n0_; (try clear hb); (try clear hb2); (try clear hk); (try clear hi)) | (go_at_call 19; (with_reducible refine (kind_Is.calls k 2 a0 false _ A9.out).mono ?_); rintro e w16 ⟨rfl, hb⟩; have n0_ := Aside0.mk (below_step (by repeat (first | (with_reducible first | exact HB.out | apply below_alloc | apply pw_below_drewN | apply below_drew1) | exact HB.out)) hb); clear HB; have HB := n0_; clear n0_; (try clear hb); (try clear hb2); (try clear hk); (try clear hi)) | (go_at_call 19; (with_reducible refine (kind_Is.calls k 3 a0 true _ A13.out).mono ?_); rintro e w17 ⟨rfl, hb⟩; have n0_ := Aside0.mk (below_step (by repeat (first | (with_reducible first | exact HB.out | apply below_alloc | apply pw_below_drewN | apply below_drew1) | exact HB.out)) hb); clear HB; have HB := n0_; clear n0_; (try clear hb); (try clear hb2); (try clear hk); (try clear hi)))
            go_meet
            case rel => exact ⟨_, (true), (by first | rfl | (simp; done) | (simp [*]; done)), H', ⟨by first | omega | exact Nat.le_refl _⟩, ⟨by repeat (first | (with_reducible first | exact HB.out | apply below_alloc | apply pw_below_drewN | apply below_drew1) | exact HB.out)⟩⟩
          · replace c14 := Bool.eq_false_iff.mpr c14
            subst c14
            have H1 : ((kind_Is.f k 7 a0).bind fun t247 => (if t247 = true then (marginalialaw02_KindWithin.j0 k a0 true) else ((kind_Is.f k 6 a0).bind fun t248 => (if t248 = true then (marginalialaw02_KindWithin.j0 k a0 true) else ((kind_Is.f k 9 a0).bind fun t249 => (if t249 = true then (marginalialaw02_KindWithin.j0 k a0 true) else ((kind_Is.f k 11 a0).bind fun t250 => (marginalialaw02_KindWithin.j0 k a0 t250)))))))) = some r := by rw [if_neg (show ¬ (false = true) by decide)] at H; exact H
            clear H
            have H := H1
            clear H1
            replace H := Option.bind_eq_some_iff.mp H
            obtain ⟨t247, A180, H⟩ := H
            replace H : (if t247 = true then (marginalialaw02_KindWithin.j0 k a0 true) else ((kind_Is.f k 6 a0).bind fun t248 => (if t248 = true then (marginalialaw02_KindWithin.j0 k a0 true) else ((kind_Is.f k 9 a0).bind fun t249 => (if t249 = true then (marginalialaw02_KindWithin.j0 k a0 true) else ((kind_Is.f k 11 a0).bind fun t250 => (marginalialaw02_KindWithin.j0 k a0 t250))))))) = some r := H
            have A18 := Aside0.mk A180
            clear A180
            by_cases c19 : t247 = true
            · subst c19
              have H1 : (marginalialaw02_KindWithin.j0 k a0 true) = some r := by rw [if_pos rfl] at H; exact H
              clear H
              have H := H1
              clear H1
              have H' := Aside0.mk H
              clear H
              go_wp2_with (first | ((with_reducible refine gate_callee (f := 19) rfl ?_); refine goesL_ (some 9) rfl rfl Try.func19 (by kernel_rfl) rfl #[.int .i64 1, .string a0] rfl (by (try simp only [List.map_toArray, List.map_cons, List.map_nil]); first | done | rfl | (simp only [List.length_drop, List.length_take]; rfl)) ?_; (with_reducible refine (kind_Is.calls k 1 a0 false _ A6.out).mono ?_); rintro e w20 ⟨rfl, hb⟩; refine ⟨_, rfl, ?_⟩; have n0_ := Aside0.mk (below_step (by repeat (first | (with_reducible first | exact HB.out | apply below_alloc | apply pw_below_drewN | apply below_drew1) | exact HB.out)) hb); clear HB; have HB := n0_; clear n0_; (try clear hb); (try clear hb2); (try clear hk); (try clear hi)) | (go_at_call 19; (with_reducible refine (kind_Is.calls k 2 a0 false _ A9.out).mono ?_); rintro e w21 ⟨rfl, hb⟩; have n0_ := Aside0.mk (below_step (by repeat (first | (with_reducible first | exact HB.out | apply below_alloc | apply pw_below_drewN | apply below_drew1) | exact HB.out)) hb); clear HB; have HB := n0_; clear n0_; (try clear hb); (try clear hb2); (try clear hk); (try clear hi)) | (go_at_call 19; (with_reducible refine (kind_Is.calls k 3 a0 false _ A13.out).mono ?_); rintro e w22 ⟨rfl, hb⟩; have n0_ := Aside0.mk (below_step (by repeat (first | (with_reducible first | exact HB.out | apply below_alloc | apply pw_below_drewN | apply below_drew1) | exact HB.out)) hb); clear HB; have HB := n0_; clear n0_; (try clear hb); (try clear hb2); (try clear hk); (try clear hi)) | (go_at_call 19; (with_reducible refine (kind_Is.calls k 7 a0 true _ A18.out).mono ?_); rintro e w23 ⟨rfl, hb⟩; have n0_ := Aside0.mk (below_step (by repeat (first | (with_reducible first | exact HB.out | apply below_alloc | apply pw_below_drewN | apply below_drew1) | exact HB.out)) hb); clear HB; have HB := n0_; clear n0_; (try clear hb); (try clear hb2); (try clear hk); (try clear hi)))
              go_meet
              case rel => exact ⟨_, (true), (by first | rfl | (simp; done) | (simp [*]; done)), H', ⟨by first | omega | exact Nat.le_refl _⟩, ⟨by repeat (first | (with_reducible first | exact HB.out | apply below_alloc | apply pw_below_drewN | apply below_drew1) | exact HB.out)⟩⟩
            · replace c19 := Bool.eq_false_iff.mpr c19
              subst c19
              have H1 : ((kind_Is.f k 6 a0).bind fun t248 => (if t248 = true then (marginalialaw02_KindWithin.j0 k a0 true) else ((kind_Is.f k 9 a0).bind fun t249 => (if t249 = true then (marginalialaw02_KindWithin.j0 k a0 true) else ((kind_Is.f k 11 a0).bind fun t250 => (marginalialaw02_KindWithin.j0 k a0 t250)))))) = some r := by rw [if_neg (show ¬ (false = true) by decide)] at H; exact H
              clear H
              have H := H1
              clear H1
              replace H := Option.bind_eq_some_iff.mp H
              obtain ⟨t248, A240, H⟩ := H
              replace H : (if t248 = true then (marginalialaw02_KindWithin.j0 k a0 true) else ((kind_Is.f k 9 a0).bind fun t249 => (if t249 = true then (marginalialaw02_KindWithin.j0 k a0 true) else ((kind_Is.f k 11 a0).bind fun t250 => (marginalialaw02_KindWithin.j0 k a0 t250))))) = some r := H
              have A24 := Aside0.mk A240
              clear A240
              by_cases c25 : t248 = true
              · subst c25
                have H1 : (marginalialaw02_KindWithin.j0 k a0 true) = some r := by rw [if_pos rfl] at H; exact H
                clear H
                have H := H1
                clear H1
                have H' := Aside0.mk H
                clear H
                go_wp2_with (first | ((with_reducible refine gate_callee (f := 19) rfl ?_); refine goesL_ (some 9) rfl rfl Try.func19 (by kernel_rfl) rfl #[.int .i64 1, .string a0] rfl (by (try simp only [List.map_toArray, List.map_cons, List.map_nil]); first | done | rfl | (simp only [List.length_drop, List.length_take]; rfl)) ?_; (with_reducible refine (kind_Is.calls k 1 a0 false _ A6.out).mono ?_); rintro e w26 ⟨rfl, hb⟩; refine ⟨_, rfl, ?_⟩; have n0_ := Aside0.mk (below_step (by repeat (first | (with_reducible first | exact HB.out | apply below_alloc | apply pw_below_drewN | apply below_drew1) | exact HB.out)) hb); clear HB; have HB := n0_; clear n0_; (try clear hb); (try clear hb2); (try clear hk); (try clear hi)) | (go_at_call 19; (with_reducible refine (kind_Is.calls k 2 a0 false _ A9.out).mono ?_); rintro e w27 ⟨rfl, hb⟩; have n0_ := Aside0.mk (below_step (by repeat (first | (with_reducible first | exact HB.out | apply below_alloc | apply pw_below_drewN | apply below_drew1) | exact HB.out)) hb); clear HB; have HB := n0_; clear n0_; (try clear hb); (try clear hb2); (try clear hk); (try clear hi)) | (go_at_call 19; (with_reducible refine (kind_Is.calls k 3 a0 false _ A13.out).mono ?_); rintro e w28 ⟨rfl, hb⟩; have n0_ := Aside0.mk (below_step (by repeat (first | (with_reducible first | exact HB.out | apply below_alloc | apply pw_below_drewN | apply below_drew1) | exact HB.out)) hb); clear HB; have HB := n0_; clear n0_; (try clear hb); (try clear hb2); (try clear hk); (try clear hi)) | (go_at_call 19; (with_reducible refine (kind_Is.calls k 7 a0 false _ A18.out).mono ?_); rintro e w29 ⟨rfl, hb⟩; have n0_ := Aside0.mk (below_step (by repeat (first | (with_reducible first | exact HB.out | apply below_alloc | apply pw_below_drewN | apply below_drew1) | exact HB.out)) hb); clear HB; have HB := n0_; clear n0_; (try clear hb); (try clear hb2); (try clear hk); (try clear hi)) | (go_at_call 19; (with_reducible refine (kind_Is.calls k 6 a0 true _ A24.out).mono ?_); rintro e w30 ⟨rfl, hb⟩; have n0_ := Aside0.mk (below_step (by repeat (first | (with_reducible first | exact HB.out | apply below_alloc | apply pw_below_drewN | apply below_drew1) | exact HB.out)) hb); clear HB; have HB := n0_; clear n0_; (try clear hb); (try clear hb2); (try clear hk); (try clear hi)))
                go_meet
                case rel => exact ⟨_, (true), (by first | rfl | (simp; done) | (simp [*]; done)), H', ⟨by first | omega | exact Nat.le_refl _⟩, ⟨by repeat (first | (with_reducible first | exact HB.out | apply below_alloc | apply pw_below_drewN | apply below_drew1) | exact HB.out)⟩⟩
              · replace c25 := Bool.eq_false_iff.mpr c25
                subst c25
                have H1 : ((kind_Is.f k 9 a0).bind fun t249 => (if t249 = true then (marginalialaw02_KindWithin.j0 k a0 true) else ((kind_Is.f k 11 a0).bind fun t250 => (marginalialaw02_KindWithin.j0 k a0 t250)))) = some r := by rw [if_neg (show ¬ (false = true) by decide)] at H; exact H
                clear H
                have H := H1
                clear H1
                replace H := Option.bind_eq_some_iff.mp H
                obtain ⟨t249, A310, H⟩ := H
                replace H : (if t249 = true then (marginalialaw02_KindWithin.j0 k a0 true) else ((kind_Is.f k 11 a0).bind fun t250 => (marginalialaw02_KindWithin.j0 k a0 t250))) = some r := H
                have A31 := Aside0.mk A310
                clear A310
                by_cases c32 : t249 = true
                · subst c32
                  have H1 : (marginalialaw02_KindWithin.j0 k a0 true) = some r := by rw [if_pos rfl] at H; exact H
                  clear H
                  have H := H1
                  clear H1
                  have H' := Aside0.mk H
                  clear H
                  go_wp2_with (first | ((with_reducible refine gate_callee (f := 19) rfl ?_); refine goesL_ (some 9) rfl rfl Try.func19 (by kernel_rfl) rfl #[.int .i64 1, .string a0] rfl (by (try simp only [List.map_toArray, List.map_cons, List.map_nil]); first | done | rfl | (simp only [List.length_drop, List.length_take]; rfl)) ?_; (with_reducible refine (kind_Is.calls k 1 a0 false _ A6.out).mono ?_); rintro e w33 ⟨rfl, hb⟩; refine ⟨_, rfl, ?_⟩; have n0_ := Aside0.mk (below_step (by repeat (first | (with_reducible first | exact HB.out | apply below_alloc | apply pw_below_drewN | apply below_drew1) | exact HB.out)) hb); clear HB; have HB := n0_; clear n0_; (try clear hb); (try clear hb2); (try clear hk); (try clear hi)) | (go_at_call 19; (with_reducible refine (kind_Is.calls k 2 a0 false _ A9.out).mono ?_); rintro e w34 ⟨rfl, hb⟩; have n0_ := Aside0.mk (below_step (by repeat (first | (with_reducible first | exact HB.out | apply below_alloc | apply pw_below_drewN | apply below_drew1) | exact HB.out)) hb); clear HB; have HB := n0_; clear n0_; (try clear hb); (try clear hb2); (try clear hk); (try clear hi)) | (go_at_call 19; (with_reducible refine (kind_Is.calls k 3 a0 false _ A13.out).mono ?_); rintro e w35 ⟨rfl, hb⟩; have n0_ := Aside0.mk (below_step (by repeat (first | (with_reducible first | exact HB.out | apply below_alloc | apply pw_below_drewN | apply below_drew1) | exact HB.out)) hb); clear HB; have HB := n0_; clear n0_; (try clear hb); (try clear hb2); (try clear hk); (try clear hi)) | (go_at_call 19; (with_reducible refine (kind_Is.calls k 7 a0 false _ A18.out).mono ?_); rintro e w36 ⟨rfl, hb⟩; have n0_ := Aside0.mk (below_step (by repeat (first | (with_reducible first | exact HB.out | apply below_alloc | apply pw_below_drewN | apply below_drew1) | exact HB.out)) hb); clear HB; have HB := n0_; clear n0_; (try clear hb); (try clear hb2); (try clear hk); (try clear hi)) | (go_at_call 19; (with_reducible refine (kind_Is.calls k 6 a0 false _ A24.out).mono ?_); rintro e w37 ⟨rfl, hb⟩; have n0_ := Aside0.mk (below_step (by repeat (first | (with_reducible first | exact HB.out | apply below_alloc | apply pw_below_drewN | apply below_drew1) | exact HB.out)) hb); clear HB; have HB := n0_; clear n0_; (try clear hb); (try clear hb2); (try clear hk); (try clear hi)) | (go_at_call 19; (with_reducible refine (kind_Is.calls k 9 a0 true _ A31.out).mono ?_); rintro e w38 ⟨rfl, hb⟩; have n0_ := Aside0.mk (below_step (by repeat (first | (with_reducible first | exact HB.out | apply below_alloc | apply pw_below_drewN | apply below_drew1) | exact HB.out)) hb); clear HB; have HB := n0_; clear n0_; (try clear hb); (try clear hb2); (try clear hk); (try clear hi)))
                  go_meet
                  case rel => exact ⟨_, (true), (by first | rfl | (simp; done) | (simp [*]; done)), H', ⟨by first | omega | exact Nat.le_refl _⟩, ⟨by repeat (first | (with_reducible first | exact HB.out | apply below_alloc | apply pw_below_drewN | apply below_drew1) | exact HB.out)⟩⟩
                · replace c32 := Bool.eq_false_iff.mpr c32
                  subst c32
                  have H1 : ((kind_Is.f k 11 a0).bind fun t250 => (marginalialaw02_KindWithin.j0 k a0 t250)) = some r := by rw [if_neg (show ¬ (false = true) by decide)] at H; exact H
                  clear H
                  have H := H1
                  clear H1
                  replace H := Option.bind_eq_some_iff.mp H
                  obtain ⟨t250, A390, H⟩ := H
                  replace H : (marginalialaw02_KindWithin.j0 k a0 t250) = some r := H
                  have A39 := Aside0.mk A390
                  clear A390
                  have H' := Aside0.mk H
                  clear H
                  go_wp2_with (first | ((with_reducible refine gate_callee (f := 19) rfl ?_); refine goesL_ (some 9) rfl rfl Try.func19 (by kernel_rfl) rfl #[.int .i64 1, .string a0] rfl (by (try simp only [List.map_toArray, List.map_cons, List.map_nil]); first | done | rfl | (simp only [List.length_drop, List.length_take]; rfl)) ?_; (with_reducible refine (kind_Is.calls k 1 a0 false _ A6.out).mono ?_); rintro e w40 ⟨rfl, hb⟩; refine ⟨_, rfl, ?_⟩; have n0_ := Aside0.mk (below_step (by repeat (first | (with_reducible first | exact HB.out | apply below_alloc | apply pw_below_drewN | apply below_drew1) | exact HB.out)) hb); clear HB; have HB := n0_; clear n0_; (try clear hb); (try clear hb2); (try clear hk); (try clear hi)) | (go_at_call 19; (with_reducible refine (kind_Is.calls k 2 a0 false _ A9.out).mono ?_); rintro e w41 ⟨rfl, hb⟩; have n0_ := Aside0.mk (below_step (by repeat (first | (with_reducible first | exact HB.out | apply below_alloc | apply pw_below_drewN | apply below_drew1) | exact HB.out)) hb); clear HB; have HB := n0_; clear n0_; (try clear hb); (try clear hb2); (try clear hk); (try clear hi)) | (go_at_call 19; (with_reducible refine (kind_Is.calls k 3 a0 false _ A13.out).mono ?_); rintro e w42 ⟨rfl, hb⟩; have n0_ := Aside0.mk (below_step (by repeat (first | (with_reducible first | exact HB.out | apply below_alloc | apply pw_below_drewN | apply below_drew1) | exact HB.out)) hb); clear HB; have HB := n0_; clear n0_; (try clear hb); (try clear hb2); (try clear hk); (try clear hi)) | (go_at_call 19; (with_reducible refine (kind_Is.calls k 7 a0 false _ A18.out).mono ?_); rintro e w43 ⟨rfl, hb⟩; have n0_ := Aside0.mk (below_step (by repeat (first | (with_reducible first | exact HB.out | apply below_alloc | apply pw_below_drewN | apply below_drew1) | exact HB.out)) hb); clear HB; have HB := n0_; clear n0_; (try clear hb); (try clear hb2); (try clear hk); (try clear hi)) | (go_at_call 19; (with_reducible refine (kind_Is.calls k 6 a0 false _ A24.out).mono ?_); rintro e w44 ⟨rfl, hb⟩; have n0_ := Aside0.mk (below_step (by repeat (first | (with_reducible first | exact HB.out | apply below_alloc | apply pw_below_drewN | apply below_drew1) | exact HB.out)) hb); clear HB; have HB := n0_; clear n0_; (try clear hb); (try clear hb2); (try clear hk); (try clear hi)) | (go_at_call 19; (with_reducible refine (kind_Is.calls k 9 a0 false _ A31.out).mono ?_); rintro e w45 ⟨rfl, hb⟩; have n0_ := Aside0.mk (below_step (by repeat (first | (with_reducible first | exact HB.out | apply below_alloc | apply pw_below_drewN | apply below_drew1) | exact HB.out)) hb); clear HB; have HB := n0_; clear n0_; (try clear hb); (try clear hb2); (try clear hk); (try clear hi)) | (go_at_call 19; (with_reducible refine (kind_Is.calls k 11 a0 t250 _ A39.out).mono ?_); rintro e w46 ⟨rfl, hb⟩; have n0_ := Aside0.mk (below_step (by repeat (first | (with_reducible first | exact HB.out | apply below_alloc | apply pw_below_drewN | apply below_drew1) | exact HB.out)) hb); clear HB; have HB := n0_; clear n0_; (try clear hb); (try clear hb2); (try clear hk); (try clear hi)))
                  go_meet
                  case rel => exact ⟨_, (t250), (by first | rfl | (simp; done) | (simp [*]; done)), H', ⟨by first | omega | exact Nat.le_refl _⟩, ⟨by repeat (first | (with_reducible first | exact HB.out | apply below_alloc | apply pw_below_drewN | apply below_drew1) | exact HB.out)⟩⟩
    case rest =>
      clear HC5
      try clear c1
      try clear c2
      try clear c2b0
      try clear c2b1
      try clear p2
      try clear c3
      try clear c6
      try clear c7
      try clear c8
      try clear c10
      try clear c14
      try clear c19
      try clear c25
      try clear c32
      obtain ⟨kq, x3_4, rfl, HA, HJ4, HB⟩ := hcut
      cases kq with
      | zero => exact absurd HA.out (by simp [marginalialaw02_KindWithin.j0])
      | succ kj4 =>
        have H := HA.out
        clear HA
        simp only [marginalialaw02_KindWithin.j0] at H
        have HC47 := Aside0.mk H
        clear H
        go_upto_region 4 with (fail)
        go_cut [39] (fun v39 wc => ∃ (kq : Nat) (x39_46 : Bool), v39 = .bool x39_46 ∧ Aside0 (marginalialaw02_KindWithin.j1 kq a0 x39_46 = some r) ∧ Aside0 (kq ≤ kj4) ∧ Aside0 (Below w.heap.size w wc))
        case first =>
          have H := HC47.out
          clear HC47
          by_cases c48 : x3_4 = true
          · subst c48
            have H1 : ((kind_Is.f kj4 4 a0).bind fun t251 => (marginalialaw02_KindWithin.j1 kj4 a0 (!t251))) = some r := by rw [if_pos rfl] at H; exact H
            clear H
            have H := H1
            clear H1
            replace H := Option.bind_eq_some_iff.mp H
            obtain ⟨t251, A490, H⟩ := H
            replace H : (marginalialaw02_KindWithin.j1 kj4 a0 (!t251)) = some r := H
            have A49 := Aside0.mk A490
            clear A490
            have H' := Aside0.mk H
            clear H
            go_wp2_with (first | (go_at_call 19; (with_reducible refine (kind_Is.calls kj4 4 a0 t251 _ A49.out).mono ?_); rintro e w50 ⟨rfl, hb⟩; have n0_ := Aside0.mk (below_step (by repeat (first | (with_reducible first | exact HB.out | apply below_alloc | apply pw_below_drewN | apply below_drew1) | exact HB.out)) hb); clear HB; have HB := n0_; clear n0_; (try clear hb); (try clear hb2); (try clear hk); (try clear hi)))
            go_meet
            case rel => exact ⟨_, (!t251), (by first | rfl | (simp; done) | (simp [*]; done)), H', ⟨by have := HJ4.out; first | omega | exact Nat.le_refl _⟩, ⟨by repeat (first | (with_reducible first | exact HB.out | apply below_alloc | apply pw_below_drewN | apply below_drew1) | exact HB.out)⟩⟩
          · replace c48 := Bool.eq_false_iff.mpr c48
            subst c48
            have H1 : (marginalialaw02_KindWithin.j1 kj4 a0 false) = some r := by rw [if_neg (show ¬ (false = true) by decide)] at H; exact H
            clear H
            have H := H1
            clear H1
            have H' := Aside0.mk H
            clear H
            go_wp2
            go_meet
            case rel => exact ⟨_, (false), (by first | rfl | (simp; done) | (simp [*]; done)), H', ⟨by have := HJ4.out; first | omega | exact Nat.le_refl _⟩, ⟨by repeat (first | (with_reducible first | exact HB.out | apply below_alloc | apply pw_below_drewN | apply below_drew1) | exact HB.out)⟩⟩
        case rest =>
          clear HC47
          try clear c1
          try clear c2
          try clear c2b0
          try clear c2b1
          try clear p2
          try clear c3
          try clear c4
          try clear c6
          try clear c7
          try clear c8
          try clear c10
          try clear c14
          try clear c19
          try clear c25
          try clear c32
          try clear c48
          try clear p2
          obtain ⟨kq, x39_46, rfl, HA, HJ46, HB⟩ := hcut
          cases kq with
          | zero => exact absurd HA.out (by simp [marginalialaw02_KindWithin.j1])
          | succ kj46 =>
            have H := HA.out
            clear HA
            simp only [marginalialaw02_KindWithin.j1] at H
            by_cases c51 : x39_46 = true
            · subst c51
              have H1 : (some false) = some r := by rw [if_pos rfl] at H; exact H
              clear H
              have H := H1
              clear H1
              obtain rfl := Option.some.inj H
              go_wp2
              go_ret
              exact ⟨by first | rfl | (simp [errW_none, errW_some] <;> rfl) | (simp [*, errW_none, errW_some] <;> rfl), by repeat (first | (with_reducible first | exact HB.out | apply below_alloc | apply pw_below_drewN | apply below_drew1) | exact HB.out)⟩
            · replace c51 := Bool.eq_false_iff.mpr c51
              subst c51
              have H1 : ((kind_Is.f kj46 5 a0).bind fun t252 => (if t252 = true then ((kind_Is.f kj46 6 a0).bind fun t253 => (if t253 = true then (marginalialaw02_KindWithin.j2 kj46 a0 true) else ((kind_Is.f kj46 4 a0).bind fun t254 => (marginalialaw02_KindWithin.j2 kj46 a0 t254)))) else (marginalialaw02_KindWithin.j2 kj46 a0 false))) = some r := by rw [if_neg (show ¬ (false = true) by decide)] at H; exact H
              clear H
              have H := H1
              clear H1
              have HC52 := Aside0.mk H
              clear H
              go_upto_region 6 with (fail)
              go_cut [49] (fun v49 wc => ∃ (kq : Nat) (x49_51 : Bool), v49 = .bool x49_51 ∧ Aside0 (marginalialaw02_KindWithin.j2 kq a0 x49_51 = some r) ∧ Aside0 (kq ≤ kj46) ∧ Aside0 (Below w.heap.size w wc))
              case first =>
                have H := HC52.out
                clear HC52
                replace H := Option.bind_eq_some_iff.mp H
                obtain ⟨t252, A530, H⟩ := H
                replace H : (if t252 = true then ((kind_Is.f kj46 6 a0).bind fun t253 => (if t253 = true then (marginalialaw02_KindWithin.j2 kj46 a0 true) else ((kind_Is.f kj46 4 a0).bind fun t254 => (marginalialaw02_KindWithin.j2 kj46 a0 t254)))) else (marginalialaw02_KindWithin.j2 kj46 a0 false)) = some r := H
                have A53 := Aside0.mk A530
                clear A530
                by_cases c54 : t252 = true
                · subst c54
                  have H1 : ((kind_Is.f kj46 6 a0).bind fun t253 => (if t253 = true then (marginalialaw02_KindWithin.j2 kj46 a0 true) else ((kind_Is.f kj46 4 a0).bind fun t254 => (marginalialaw02_KindWithin.j2 kj46 a0 t254)))) = some r := by rw [if_pos rfl] at H; exact H
                  clear H
                  have H := H1
                  clear H1
                  replace H := Option.bind_eq_some_iff.mp H
                  obtain ⟨t253, A550, H⟩ := H
                  replace H : (if t253 = true then (marginalialaw02_KindWithin.j2 kj46 a0 true) else ((kind_Is.f kj46 4 a0).bind fun t254 => (marginalialaw02_KindWithin.j2 kj46 a0 t254))) = some r := H
                  have A55 := Aside0.mk A550
                  clear A550
                  by_cases c56 : t253 = true
                  · subst c56
                    have H1 : (marginalialaw02_KindWithin.j2 kj46 a0 true) = some r := by rw [if_pos rfl] at H; exact H
                    clear H
                    have H := H1
                    clear H1
                    have H' := Aside0.mk H
                    clear H
                    go_wp2_with (first | ((with_reducible refine gate_callee (f := 19) rfl ?_); refine goesL_ (some 41) rfl rfl Try.func19 (by kernel_rfl) rfl #[.int .i64 5, .string a0] rfl (by (try simp only [List.map_toArray, List.map_cons, List.map_nil]); first | done | rfl | (simp only [List.length_drop, List.length_take]; rfl)) ?_; (with_reducible refine (kind_Is.calls kj46 5 a0 true _ A53.out).mono ?_); rintro e w57 ⟨rfl, hb⟩; refine ⟨_, rfl, ?_⟩; have n0_ := Aside0.mk (below_step (by repeat (first | (with_reducible first | exact HB.out | apply below_alloc | apply pw_below_drewN | apply below_drew1) | exact HB.out)) hb); clear HB; have HB := n0_; clear n0_; (try clear hb); (try clear hb2); (try clear hk); (try clear hi)) | (go_at_call 19; (with_reducible refine (kind_Is.calls kj46 6 a0 true _ A55.out).mono ?_); rintro e w58 ⟨rfl, hb⟩; have n0_ := Aside0.mk (below_step (by repeat (first | (with_reducible first | exact HB.out | apply below_alloc | apply pw_below_drewN | apply below_drew1) | exact HB.out)) hb); clear HB; have HB := n0_; clear n0_; (try clear hb); (try clear hb2); (try clear hk); (try clear hi)))
                    go_meet
                    case rel => exact ⟨_, (true), (by first | rfl | (simp; done) | (simp [*]; done)), H', ⟨by have := HJ4.out; have := HJ46.out; first | omega | exact Nat.le_refl _⟩, ⟨by repeat (first | (with_reducible first | exact HB.out | apply below_alloc | apply pw_below_drewN | apply below_drew1) | exact HB.out)⟩⟩
                  · replace c56 := Bool.eq_false_iff.mpr c56
                    subst c56
                    have H1 : ((kind_Is.f kj46 4 a0).bind fun t254 => (marginalialaw02_KindWithin.j2 kj46 a0 t254)) = some r := by rw [if_neg (show ¬ (false = true) by decide)] at H; exact H
                    clear H
                    have H := H1
                    clear H1
                    replace H := Option.bind_eq_some_iff.mp H
                    obtain ⟨t254, A590, H⟩ := H
                    replace H : (marginalialaw02_KindWithin.j2 kj46 a0 t254) = some r := H
                    have A59 := Aside0.mk A590
                    clear A590
                    have H' := Aside0.mk H
                    clear H
                    go_wp2_with (first | ((with_reducible refine gate_callee (f := 19) rfl ?_); refine goesL_ (some 41) rfl rfl Try.func19 (by kernel_rfl) rfl #[.int .i64 5, .string a0] rfl (by (try simp only [List.map_toArray, List.map_cons, List.map_nil]); first | done | rfl | (simp only [List.length_drop, List.length_take]; rfl)) ?_; (with_reducible refine (kind_Is.calls kj46 5 a0 true _ A53.out).mono ?_); rintro e w60 ⟨rfl, hb⟩; refine ⟨_, rfl, ?_⟩; have n0_ := Aside0.mk (below_step (by repeat (first | (with_reducible first | exact HB.out | apply below_alloc | apply pw_below_drewN | apply below_drew1) | exact HB.out)) hb); clear HB; have HB := n0_; clear n0_; (try clear hb); (try clear hb2); (try clear hk); (try clear hi)) | (go_at_call 19; (with_reducible refine (kind_Is.calls kj46 6 a0 false _ A55.out).mono ?_); rintro e w61 ⟨rfl, hb⟩; have n0_ := Aside0.mk (below_step (by repeat (first | (with_reducible first | exact HB.out | apply below_alloc | apply pw_below_drewN | apply below_drew1) | exact HB.out)) hb); clear HB; have HB := n0_; clear n0_; (try clear hb); (try clear hb2); (try clear hk); (try clear hi)) | (go_at_call 19; (with_reducible refine (kind_Is.calls kj46 4 a0 t254 _ A59.out).mono ?_); rintro e w62 ⟨rfl, hb⟩; have n0_ := Aside0.mk (below_step (by repeat (first | (with_reducible first | exact HB.out | apply below_alloc | apply pw_below_drewN | apply below_drew1) | exact HB.out)) hb); clear HB; have HB := n0_; clear n0_; (try clear hb); (try clear hb2); (try clear hk); (try clear hi)))
                    go_meet
                    case rel => exact ⟨_, (t254), (by first | rfl | (simp; done) | (simp [*]; done)), H', ⟨by have := HJ4.out; have := HJ46.out; first | omega | exact Nat.le_refl _⟩, ⟨by repeat (first | (with_reducible first | exact HB.out | apply below_alloc | apply pw_below_drewN | apply below_drew1) | exact HB.out)⟩⟩
                · replace c54 := Bool.eq_false_iff.mpr c54
                  subst c54
                  have H1 : (marginalialaw02_KindWithin.j2 kj46 a0 false) = some r := by rw [if_neg (show ¬ (false = true) by decide)] at H; exact H
                  clear H
                  have H := H1
                  clear H1
                  have H' := Aside0.mk H
                  clear H
                  go_wp2_with (first | ((with_reducible refine gate_callee (f := 19) rfl ?_); refine goesL_ (some 41) rfl rfl Try.func19 (by kernel_rfl) rfl #[.int .i64 5, .string a0] rfl (by (try simp only [List.map_toArray, List.map_cons, List.map_nil]); first | done | rfl | (simp only [List.length_drop, List.length_take]; rfl)) ?_; (with_reducible refine (kind_Is.calls kj46 5 a0 false _ A53.out).mono ?_); rintro e w63 ⟨rfl, hb⟩; refine ⟨_, rfl, ?_⟩; have n0_ := Aside0.mk (below_step (by repeat (first | (with_reducible first | exact HB.out | apply below_alloc | apply pw_below_drewN | apply below_drew1) | exact HB.out)) hb); clear HB; have HB := n0_; clear n0_; (try clear hb); (try clear hb2); (try clear hk); (try clear hi)))
                  go_meet
                  case rel => exact ⟨_, (false), (by first | rfl | (simp; done) | (simp [*]; done)), H', ⟨by have := HJ4.out; have := HJ46.out; first | omega | exact Nat.le_refl _⟩, ⟨by repeat (first | (with_reducible first | exact HB.out | apply below_alloc | apply pw_below_drewN | apply below_drew1) | exact HB.out)⟩⟩
              case rest =>
                clear HC52
                try clear c1
                try clear c2
                try clear c2b0
                try clear c2b1
                try clear p2
                try clear c3
                try clear c4
                try clear c5
                try clear c6
                try clear c7
                try clear c8
                try clear c10
                try clear c14
                try clear c19
                try clear c25
                try clear c32
                try clear c48
                try clear c51
                try clear c54
                try clear c56
                try clear p2
                obtain ⟨kq, x49_51, rfl, HA, HJ51, HB⟩ := hcut
                cases kq with
                | zero => exact absurd HA.out (by simp [marginalialaw02_KindWithin.j2])
                | succ kj51 =>
                  have H := HA.out
                  clear HA
                  simp only [marginalialaw02_KindWithin.j2] at H
                  by_cases c64 : x49_51 = true
                  · subst c64
                    have H1 : (some false) = some r := by rw [if_pos rfl] at H; exact H
                    clear H
                    have H := H1
                    clear H1
                    obtain rfl := Option.some.inj H
                    go_wp2
                    go_ret
                    exact ⟨by first | rfl | (simp [errW_none, errW_some] <;> rfl) | (simp [*, errW_none, errW_some] <;> rfl), by repeat (first | (with_reducible first | exact HB.out | apply below_alloc | apply pw_below_drewN | apply below_drew1) | exact HB.out)⟩
                  · replace c64 := Bool.eq_false_iff.mpr c64
                    subst c64
                    have H1 : ((kind_Is.f kj51 1 a0).bind fun t255 => (if t255 = true then ((kind_Is.f kj51 2 a0).bind fun t256 => (if t256 = true then (marginalialaw02_KindWithin.j3 kj51 a0 true) else ((kind_Is.f kj51 3 a0).bind fun t257 => (marginalialaw02_KindWithin.j3 kj51 a0 t257)))) else (marginalialaw02_KindWithin.j3 kj51 a0 false))) = some r := by rw [if_neg (show ¬ (false = true) by decide)] at H; exact H
                    clear H
                    have H := H1
                    clear H1
                    have HC65 := Aside0.mk H
                    clear H
                    go_upto_region 8 with (fail)
                    go_cut [59] (fun v59 wc => ∃ (kq : Nat) (x59_64 : Bool), v59 = .bool x59_64 ∧ Aside0 (marginalialaw02_KindWithin.j3 kq a0 x59_64 = some r) ∧ Aside0 (kq ≤ kj51) ∧ Aside0 (Below w.heap.size w wc))
                    case first =>
                      have H := HC65.out
                      clear HC65
                      replace H := Option.bind_eq_some_iff.mp H
                      obtain ⟨t255, A660, H⟩ := H
                      replace H : (if t255 = true then ((kind_Is.f kj51 2 a0).bind fun t256 => (if t256 = true then (marginalialaw02_KindWithin.j3 kj51 a0 true) else ((kind_Is.f kj51 3 a0).bind fun t257 => (marginalialaw02_KindWithin.j3 kj51 a0 t257)))) else (marginalialaw02_KindWithin.j3 kj51 a0 false)) = some r := H
                      have A66 := Aside0.mk A660
                      clear A660
                      by_cases c67 : t255 = true
                      · subst c67
                        have H1 : ((kind_Is.f kj51 2 a0).bind fun t256 => (if t256 = true then (marginalialaw02_KindWithin.j3 kj51 a0 true) else ((kind_Is.f kj51 3 a0).bind fun t257 => (marginalialaw02_KindWithin.j3 kj51 a0 t257)))) = some r := by rw [if_pos rfl] at H; exact H
                        clear H
                        have H := H1
                        clear H1
                        replace H := Option.bind_eq_some_iff.mp H
                        obtain ⟨t256, A680, H⟩ := H
                        replace H : (if t256 = true then (marginalialaw02_KindWithin.j3 kj51 a0 true) else ((kind_Is.f kj51 3 a0).bind fun t257 => (marginalialaw02_KindWithin.j3 kj51 a0 t257))) = some r := H
                        have A68 := Aside0.mk A680
                        clear A680
                        by_cases c69 : t256 = true
                        · subst c69
                          have H1 : (marginalialaw02_KindWithin.j3 kj51 a0 true) = some r := by rw [if_pos rfl] at H; exact H
                          clear H
                          have H := H1
                          clear H1
                          have H' := Aside0.mk H
                          clear H
                          go_wp2_with (first | ((with_reducible refine gate_callee (f := 19) rfl ?_); refine goesL_ (some 51) rfl rfl Try.func19 (by kernel_rfl) rfl #[.int .i64 1, .string a0] rfl (by (try simp only [List.map_toArray, List.map_cons, List.map_nil]); first | done | rfl | (simp only [List.length_drop, List.length_take]; rfl)) ?_; (with_reducible refine (kind_Is.calls kj51 1 a0 true _ A66.out).mono ?_); rintro e w70 ⟨rfl, hb⟩; refine ⟨_, rfl, ?_⟩; have n0_ := Aside0.mk (below_step (by repeat (first | (with_reducible first | exact HB.out | apply below_alloc | apply pw_below_drewN | apply below_drew1) | exact HB.out)) hb); clear HB; have HB := n0_; clear n0_; (try clear hb); (try clear hb2); (try clear hk); (try clear hi)) | (go_at_call 19; (with_reducible refine (kind_Is.calls kj51 2 a0 true _ A68.out).mono ?_); rintro e w71 ⟨rfl, hb⟩; have n0_ := Aside0.mk (below_step (by repeat (first | (with_reducible first | exact HB.out | apply below_alloc | apply pw_below_drewN | apply below_drew1) | exact HB.out)) hb); clear HB; have HB := n0_; clear n0_; (try clear hb); (try clear hb2); (try clear hk); (try clear hi)))
                          go_meet
                          case rel => exact ⟨_, (true), (by first | rfl | (simp; done) | (simp [*]; done)), H', ⟨by have := HJ4.out; have := HJ46.out; have := HJ51.out; first | omega | exact Nat.le_refl _⟩, ⟨by repeat (first | (with_reducible first | exact HB.out | apply below_alloc | apply pw_below_drewN | apply below_drew1) | exact HB.out)⟩⟩
                        · replace c69 := Bool.eq_false_iff.mpr c69
                          subst c69
                          have H1 : ((kind_Is.f kj51 3 a0).bind fun t257 => (marginalialaw02_KindWithin.j3 kj51 a0 t257)) = some r := by rw [if_neg (show ¬ (false = true) by decide)] at H; exact H
                          clear H
                          have H := H1
                          clear H1
                          replace H := Option.bind_eq_some_iff.mp H
                          obtain ⟨t257, A720, H⟩ := H
                          replace H : (marginalialaw02_KindWithin.j3 kj51 a0 t257) = some r := H
                          have A72 := Aside0.mk A720
                          clear A720
                          have H' := Aside0.mk H
                          clear H
                          go_wp2_with (first | ((with_reducible refine gate_callee (f := 19) rfl ?_); refine goesL_ (some 51) rfl rfl Try.func19 (by kernel_rfl) rfl #[.int .i64 1, .string a0] rfl (by (try simp only [List.map_toArray, List.map_cons, List.map_nil]); first | done | rfl | (simp only [List.length_drop, List.length_take]; rfl)) ?_; (with_reducible refine (kind_Is.calls kj51 1 a0 true _ A66.out).mono ?_); rintro e w73 ⟨rfl, hb⟩; refine ⟨_, rfl, ?_⟩; have n0_ := Aside0.mk (below_step (by repeat (first | (with_reducible first | exact HB.out | apply below_alloc | apply pw_below_drewN | apply below_drew1) | exact HB.out)) hb); clear HB; have HB := n0_; clear n0_; (try clear hb); (try clear hb2); (try clear hk); (try clear hi)) | (go_at_call 19; (with_reducible refine (kind_Is.calls kj51 2 a0 false _ A68.out).mono ?_); rintro e w74 ⟨rfl, hb⟩; have n0_ := Aside0.mk (below_step (by repeat (first | (with_reducible first | exact HB.out | apply below_alloc | apply pw_below_drewN | apply below_drew1) | exact HB.out)) hb); clear HB; have HB := n0_; clear n0_; (try clear hb); (try clear hb2); (try clear hk); (try clear hi)) | (go_at_call 19; (with_reducible refine (kind_Is.calls kj51 3 a0 t257 _ A72.out).mono ?_); rintro e w75 ⟨rfl, hb⟩; have n0_ := Aside0.mk (below_step (by repeat (first | (with_reducible first | exact HB.out | apply below_alloc | apply pw_below_drewN | apply below_drew1) | exact HB.out)) hb); clear HB; have HB := n0_; clear n0_; (try clear hb); (try clear hb2); (try clear hk); (try clear hi)))
                          go_meet
                          case rel => exact ⟨_, (t257), (by first | rfl | (simp; done) | (simp [*]; done)), H', ⟨by have := HJ4.out; have := HJ46.out; have := HJ51.out; first | omega | exact Nat.le_refl _⟩, ⟨by repeat (first | (with_reducible first | exact HB.out | apply below_alloc | apply pw_below_drewN | apply below_drew1) | exact HB.out)⟩⟩
                      · replace c67 := Bool.eq_false_iff.mpr c67
                        subst c67
                        have H1 : (marginalialaw02_KindWithin.j3 kj51 a0 false) = some r := by rw [if_neg (show ¬ (false = true) by decide)] at H; exact H
                        clear H
                        have H := H1
                        clear H1
                        have H' := Aside0.mk H
                        clear H
                        go_wp2_with (first | ((with_reducible refine gate_callee (f := 19) rfl ?_); refine goesL_ (some 51) rfl rfl Try.func19 (by kernel_rfl) rfl #[.int .i64 1, .string a0] rfl (by (try simp only [List.map_toArray, List.map_cons, List.map_nil]); first | done | rfl | (simp only [List.length_drop, List.length_take]; rfl)) ?_; (with_reducible refine (kind_Is.calls kj51 1 a0 false _ A66.out).mono ?_); rintro e w76 ⟨rfl, hb⟩; refine ⟨_, rfl, ?_⟩; have n0_ := Aside0.mk (below_step (by repeat (first | (with_reducible first | exact HB.out | apply below_alloc | apply pw_below_drewN | apply below_drew1) | exact HB.out)) hb); clear HB; have HB := n0_; clear n0_; (try clear hb); (try clear hb2); (try clear hk); (try clear hi)))
                        go_meet
                        case rel => exact ⟨_, (false), (by first | rfl | (simp; done) | (simp [*]; done)), H', ⟨by have := HJ4.out; have := HJ46.out; have := HJ51.out; first | omega | exact Nat.le_refl _⟩, ⟨by repeat (first | (with_reducible first | exact HB.out | apply below_alloc | apply pw_below_drewN | apply below_drew1) | exact HB.out)⟩⟩
                    case rest =>
                      clear HC65
                      try clear c1
                      try clear c2
                      try clear c2b0
                      try clear c2b1
                      try clear p2
                      try clear c3
                      try clear c4
                      try clear c5
                      try clear c6
                      try clear c7
                      try clear c8
                      try clear c10
                      try clear c14
                      try clear c19
                      try clear c25
                      try clear c32
                      try clear c48
                      try clear c51
                      try clear c54
                      try clear c56
                      try clear c64
                      try clear c67
                      try clear c69
                      try clear p2
                      obtain ⟨kq, x59_64, rfl, HA, HJ64, HB⟩ := hcut
                      cases kq with
                      | zero => exact absurd HA.out (by simp [marginalialaw02_KindWithin.j3])
                      | succ kj64 =>
                        have H := HA.out
                        clear HA
                        simp only [marginalialaw02_KindWithin.j3] at H
                        by_cases c77 : x59_64 = true
                        · subst c77
                          have H1 : (some false) = some r := by rw [if_pos rfl] at H; exact H
                          clear H
                          have H := H1
                          clear H1
                          obtain rfl := Option.some.inj H
                          go_wp2
                          go_ret
                          exact ⟨by first | rfl | (simp [errW_none, errW_some] <;> rfl) | (simp [*, errW_none, errW_some] <;> rfl), by repeat (first | (with_reducible first | exact HB.out | apply below_alloc | apply pw_below_drewN | apply below_drew1) | exact HB.out)⟩
                        · replace c77 := Bool.eq_false_iff.mpr c77
                          subst c77
                          have H1 : ((marginalialaw02_alive.f kj64).bind fun t258 => (if t258 = true then ((kind_Is.f kj64 9 a0).bind fun t259 => (if t259 = true then ((kind_Is.f kj64 12 a0).bind fun t260 => (some t260)) else (some true))) else (some false))) = some r := by rw [if_neg (show ¬ (false = true) by decide)] at H; exact H
                          clear H
                          have H := H1
                          clear H1
                          replace H := Option.bind_eq_some_iff.mp H
                          obtain ⟨t258, A780, H⟩ := H
                          replace H : (if t258 = true then ((kind_Is.f kj64 9 a0).bind fun t259 => (if t259 = true then ((kind_Is.f kj64 12 a0).bind fun t260 => (some t260)) else (some true))) else (some false)) = some r := H
                          have A78 := Aside0.mk A780
                          clear A780
                          by_cases c79 : t258 = true
                          · subst c79
                            have H1 : ((kind_Is.f kj64 9 a0).bind fun t259 => (if t259 = true then ((kind_Is.f kj64 12 a0).bind fun t260 => (some t260)) else (some true))) = some r := by rw [if_pos rfl] at H; exact H
                            clear H
                            have H := H1
                            clear H1
                            replace H := Option.bind_eq_some_iff.mp H
                            obtain ⟨t259, A800, H⟩ := H
                            replace H : (if t259 = true then ((kind_Is.f kj64 12 a0).bind fun t260 => (some t260)) else (some true)) = some r := H
                            have A80 := Aside0.mk A800
                            clear A800
                            by_cases c81 : t259 = true
                            · subst c81
                              have H1 : ((kind_Is.f kj64 12 a0).bind fun t260 => (some t260)) = some r := by rw [if_pos rfl] at H; exact H
                              clear H
                              have H := H1
                              clear H1
                              replace H := Option.bind_eq_some_iff.mp H
                              obtain ⟨t260, A820, H⟩ := H
                              replace H : (some t260) = some r := H
                              have A82 := Aside0.mk A820
                              clear A820
                              obtain rfl := Option.some.inj H
                              go_wp2_with (first | ((with_reducible refine gate_callee (f := 8) rfl ?_); refine goesL_ (some 60) rfl rfl Try.func8 (by kernel_rfl) rfl #[] rfl (by (try simp only [List.map_toArray, List.map_cons, List.map_nil]); first | done | rfl | (simp only [List.length_drop, List.length_take]; rfl)) ?_; (with_reducible refine (marginalialaw02_alive.calls kj64  true _ A78.out).mono ?_); rintro e w83 ⟨rfl, hb⟩; refine ⟨_, rfl, ?_⟩; have n0_ := Aside0.mk (below_step (by repeat (first | (with_reducible first | exact HB.out | apply below_alloc | apply pw_below_drewN | apply below_drew1) | exact HB.out)) hb); clear HB; have HB := n0_; clear n0_; (try clear hb); (try clear hb2); (try clear hk); (try clear hi)) | (go_at_call 19; (with_reducible refine (kind_Is.calls kj64 9 a0 true _ A80.out).mono ?_); rintro e w84 ⟨rfl, hb⟩; have n0_ := Aside0.mk (below_step (by repeat (first | (with_reducible first | exact HB.out | apply below_alloc | apply pw_below_drewN | apply below_drew1) | exact HB.out)) hb); clear HB; have HB := n0_; clear n0_; (try clear hb); (try clear hb2); (try clear hk); (try clear hi)) | (go_at_call 19; (with_reducible refine (kind_Is.calls kj64 12 a0 t260 _ A82.out).mono ?_); rintro e w85 ⟨rfl, hb⟩; have n0_ := Aside0.mk (below_step (by repeat (first | (with_reducible first | exact HB.out | apply below_alloc | apply pw_below_drewN | apply below_drew1) | exact HB.out)) hb); clear HB; have HB := n0_; clear n0_; (try clear hb); (try clear hb2); (try clear hk); (try clear hi)))
                              go_ret
                              exact ⟨by first | rfl | (simp [errW_none, errW_some] <;> rfl) | (simp [*, errW_none, errW_some] <;> rfl), by repeat (first | (with_reducible first | exact HB.out | apply below_alloc | apply pw_below_drewN | apply below_drew1) | exact HB.out)⟩
                            · replace c81 := Bool.eq_false_iff.mpr c81
                              subst c81
                              have H1 : (some true) = some r := by rw [if_neg (show ¬ (false = true) by decide)] at H; exact H
                              clear H
                              have H := H1
                              clear H1
                              obtain rfl := Option.some.inj H
                              go_wp2_with (first | ((with_reducible refine gate_callee (f := 8) rfl ?_); refine goesL_ (some 60) rfl rfl Try.func8 (by kernel_rfl) rfl #[] rfl (by (try simp only [List.map_toArray, List.map_cons, List.map_nil]); first | done | rfl | (simp only [List.length_drop, List.length_take]; rfl)) ?_; (with_reducible refine (marginalialaw02_alive.calls kj64  true _ A78.out).mono ?_); rintro e w86 ⟨rfl, hb⟩; refine ⟨_, rfl, ?_⟩; have n0_ := Aside0.mk (below_step (by repeat (first | (with_reducible first | exact HB.out | apply below_alloc | apply pw_below_drewN | apply below_drew1) | exact HB.out)) hb); clear HB; have HB := n0_; clear n0_; (try clear hb); (try clear hb2); (try clear hk); (try clear hi)) | (go_at_call 19; (with_reducible refine (kind_Is.calls kj64 9 a0 false _ A80.out).mono ?_); rintro e w87 ⟨rfl, hb⟩; have n0_ := Aside0.mk (below_step (by repeat (first | (with_reducible first | exact HB.out | apply below_alloc | apply pw_below_drewN | apply below_drew1) | exact HB.out)) hb); clear HB; have HB := n0_; clear n0_; (try clear hb); (try clear hb2); (try clear hk); (try clear hi)))
                              go_ret
                              exact ⟨by first | rfl | (simp [errW_none, errW_some] <;> rfl) | (simp [*, errW_none, errW_some] <;> rfl), by repeat (first | (with_reducible first | exact HB.out | apply below_alloc | apply pw_below_drewN | apply below_drew1) | exact HB.out)⟩
                          · replace c79 := Bool.eq_false_iff.mpr c79
                            subst c79
                            have H1 : (some false) = some r := by rw [if_neg (show ¬ (false = true) by decide)] at H; exact H
                            clear H
                            have H := H1
                            clear H1
                            obtain rfl := Option.some.inj H
                            go_wp2_with (first | ((with_reducible refine gate_callee (f := 8) rfl ?_); refine goesL_ (some 60) rfl rfl Try.func8 (by kernel_rfl) rfl #[] rfl (by (try simp only [List.map_toArray, List.map_cons, List.map_nil]); first | done | rfl | (simp only [List.length_drop, List.length_take]; rfl)) ?_; (with_reducible refine (marginalialaw02_alive.calls kj64  false _ A78.out).mono ?_); rintro e w88 ⟨rfl, hb⟩; refine ⟨_, rfl, ?_⟩; have n0_ := Aside0.mk (below_step (by repeat (first | (with_reducible first | exact HB.out | apply below_alloc | apply pw_below_drewN | apply below_drew1) | exact HB.out)) hb); clear HB; have HB := n0_; clear n0_; (try clear hb); (try clear hb2); (try clear hk); (try clear hi)))
                            go_ret
                            exact ⟨by first | rfl | (simp [errW_none, errW_some] <;> rfl) | (simp [*, errW_none, errW_some] <;> rfl), by repeat (first | (with_reducible first | exact HB.out | apply below_alloc | apply pw_below_drewN | apply below_drew1) | exact HB.out)⟩

/-- THE ONE PURE STATEMENT of marginalialaw02_KindWithin: yours. -/
def marginalialaw02_KindWithin.Pure : Prop := ∀ (a0 : ByteArray), a0.size ≤ 140737488351232 → ∃ k, marginalialaw02_KindWithin.f k a0 = some true
theorem marginalialaw02_KindWithin.walk (P : marginalialaw02_KindWithin.Pure) (a0 : ByteArray) (w : World) (w0 : a0.size ≤ 140737488351232) :
    Calls Try.prog 6 #[.string a0] w fun e w' => e = .returned (.bool true) ∧ Below w.heap.size w w' := by
  obtain ⟨k, h⟩ := P a0 w0
  refine (marginalialaw02_KindWithin.calls k a0 true w h).mono ?_
  rintro e w' ⟨rfl, hd⟩
  exact ⟨rfl, hd⟩

end Go.Proofs.Ytpgbkmmfniihbaa.PAll
