-- Written by a program of this session (hprint.py: the kit's print over several laws at once, with functions proved by hand). Lean checks it.
import Derived.Test.YtpgbkmmfniihbaaPAllx0
import Derived.Test.YtpgbkmmfniihbaaPAllx1
import Derived.Test.YtpgbkmmfniihbaaPAllx2
import Derived.Test.YtpgbkmmfniihbaaPAllx4
namespace Go.Proofs.Ytpgbkmmfniihbaa.PAll
open Go.RowKit Go.Proofs.YtpgbkmmfniihbaaW.PrintWords Go.Proofs.YtpgbkmmfniihbaaW.PrintLast Go.Proofs.YtpgbkmmfniihbaaW.PrintMore
attribute [local go_sem] max2_int min2_int max_two min_two max_three min_three max_four min_four   -- for this text's walks alone
set_option linter.unusedVariables false
set_option linter.unusedSimpArgs false

/-! ### marginaliaref02_Lower: function 18 -/
def marginaliaref02_Lower.l0 : Nat → ByteArray → List Int → Int → Option (ByteArray)
  | 0, _, _, _ => none
  | k + 1, x0, x3, x4 => if x4 < (x0.size : Int) then (if 0 ≤ x4 then (if (bt x0 x4) ≥ 65 then (if (bt x0 x4) ≤ 90 then (if x3.length < 140737488355328 then (marginaliaref02_Lower.l0 k x0 (x3 ++ [((bt x0 x4) + 32) % 256]) (wrap64 (x4 + 1))) else (none)) else (if x3.length < 140737488355328 then (marginaliaref02_Lower.l0 k x0 (x3 ++ [bt x0 x4]) (wrap64 (x4 + 1))) else (none))) else (if x3.length < 140737488355328 then (marginaliaref02_Lower.l0 k x0 (x3 ++ [bt x0 x4]) (wrap64 (x4 + 1))) else (none))) else (none)) else (some (strOfNums x3))
def marginaliaref02_Lower.f (k : Nat) (a0 : ByteArray) : Option (ByteArray) := marginaliaref02_Lower.l0 k a0 (([] : List Int)) 0
theorem marginaliaref02_Lower.mono_l : ∀ k, (∀ y0 y1 y2, LeO (marginaliaref02_Lower.l0 k y0 y1 y2) (marginaliaref02_Lower.l0 (k + 1) y0 y1 y2))
  | 0 => fun _ _ _ r h => by simp [marginaliaref02_Lower.l0] at h
  | k + 1 => by
    have ih0 := marginaliaref02_Lower.mono_l k
    · intro y0 y1 y2
      unfold marginaliaref02_Lower.l0
      repeat' first
      | (with_reducible exact ih0 _ _ _)
      | (with_reducible exact LeO.refl _)
      | (with_reducible exact LeO.none _)
      | (with_reducible refine LeO.ite ?_ ?_)
      | (with_reducible refine LeO.bind ?_ (fun _ => ?_))
      | exact ih0 _ _ _
      | exact LeO.none _
      | refine LeO.ite ?_ ?_
      | refine LeO.bind ?_ (fun _ => ?_)
theorem marginaliaref02_Lower.mono : ∀ a0 k, LeO (marginaliaref02_Lower.f k a0) (marginaliaref02_Lower.f (k + 1) a0) := by
  intro a0 k
  have ih0 := marginaliaref02_Lower.mono_l k
  unfold marginaliaref02_Lower.f
  repeat' first
      | (with_reducible exact ih0 _ _ _)
      | (with_reducible exact LeO.refl _)
      | (with_reducible exact LeO.none _)
      | (with_reducible refine LeO.ite ?_ ?_)
      | (with_reducible refine LeO.bind ?_ (fun _ => ?_))
      | exact ih0 _ _ _
      | exact LeO.none _
      | refine LeO.ite ?_ ?_
      | refine LeO.bind ?_ (fun _ => ?_)
set_option maxHeartbeats 8000000 in
set_option maxRecDepth 100000 in
theorem marginaliaref02_Lower.calls (k : Nat) (a0 : ByteArray) (r : ByteArray) (w : World) (h : marginaliaref02_Lower.f k a0 = some r) :
    Calls Try.prog 18 #[.string a0] w fun e w' => e = .returned (.string r) ∧ Below w.heap.size w w' := by
  have HB := Aside0.mk (Below.refl w.heap.size w)
  have H : (marginaliaref02_Lower.l0 k a0 (([] : List Int)) 0) = some r := h
  clear h
  obtain ⟨y180, hy180⟩ : ∃ y_ : List Int, y_ = (([] : List Int)) := ⟨_, rfl⟩
  replace H : (marginaliaref02_Lower.l0 k a0 y180 0) = some r := by first | (rw [hy180]; with_reducible exact H) | (have H2_ := (Option.bind_some _ _).symm.trans H; rw [hy180]; with_reducible exact H2_) | (have H2_ := (Option.bind_some _ _).symm.trans H; with_reducible exact H2_) | with_reducible exact H | (rw [hy180]; exact H) | exact H
  have Ny180 := Aside0.mk hy180
  clear hy180
  have H' := Aside0.mk H
  clear H
  go_enter Try.func18, Try.ntmps18
  go_wp2_with (first | ((with_reducible refine gate_dst (N := 6) rfl ?_); refine Kd.R_lit (Kd.int .u8) _ 5 ?hg (N := 6) ?hd (xs := ([] : List Int)) (inner := []) (ok := fun _ => True) (okp := fun _ => True) ?hr ?hp (fun _ hk => hk) trivial (Below.refl _ _) (Nat.le_refl _) (by simp) ?_; (case hd => rfl); (case hg => rfl); (case hr => first | (go_simp; done) | (go_simp; rfl)); (case hp => exact (Reps.none _ _)); intro v181 w2 ho3 hb hg_ hnew_; clear hg_ hnew_; (first | rw [← Ny180.out] at ho3 | (simp only [Int.reduceToNat] at ho3; rw [← Ny180.out] at ho3)); have n0_ := Aside0.mk (Kd.R_lower ho3 (below_size (by repeat (first | (with_reducible first | exact HB.out | apply below_alloc | apply pw_below_drewN | apply below_drew1) | exact HB.out)))); have n1_ := Aside0.mk (below_step (by repeat (first | (with_reducible first | exact HB.out | apply below_alloc | apply pw_below_drewN | apply below_drew1) | exact HB.out)) hb); clear HB; have HO182 := n0_; have HB := n1_; clear n0_ n1_; clear hb ho3))
  go_loopg [3, 4] k (fun kq v3 v4 w' => ∃ (x3_1 : List Int) (x4_1 : Int), v4 = .int .i64 x4_1 ∧ Aside0 (marginaliaref02_Lower.l0 kq a0 x3_1 x4_1 = some r) ∧ Aside0 (kq ≤ k) ∧ Aside0 (Kd.R (Kd.int .u8) 5 w' w.heap.size (fun _ => True) v3 x3_1) ∧ Aside0 (Below w.heap.size w w'))
  case atStart => exact ⟨(y180), (0), (by first | rfl | (simp; done) | (simp [*]; done)), H', ⟨Nat.le_refl _⟩, ⟨by (with_reducible repeat (first | apply Kd.R_alloc | apply Kd.R_drewN | apply Kd.R_drew)); exact HO182.out⟩, ⟨by repeat (first | (with_reducible first | exact HB.out | apply below_alloc | apply pw_below_drewN | apply below_drew1) | exact HB.out)⟩⟩
  case round =>
    clear H'
    try clear c1
    try clear p2
    obtain ⟨x3_1, x4_1, rfl, HA, HK1, HO_3, HB⟩ := hrel
    cases gk with
    | zero => exact absurd HA.out (by simp [marginaliaref02_Lower.l0])
    | succ k1 =>
      have H := HA.out
      clear HA
      simp only [marginaliaref02_Lower.l0] at H
      by_cases c4 : x4_1 < (a0.size : Int)
      · rw [if_pos c4] at H
        have c4b0 : decide (x4_1 < (a0.size : Int)) = true := decide_eq_true c4
        clear c4
        by_cases c5 : 0 ≤ x4_1
        · rw [if_pos c5] at H
          have c5b0 : decide (0 ≤ x4_1) = true := decide_eq_true c5
          clear c5
          by_cases c7 : (bt a0 x4_1) ≥ 65
          · rw [if_pos c7] at H
            have c7b0 : decide (65 ≤ (bt a0 x4_1)) = true := decide_eq_true c7
            clear c7
            by_cases c8 : (bt a0 x4_1) ≤ 90
            · rw [if_pos c8] at H
              have c8b0 : decide ((bt a0 x4_1) ≤ 90) = true := decide_eq_true c8
              clear c8
              by_cases c9 : x3_1.length < 140737488355328
              · rw [if_pos c9] at H
                have LMc9 := Aside0.mk c9
                clear c9
                obtain ⟨y183, hy183⟩ : ∃ y_ : List Int, y_ = (x3_1 ++ [((bt a0 x4_1) + 32) % 256]) := ⟨_, rfl⟩
                replace H : (marginaliaref02_Lower.l0 k1 a0 y183 (wrap64 (x4_1 + 1))) = some r := by first | (rw [hy183]; with_reducible exact H) | (have H2_ := (Option.bind_some _ _).symm.trans H; rw [hy183]; with_reducible exact H2_) | (have H2_ := (Option.bind_some _ _).symm.trans H; with_reducible exact H2_) | with_reducible exact H | (rw [hy183]; exact H) | exact H
                have Ny183 := Aside0.mk hy183
                clear hy183
                have H' := Aside0.mk H
                clear H
                have p6 : 0 ≤ (x4_1 : Int) := of_decide_eq_true (by first | (with_reducible assumption) | assumption)
                have q6 : x4_1 < (a0.size : Int) := of_decide_eq_true (by first | (with_reducible assumption) | assumption)
                have hx6 := bt_at a0 x4_1
                replace p6 := eq_true p6
                replace q6 := eq_true q6
                go_wp2_with (first | ((with_reducible refine gate_builtin (b := .append) (xs := #[.tmp 24, .tmp 26]) rfl ?_); at_builtin; refine Kd.R_append (Kd.int .u8) (w0 := w) w.heap.size rfl (.tmp 24) (.tmp 26) 28 5 (.int .u8 0) 1 rfl Try.underlying28 info5 rfl (by decide) (by omega) u3 x3_1 (((bt a0 x4_1) + 32) % 256) [.int .u8 (((bt a0 x4_1) + 32) % 256)] (fun _ => True) (fun _ => False) rfl rfl ?aP (fun _ hk => hk.elim) ?aF ?aO ?aB ?aS ?aL ?_; (case aP => exact rfl); (case aB => exact (by repeat (first | (with_reducible first | exact HB.out | apply below_alloc | apply pw_below_drewN | apply below_drew1) | exact HB.out))); (case aF => exact (fun _ _ => trivial)); (case aO => exact (by (with_reducible repeat (first | apply Kd.R_alloc | apply Kd.R_drewN | apply Kd.R_drew)); exact HO_3.out)); (case aS => exact (below_size (by repeat (first | (with_reducible first | exact HB.out | apply below_alloc | apply pw_below_drewN | apply below_drew1) | exact HB.out)))); (case aL => have := LMc9.out; omega); intro v184 w10 ho hb hg hat; rw [← Ny183.out] at ho; have n0_ := Aside0.mk (hb); have n1_ := Aside0.mk (ho); clear HB; clear HO_3; have HB := n0_; have HO185 := n1_; clear n0_ n1_; clear ho hb hg hat))
                go_roundg k1
                case measure => have := HK1.out; omega
                case rel => exact ⟨(y183), (wrap64 (x4_1 + 1)), (by first | rfl | (simp; done) | (simp [*]; done)), H', ⟨by have := HK1.out; omega⟩, ⟨by (with_reducible repeat (first | apply Kd.R_alloc | apply Kd.R_drewN | apply Kd.R_drew)); exact HO185.out⟩, ⟨by repeat (first | (with_reducible first | exact HB.out | apply below_alloc | apply pw_below_drewN | apply below_drew1) | exact HB.out)⟩⟩
              · rw [if_neg c9] at H
                exact absurd H (by simp)
            · rw [if_neg c8] at H
              have c8b0 : decide ((bt a0 x4_1) ≤ 90) = false := decide_eq_false c8
              clear c8
              by_cases c11 : x3_1.length < 140737488355328
              · rw [if_pos c11] at H
                have LMc11 := Aside0.mk c11
                clear c11
                obtain ⟨y186, hy186⟩ : ∃ y_ : List Int, y_ = (x3_1 ++ [bt a0 x4_1]) := ⟨_, rfl⟩
                replace H : (marginaliaref02_Lower.l0 k1 a0 y186 (wrap64 (x4_1 + 1))) = some r := by first | (rw [hy186]; with_reducible exact H) | (have H2_ := (Option.bind_some _ _).symm.trans H; rw [hy186]; with_reducible exact H2_) | (have H2_ := (Option.bind_some _ _).symm.trans H; with_reducible exact H2_) | with_reducible exact H | (rw [hy186]; exact H) | exact H
                have Ny186 := Aside0.mk hy186
                clear hy186
                have H' := Aside0.mk H
                clear H
                have p6 : 0 ≤ (x4_1 : Int) := of_decide_eq_true (by first | (with_reducible assumption) | assumption)
                have q6 : x4_1 < (a0.size : Int) := of_decide_eq_true (by first | (with_reducible assumption) | assumption)
                have hx6 := bt_at a0 x4_1
                replace p6 := eq_true p6
                replace q6 := eq_true q6
                go_wp2_with (first | ((with_reducible refine gate_builtin (b := .append) (xs := #[.tmp 24, .tmp 26]) rfl ?_); at_builtin; refine Kd.R_append (Kd.int .u8) (w0 := w) w.heap.size rfl (.tmp 24) (.tmp 26) 28 5 (.int .u8 0) 1 rfl Try.underlying28 info5 rfl (by decide) (by omega) u3 x3_1 (bt a0 x4_1) [.int .u8 (bt a0 x4_1)] (fun _ => True) (fun _ => False) rfl rfl ?aP (fun _ hk => hk.elim) ?aF ?aO ?aB ?aS ?aL ?_; (case aP => exact rfl); (case aB => exact (by repeat (first | (with_reducible first | exact HB.out | apply below_alloc | apply pw_below_drewN | apply below_drew1) | exact HB.out))); (case aF => exact (fun _ _ => trivial)); (case aO => exact (by (with_reducible repeat (first | apply Kd.R_alloc | apply Kd.R_drewN | apply Kd.R_drew)); exact HO_3.out)); (case aS => exact (below_size (by repeat (first | (with_reducible first | exact HB.out | apply below_alloc | apply pw_below_drewN | apply below_drew1) | exact HB.out)))); (case aL => have := LMc11.out; omega); intro v187 w12 ho hb hg hat; rw [← Ny186.out] at ho; have n0_ := Aside0.mk (hb); have n1_ := Aside0.mk (ho); clear HB; clear HO_3; have HB := n0_; have HO188 := n1_; clear n0_ n1_; clear ho hb hg hat))
                go_roundg k1
                case measure => have := HK1.out; omega
                case rel => exact ⟨(y186), (wrap64 (x4_1 + 1)), (by first | rfl | (simp; done) | (simp [*]; done)), H', ⟨by have := HK1.out; omega⟩, ⟨by (with_reducible repeat (first | apply Kd.R_alloc | apply Kd.R_drewN | apply Kd.R_drew)); exact HO188.out⟩, ⟨by repeat (first | (with_reducible first | exact HB.out | apply below_alloc | apply pw_below_drewN | apply below_drew1) | exact HB.out)⟩⟩
              · rw [if_neg c11] at H
                exact absurd H (by simp)
          · rw [if_neg c7] at H
            have c7b0 : decide (65 ≤ (bt a0 x4_1)) = false := decide_eq_false c7
            clear c7
            by_cases c13 : x3_1.length < 140737488355328
            · rw [if_pos c13] at H
              have LMc13 := Aside0.mk c13
              clear c13
              obtain ⟨y189, hy189⟩ : ∃ y_ : List Int, y_ = (x3_1 ++ [bt a0 x4_1]) := ⟨_, rfl⟩
              replace H : (marginaliaref02_Lower.l0 k1 a0 y189 (wrap64 (x4_1 + 1))) = some r := by first | (rw [hy189]; with_reducible exact H) | (have H2_ := (Option.bind_some _ _).symm.trans H; rw [hy189]; with_reducible exact H2_) | (have H2_ := (Option.bind_some _ _).symm.trans H; with_reducible exact H2_) | with_reducible exact H | (rw [hy189]; exact H) | exact H
              have Ny189 := Aside0.mk hy189
              clear hy189
              have H' := Aside0.mk H
              clear H
              have p6 : 0 ≤ (x4_1 : Int) := of_decide_eq_true (by first | (with_reducible assumption) | assumption)
              have q6 : x4_1 < (a0.size : Int) := of_decide_eq_true (by first | (with_reducible assumption) | assumption)
              have hx6 := bt_at a0 x4_1
              replace p6 := eq_true p6
              replace q6 := eq_true q6
              go_wp2_with (first | ((with_reducible refine gate_builtin (b := .append) (xs := #[.tmp 24, .tmp 26]) rfl ?_); at_builtin; refine Kd.R_append (Kd.int .u8) (w0 := w) w.heap.size rfl (.tmp 24) (.tmp 26) 28 5 (.int .u8 0) 1 rfl Try.underlying28 info5 rfl (by decide) (by omega) u3 x3_1 (bt a0 x4_1) [.int .u8 (bt a0 x4_1)] (fun _ => True) (fun _ => False) rfl rfl ?aP (fun _ hk => hk.elim) ?aF ?aO ?aB ?aS ?aL ?_; (case aP => exact rfl); (case aB => exact (by repeat (first | (with_reducible first | exact HB.out | apply below_alloc | apply pw_below_drewN | apply below_drew1) | exact HB.out))); (case aF => exact (fun _ _ => trivial)); (case aO => exact (by (with_reducible repeat (first | apply Kd.R_alloc | apply Kd.R_drewN | apply Kd.R_drew)); exact HO_3.out)); (case aS => exact (below_size (by repeat (first | (with_reducible first | exact HB.out | apply below_alloc | apply pw_below_drewN | apply below_drew1) | exact HB.out)))); (case aL => have := LMc13.out; omega); intro v190 w14 ho hb hg hat; rw [← Ny189.out] at ho; have n0_ := Aside0.mk (hb); have n1_ := Aside0.mk (ho); clear HB; clear HO_3; have HB := n0_; have HO191 := n1_; clear n0_ n1_; clear ho hb hg hat))
              go_roundg k1
              case measure => have := HK1.out; omega
              case rel => exact ⟨(y189), (wrap64 (x4_1 + 1)), (by first | rfl | (simp; done) | (simp [*]; done)), H', ⟨by have := HK1.out; omega⟩, ⟨by (with_reducible repeat (first | apply Kd.R_alloc | apply Kd.R_drewN | apply Kd.R_drew)); exact HO191.out⟩, ⟨by repeat (first | (with_reducible first | exact HB.out | apply below_alloc | apply pw_below_drewN | apply below_drew1) | exact HB.out)⟩⟩
            · rw [if_neg c13] at H
              exact absurd H (by simp)
        · rw [if_neg c5] at H
          exact absurd H (by simp)
      · rw [if_neg c4] at H
        have c4b0 : decide (x4_1 < (a0.size : Int)) = false := decide_eq_false c4
        clear c4
        obtain rfl := Option.some.inj H
        have hcv15 := own_string (P := Try.prog) Try.underlying28 Try.underlying5 Try.underlying9 (Kd.own_of_R HO_3.out)
        go_wp2
        go_ret
        exact ⟨by first | rfl | (simp [errW_none, errW_some] <;> rfl) | (simp [*, errW_none, errW_some] <;> rfl), by repeat (first | (with_reducible first | exact HB.out | apply below_alloc | apply pw_below_drewN | apply below_drew1) | exact HB.out)⟩

/-! ### marginalialaw02_KindTexts: function 4 -/
def marginalialaw02_KindTexts.f (k : Nat) (a0 : ByteArray) : Option (Bool) := if (a0.size : Int) > 300 then ((marginalialaw02_alive.f k).bind fun t192 => (some t192)) else ((marginalialaw02_alive.f k).bind fun t193 => (if t193 = true then ((kind_White.f k a0).bind fun t194 => ((marginaliaref02_White.f k a0).bind fun t195 => (if (t194 == t195) = true then ((kind_Lower.f a0).bind fun t196 => ((marginaliaref02_Lower.f k a0).bind fun t197 => (some (t196.toList == t197.toList)))) else (some false)))) else (some false)))
theorem marginalialaw02_KindTexts.mono : ∀ a0 k, LeO (marginalialaw02_KindTexts.f k a0) (marginalialaw02_KindTexts.f (k + 1) a0) := by
  intro a0 k
  unfold marginalialaw02_KindTexts.f
  repeat' first
      | (with_reducible exact kind_White.mono _ _)
      | (with_reducible exact marginalialaw02_alive.mono _)
      | (with_reducible exact marginaliaref02_Lower.mono _ _)
      | (with_reducible exact marginaliaref02_White.mono _ _)
      | (with_reducible exact LeO.refl _)
      | (with_reducible exact LeO.none _)
      | (with_reducible refine LeO.ite ?_ ?_)
      | (with_reducible refine LeO.bind ?_ (fun _ => ?_))
      | exact kind_White.mono _ _
      | exact marginalialaw02_alive.mono _
      | exact marginaliaref02_Lower.mono _ _
      | exact marginaliaref02_White.mono _ _
      | exact LeO.none _
      | refine LeO.ite ?_ ?_
      | refine LeO.bind ?_ (fun _ => ?_)
set_option maxHeartbeats 8000000 in
set_option maxRecDepth 100000 in
theorem marginalialaw02_KindTexts.calls (k : Nat) (a0 : ByteArray) (r : Bool) (w : World) (h : marginalialaw02_KindTexts.f k a0 = some r) :
    Calls Try.prog 4 #[.string a0] w fun e w' => e = .returned (.bool r) ∧ Below w.heap.size w w' := by
  have HB := Aside0.mk (Below.refl w.heap.size w)
  have H : (if (a0.size : Int) > 300 then ((marginalialaw02_alive.f k).bind fun t192 => (some t192)) else ((marginalialaw02_alive.f k).bind fun t193 => (if t193 = true then ((kind_White.f k a0).bind fun t194 => ((marginaliaref02_White.f k a0).bind fun t195 => (if (t194 == t195) = true then ((kind_Lower.f a0).bind fun t196 => ((marginaliaref02_Lower.f k a0).bind fun t197 => (some (t196.toList == t197.toList)))) else (some false)))) else (some false)))) = some r := h
  clear h
  by_cases c2 : (a0.size : Int) > 300
  · rw [if_pos c2] at H
    have c2b0 : decide (300 < (a0.size : Int)) = true := decide_eq_true c2
    have c2b1 : decide (300 < a0.size) = true := decide_eq_true (by omega)
    clear c2
    replace H := Option.bind_eq_some_iff.mp H
    obtain ⟨t192, A30, H⟩ := H
    replace H : (some t192) = some r := H
    have A3 := Aside0.mk A30
    clear A30
    obtain rfl := Option.some.inj H
    go_enter Try.func4, Try.ntmps4
    go_wp2_with (first | ((with_reducible refine gate_callee (f := 8) rfl ?_); refine goesL_ (some 6) rfl rfl Try.func8 (by kernel_rfl) rfl #[] rfl (by (try simp only [List.map_toArray, List.map_cons, List.map_nil]); first | done | rfl | (simp only [List.length_drop, List.length_take]; rfl)) ?_; (with_reducible refine (marginalialaw02_alive.calls k  t192 _ A3.out).mono ?_); rintro e w4 ⟨rfl, hb⟩; refine ⟨_, rfl, ?_⟩; have n0_ := Aside0.mk (below_step (by repeat (first | (with_reducible first | exact HB.out | apply below_alloc | apply pw_below_drewN | apply below_drew1) | exact HB.out)) hb); clear HB; have HB := n0_; clear n0_; (try clear hb); (try clear hb2); (try clear hk); (try clear hi)))
    go_ret
    exact ⟨by first | rfl | (simp [errW_none, errW_some] <;> rfl) | (simp [*, errW_none, errW_some] <;> rfl), by repeat (first | (with_reducible first | exact HB.out | apply below_alloc | apply pw_below_drewN | apply below_drew1) | exact HB.out)⟩
  · rw [if_neg c2] at H
    have c2b0 : decide (300 < (a0.size : Int)) = false := decide_eq_false c2
    have c2b1 : decide (300 < a0.size) = false := decide_eq_false (by omega)
    clear c2
    replace H := Option.bind_eq_some_iff.mp H
    obtain ⟨t193, A50, H⟩ := H
    replace H : (if t193 = true then ((kind_White.f k a0).bind fun t194 => ((marginaliaref02_White.f k a0).bind fun t195 => (if (t194 == t195) = true then ((kind_Lower.f a0).bind fun t196 => ((marginaliaref02_Lower.f k a0).bind fun t197 => (some (t196.toList == t197.toList)))) else (some false)))) else (some false)) = some r := H
    have A5 := Aside0.mk A50
    clear A50
    by_cases c6 : t193 = true
    · subst c6
      have H1 : ((kind_White.f k a0).bind fun t194 => ((marginaliaref02_White.f k a0).bind fun t195 => (if (t194 == t195) = true then ((kind_Lower.f a0).bind fun t196 => ((marginaliaref02_Lower.f k a0).bind fun t197 => (some (t196.toList == t197.toList)))) else (some false)))) = some r := by rw [if_pos rfl] at H; exact H
      clear H
      have H := H1
      clear H1
      replace H := Option.bind_eq_some_iff.mp H
      obtain ⟨t194, A70, H⟩ := H
      replace H : ((marginaliaref02_White.f k a0).bind fun t195 => (if (t194 == t195) = true then ((kind_Lower.f a0).bind fun t196 => ((marginaliaref02_Lower.f k a0).bind fun t197 => (some (t196.toList == t197.toList)))) else (some false))) = some r := H
      have A7 := Aside0.mk A70
      clear A70
      replace H := Option.bind_eq_some_iff.mp H
      obtain ⟨t195, A80, H⟩ := H
      replace H : (if (t194 == t195) = true then ((kind_Lower.f a0).bind fun t196 => ((marginaliaref02_Lower.f k a0).bind fun t197 => (some (t196.toList == t197.toList)))) else (some false)) = some r := H
      have A8 := Aside0.mk A80
      clear A80
      by_cases c9 : (t194 == t195) = true
      · rw [if_pos c9] at H
        have c9b0 : (t194 == t195) = true := c9
        (try (have c9b1 : decide (t194 = t195) = true := by simpa using c9))
        (try (have c9b2 : (t194 == t195) = true := by simpa using c9))
        clear c9
        replace H := Option.bind_eq_some_iff.mp H
        obtain ⟨t196, A100, H⟩ := H
        replace H : ((marginaliaref02_Lower.f k a0).bind fun t197 => (some (t196.toList == t197.toList))) = some r := H
        have A10 := Aside0.mk A100
        clear A100
        replace H := Option.bind_eq_some_iff.mp H
        obtain ⟨t197, A110, H⟩ := H
        replace H : (some (t196.toList == t197.toList)) = some r := H
        have A11 := Aside0.mk A110
        clear A110
        obtain rfl := Option.some.inj H
        go_enter Try.func4, Try.ntmps4
        go_wp2_with (first | ((with_reducible refine gate_callee (f := 8) rfl ?_); refine goesL_ (some 7) rfl rfl Try.func8 (by kernel_rfl) rfl #[] rfl (by (try simp only [List.map_toArray, List.map_cons, List.map_nil]); first | done | rfl | (simp only [List.length_drop, List.length_take]; rfl)) ?_; (with_reducible refine (marginalialaw02_alive.calls k  true _ A5.out).mono ?_); rintro e w12 ⟨rfl, hb⟩; refine ⟨_, rfl, ?_⟩; have n0_ := Aside0.mk (below_step (by repeat (first | (with_reducible first | exact HB.out | apply below_alloc | apply pw_below_drewN | apply below_drew1) | exact HB.out)) hb); clear HB; have HB := n0_; clear n0_; (try clear hb); (try clear hb2); (try clear hk); (try clear hi)) | (go_at_call 15; (with_reducible refine (kind_White.calls k a0 t194 _ A7.out).mono ?_); rintro e w' ⟨rfl, ⟨nd, rfl⟩⟩) | (go_at_call 16; (with_reducible refine (marginaliaref02_White.calls k a0 t195 _ A8.out).mono ?_); rintro e w' ⟨rfl, ⟨nd, rfl⟩⟩) | (go_at_call 17; (with_reducible refine (kind_Lower.calls a0 t196 _ A10.out).mono ?_); rintro e w13 ⟨rfl, hb⟩; have n0_ := Aside0.mk (below_step (by repeat (first | (with_reducible first | exact HB.out | apply below_alloc | apply pw_below_drewN | apply below_drew1) | exact HB.out)) hb); clear HB; have HB := n0_; clear n0_; (try clear hb); (try clear hb2); (try clear hk); (try clear hi)) | (go_at_call 18; (with_reducible refine (marginaliaref02_Lower.calls k a0 t197 _ A11.out).mono ?_); rintro e w14 ⟨rfl, hb⟩; have n0_ := Aside0.mk (below_step (by repeat (first | (with_reducible first | exact HB.out | apply below_alloc | apply pw_below_drewN | apply below_drew1) | exact HB.out)) hb); clear HB; have HB := n0_; clear n0_; (try clear hb); (try clear hb2); (try clear hk); (try clear hi)))
        go_ret
        exact ⟨by first | rfl | (simp [errW_none, errW_some] <;> rfl) | (simp [*, errW_none, errW_some] <;> rfl), by repeat (first | (with_reducible first | exact HB.out | apply below_alloc | apply pw_below_drewN | apply below_drew1) | exact HB.out)⟩
      · rw [if_neg c9] at H
        have c9b0 : (t194 == t195) = false := by simpa using c9
        (try (have c9b1 : decide (t194 = t195) = false := by simpa using c9))
        (try (have c9b2 : (t194 == t195) = false := by simpa using c9))
        (try (have c9b3 : ¬ (t194 = t195) := by simpa using c9))
        clear c9
        obtain rfl := Option.some.inj H
        go_enter Try.func4, Try.ntmps4
        go_wp2_with (first | ((with_reducible refine gate_callee (f := 8) rfl ?_); refine goesL_ (some 7) rfl rfl Try.func8 (by kernel_rfl) rfl #[] rfl (by (try simp only [List.map_toArray, List.map_cons, List.map_nil]); first | done | rfl | (simp only [List.length_drop, List.length_take]; rfl)) ?_; (with_reducible refine (marginalialaw02_alive.calls k  true _ A5.out).mono ?_); rintro e w15 ⟨rfl, hb⟩; refine ⟨_, rfl, ?_⟩; have n0_ := Aside0.mk (below_step (by repeat (first | (with_reducible first | exact HB.out | apply below_alloc | apply pw_below_drewN | apply below_drew1) | exact HB.out)) hb); clear HB; have HB := n0_; clear n0_; (try clear hb); (try clear hb2); (try clear hk); (try clear hi)) | (go_at_call 15; (with_reducible refine (kind_White.calls k a0 t194 _ A7.out).mono ?_); rintro e w' ⟨rfl, ⟨nd, rfl⟩⟩) | (go_at_call 16; (with_reducible refine (marginaliaref02_White.calls k a0 t195 _ A8.out).mono ?_); rintro e w' ⟨rfl, ⟨nd, rfl⟩⟩))
        go_ret
        exact ⟨by first | rfl | (simp [errW_none, errW_some] <;> rfl) | (simp [*, errW_none, errW_some] <;> rfl), by repeat (first | (with_reducible first | exact HB.out | apply below_alloc | apply pw_below_drewN | apply below_drew1) | exact HB.out)⟩
    · replace c6 := Bool.eq_false_iff.mpr c6
      subst c6
      have H1 : (some false) = some r := by rw [if_neg (show ¬ (false = true) by decide)] at H; exact H
      clear H
      have H := H1
      clear H1
      obtain rfl := Option.some.inj H
      go_enter Try.func4, Try.ntmps4
      go_wp2_with (first | ((with_reducible refine gate_callee (f := 8) rfl ?_); refine goesL_ (some 7) rfl rfl Try.func8 (by kernel_rfl) rfl #[] rfl (by (try simp only [List.map_toArray, List.map_cons, List.map_nil]); first | done | rfl | (simp only [List.length_drop, List.length_take]; rfl)) ?_; (with_reducible refine (marginalialaw02_alive.calls k  false _ A5.out).mono ?_); rintro e w16 ⟨rfl, hb⟩; refine ⟨_, rfl, ?_⟩; have n0_ := Aside0.mk (below_step (by repeat (first | (with_reducible first | exact HB.out | apply below_alloc | apply pw_below_drewN | apply below_drew1) | exact HB.out)) hb); clear HB; have HB := n0_; clear n0_; (try clear hb); (try clear hb2); (try clear hk); (try clear hi)))
      go_ret
      exact ⟨by first | rfl | (simp [errW_none, errW_some] <;> rfl) | (simp [*, errW_none, errW_some] <;> rfl), by repeat (first | (with_reducible first | exact HB.out | apply below_alloc | apply pw_below_drewN | apply below_drew1) | exact HB.out)⟩

/-- THE ONE PURE STATEMENT of marginalialaw02_KindTexts: yours. -/
def marginalialaw02_KindTexts.Pure : Prop := ∀ (a0 : ByteArray), a0.size ≤ 140737488351232 → ∃ k, marginalialaw02_KindTexts.f k a0 = some true
theorem marginalialaw02_KindTexts.walk (P : marginalialaw02_KindTexts.Pure) (a0 : ByteArray) (w : World) (w0 : a0.size ≤ 140737488351232) :
    Calls Try.prog 4 #[.string a0] w fun e w' => e = .returned (.bool true) ∧ Below w.heap.size w w' := by
  obtain ⟨k, h⟩ := P a0 w0
  refine (marginalialaw02_KindTexts.calls k a0 true w h).mono ?_
  rintro e w' ⟨rfl, hd⟩
  exact ⟨rfl, hd⟩

/-! ### marginaliaref02_names: function 31 -/
def marginaliaref02_names.f (a0 : Int) : Option (List ByteArray) := if a0 = 1 then (some (([(⟨#[97, 114, 101, 97, 32, 98, 97, 115, 101, 32, 98, 114, 32, 99, 111, 108, 32, 101, 109, 98, 101, 100, 32, 104, 114, 32, 105, 109, 103, 32, 105, 110, 112, 117, 116, 32, 108, 105, 110, 107, 32, 109, 101, 116, 97, 32, 112, 97, 114, 97, 109, 32, 115, 111, 117, 114, 99, 101, 32, 116, 114, 97, 99, 107, 32, 119, 98, 114]⟩ : ByteArray)] : List ByteArray))) else (if a0 = 2 then (some (([(⟨#[105, 102, 114, 97, 109, 101, 32, 110, 111, 101, 109, 98, 101, 100, 32, 110, 111, 102, 114, 97, 109, 101, 115, 32, 115, 99, 114, 105, 112, 116, 32, 115, 116, 121, 108, 101, 32, 120, 109, 112]⟩ : ByteArray)] : List ByteArray))) else (if a0 = 3 then (some (([(⟨#[116, 101, 120, 116, 97, 114, 101, 97, 32, 116, 105, 116, 108, 101]⟩ : ByteArray)] : List ByteArray))) else (if a0 = 5 then (some (([(⟨#[97, 32, 98, 32, 98, 105, 103, 32, 99, 111, 100, 101, 32, 101, 109, 32, 102, 111, 110, 116, 32, 105, 32, 110, 111, 98, 114, 32, 115, 32, 115, 109, 97, 108, 108, 32, 115, 116, 114, 105, 107, 101, 32, 115, 116, 114, 111, 110, 103, 32, 116, 116, 32, 117]⟩ : ByteArray)] : List ByteArray))) else (if a0 = 7 then (some (([(⟨#[104, 49, 32, 104, 50, 32, 104, 51, 32, 104, 52, 32, 104, 53, 32, 104, 54]⟩ : ByteArray)] : List ByteArray))) else (if a0 = 6 then (some (([(⟨#[97, 100, 100, 114, 101, 115, 115, 32, 97, 114, 116, 105, 99, 108, 101, 32, 97, 115, 105, 100, 101, 32, 98, 108, 111, 99, 107, 113, 117, 111, 116, 101, 32, 99, 101, 110, 116, 101, 114, 32, 100, 101, 116, 97, 105, 108, 115, 32, 100, 105, 97, 108, 111, 103, 32, 100, 105, 114, 32, 100, 105, 118, 32, 100, 108, 32, 102, 105, 101, 108, 100, 115, 101, 116, 32, 102, 105, 103, 99, 97, 112, 116, 105, 111, 110, 32, 102, 105, 103, 117, 114, 101, 32, 102, 111, 111, 116, 101, 114, 32, 104, 101, 97, 100, 101, 114, 32, 104, 103, 114, 111, 117, 112, 32, 109, 97, 105, 110, 32, 109, 101, 110, 117, 32, 110, 97, 118, 32, 111, 108, 32, 112, 32, 115, 101, 97, 114, 99, 104, 32, 115, 101, 99, 116, 105, 111, 110, 32, 115, 117, 109, 109, 97, 114, 121, 32, 117, 108]⟩ : ByteArray)] : List ByteArray))) else (if a0 = 8 then (some (([(⟨#[100, 100, 32, 100, 116, 32, 108, 105, 32, 111, 112, 116, 103, 114, 111, 117, 112, 32, 111, 112, 116, 105, 111, 110, 32, 112, 32, 114, 98, 32, 114, 112, 32, 114, 116, 32, 114, 116, 99]⟩ : ByteArray)] : List ByteArray))) else (if a0 = 9 then (some (([(⟨#[99, 97, 112, 116, 105, 111, 110, 32, 99, 111, 108, 32, 99, 111, 108, 103, 114, 111, 117, 112, 32, 116, 98, 111, 100, 121, 32, 116, 100, 32, 116, 102, 111, 111, 116, 32, 116, 104, 32, 116, 104, 101, 97, 100, 32, 116, 114]⟩ : ByteArray)] : List ByteArray))) else (if a0 = 11 then (some (([(⟨#[97, 112, 112, 108, 101, 116, 32, 109, 97, 114, 113, 117, 101, 101, 32, 111, 98, 106, 101, 99, 116]⟩ : ByteArray)] : List ByteArray))) else (if a0 = 12 then (some (([(⟨#[98, 111, 100, 121, 32, 102, 114, 97, 109, 101, 32, 102, 114, 97, 109, 101, 115, 101, 116, 32, 104, 101, 97, 100, 32, 104, 116, 109, 108]⟩ : ByteArray), (⟨#[99, 97, 112, 116, 105, 111, 110, 32, 99, 111, 108, 32, 99, 111, 108, 103, 114, 111, 117, 112, 32, 116, 98, 111, 100, 121, 32, 116, 100, 32, 116, 102, 111, 111, 116, 32, 116, 104, 32, 116, 104, 101, 97, 100, 32, 116, 114]⟩ : ByteArray)] : List ByteArray))) else (if a0 = 10 then (some (([(⟨#[98, 32, 98, 105, 103, 32, 98, 108, 111, 99, 107, 113, 117, 111, 116, 101, 32, 98, 111, 100, 121, 32, 98, 114, 32, 99, 101, 110, 116, 101, 114, 32, 99, 111, 100, 101, 32, 100, 100, 32, 100, 105, 118, 32, 100, 108, 32, 100, 116, 32, 101, 109, 32, 101, 109, 98, 101, 100, 32, 104, 49, 32, 104, 50, 32, 104, 51, 32, 104, 52, 32, 104, 53, 32, 104, 54, 32, 104, 101, 97, 100, 32, 104, 114, 32, 105, 32, 105, 109, 103, 32, 108, 105, 32, 108, 105, 115, 116, 105, 110, 103, 32, 109, 101, 110, 117, 32, 109, 101, 116, 97, 32, 110, 111, 98, 114, 32, 111, 108, 32, 112, 32, 112, 114, 101, 32, 114, 117, 98, 121, 32, 115, 32, 115, 109, 97, 108, 108, 32, 115, 112, 97, 110, 32, 115, 116, 114, 105, 107, 101, 32, 115, 116, 114, 111, 110, 103, 32, 115, 117, 98, 32, 115, 117, 112, 32, 116, 97, 98, 108, 101, 32, 116, 116, 32, 117, 32, 117, 108, 32, 118, 97, 114]⟩ : ByteArray)] : List ByteArray))) else (if a0 = 4 then (some (([(⟨#[97, 114, 101, 97, 32, 98, 97, 115, 101, 32, 98, 114, 32, 99, 111, 108, 32, 101, 109, 98, 101, 100, 32, 104, 114, 32, 105, 109, 103, 32, 105, 110, 112, 117, 116, 32, 108, 105, 110, 107, 32, 109, 101, 116, 97, 32, 112, 97, 114, 97, 109, 32, 115, 111, 117, 114, 99, 101, 32, 116, 114, 97, 99, 107, 32, 119, 98, 114]⟩ : ByteArray), (⟨#[105, 102, 114, 97, 109, 101, 32, 110, 111, 101, 109, 98, 101, 100, 32, 110, 111, 102, 114, 97, 109, 101, 115, 32, 115, 99, 114, 105, 112, 116, 32, 115, 116, 121, 108, 101, 32, 120, 109, 112]⟩ : ByteArray), (⟨#[116, 101, 120, 116, 97, 114, 101, 97, 32, 116, 105, 116, 108, 101]⟩ : ByteArray), (⟨#[104, 49, 32, 104, 50, 32, 104, 51, 32, 104, 52, 32, 104, 53, 32, 104, 54]⟩ : ByteArray), (⟨#[97, 100, 100, 114, 101, 115, 115, 32, 97, 114, 116, 105, 99, 108, 101, 32, 97, 115, 105, 100, 101, 32, 98, 108, 111, 99, 107, 113, 117, 111, 116, 101, 32, 99, 101, 110, 116, 101, 114, 32, 100, 101, 116, 97, 105, 108, 115, 32, 100, 105, 97, 108, 111, 103, 32, 100, 105, 114, 32, 100, 105, 118, 32, 100, 108, 32, 102, 105, 101, 108, 100, 115, 101, 116, 32, 102, 105, 103, 99, 97, 112, 116, 105, 111, 110, 32, 102, 105, 103, 117, 114, 101, 32, 102, 111, 111, 116, 101, 114, 32, 104, 101, 97, 100, 101, 114, 32, 104, 103, 114, 111, 117, 112, 32, 109, 97, 105, 110, 32, 109, 101, 110, 117, 32, 110, 97, 118, 32, 111, 108, 32, 112, 32, 115, 101, 97, 114, 99, 104, 32, 115, 101, 99, 116, 105, 111, 110, 32, 115, 117, 109, 109, 97, 114, 121, 32, 117, 108]⟩ : ByteArray), (⟨#[99, 97, 112, 116, 105, 111, 110, 32, 99, 111, 108, 32, 99, 111, 108, 103, 114, 111, 117, 112, 32, 116, 98, 111, 100, 121, 32, 116, 100, 32, 116, 102, 111, 111, 116, 32, 116, 104, 32, 116, 104, 101, 97, 100, 32, 116, 114]⟩ : ByteArray), (⟨#[97, 112, 112, 108, 101, 116, 32, 109, 97, 114, 113, 117, 101, 101, 32, 111, 98, 106, 101, 99, 116]⟩ : ByteArray), (⟨#[98, 97, 115, 101, 102, 111, 110, 116, 32, 98, 103, 115, 111, 117, 110, 100, 32, 98, 111, 100, 121, 32, 98, 117, 116, 116, 111, 110, 32, 100, 100, 32, 100, 116, 32, 102, 111, 114, 109, 32, 102, 114, 97, 109, 101, 32, 102, 114, 97, 109, 101, 115, 101, 116, 32, 104, 101, 97, 100, 32, 104, 116, 109, 108, 32, 107, 101, 121, 103, 101, 110, 32, 108, 105, 32, 108, 105, 115, 116, 105, 110, 103, 32, 110, 111, 115, 99, 114, 105, 112, 116, 32, 112, 108, 97, 105, 110, 116, 101, 120, 116, 32, 112, 114, 101, 32, 115, 101, 108, 101, 99, 116, 32, 116, 97, 98, 108, 101, 32, 116, 101, 109, 112, 108, 97, 116, 101]⟩ : ByteArray)] : List ByteArray))) else (some ([] : List ByteArray)))))))))))))
set_option maxHeartbeats 8000000 in
set_option maxRecDepth 100000 in
theorem marginaliaref02_names.calls (a0 : Int) (r : List ByteArray) (w : World) (h : marginaliaref02_names.f a0 = some r) :
    Calls Try.prog 31 #[.int .i64 a0] w fun e w' => ∃ v0_ : Value, e = .returned (v0_) ∧ Kd.R Kd.string 9 w' w.heap.size (fun _ => True) v0_ r ∧ Below w.heap.size w w' := by
  have HB := Aside0.mk (Below.refl w.heap.size w)
  have H : (if a0 = 1 then (some (([(⟨#[97, 114, 101, 97, 32, 98, 97, 115, 101, 32, 98, 114, 32, 99, 111, 108, 32, 101, 109, 98, 101, 100, 32, 104, 114, 32, 105, 109, 103, 32, 105, 110, 112, 117, 116, 32, 108, 105, 110, 107, 32, 109, 101, 116, 97, 32, 112, 97, 114, 97, 109, 32, 115, 111, 117, 114, 99, 101, 32, 116, 114, 97, 99, 107, 32, 119, 98, 114]⟩ : ByteArray)] : List ByteArray))) else (if a0 = 2 then (some (([(⟨#[105, 102, 114, 97, 109, 101, 32, 110, 111, 101, 109, 98, 101, 100, 32, 110, 111, 102, 114, 97, 109, 101, 115, 32, 115, 99, 114, 105, 112, 116, 32, 115, 116, 121, 108, 101, 32, 120, 109, 112]⟩ : ByteArray)] : List ByteArray))) else (if a0 = 3 then (some (([(⟨#[116, 101, 120, 116, 97, 114, 101, 97, 32, 116, 105, 116, 108, 101]⟩ : ByteArray)] : List ByteArray))) else (if a0 = 5 then (some (([(⟨#[97, 32, 98, 32, 98, 105, 103, 32, 99, 111, 100, 101, 32, 101, 109, 32, 102, 111, 110, 116, 32, 105, 32, 110, 111, 98, 114, 32, 115, 32, 115, 109, 97, 108, 108, 32, 115, 116, 114, 105, 107, 101, 32, 115, 116, 114, 111, 110, 103, 32, 116, 116, 32, 117]⟩ : ByteArray)] : List ByteArray))) else (if a0 = 7 then (some (([(⟨#[104, 49, 32, 104, 50, 32, 104, 51, 32, 104, 52, 32, 104, 53, 32, 104, 54]⟩ : ByteArray)] : List ByteArray))) else (if a0 = 6 then (some (([(⟨#[97, 100, 100, 114, 101, 115, 115, 32, 97, 114, 116, 105, 99, 108, 101, 32, 97, 115, 105, 100, 101, 32, 98, 108, 111, 99, 107, 113, 117, 111, 116, 101, 32, 99, 101, 110, 116, 101, 114, 32, 100, 101, 116, 97, 105, 108, 115, 32, 100, 105, 97, 108, 111, 103, 32, 100, 105, 114, 32, 100, 105, 118, 32, 100, 108, 32, 102, 105, 101, 108, 100, 115, 101, 116, 32, 102, 105, 103, 99, 97, 112, 116, 105, 111, 110, 32, 102, 105, 103, 117, 114, 101, 32, 102, 111, 111, 116, 101, 114, 32, 104, 101, 97, 100, 101, 114, 32, 104, 103, 114, 111, 117, 112, 32, 109, 97, 105, 110, 32, 109, 101, 110, 117, 32, 110, 97, 118, 32, 111, 108, 32, 112, 32, 115, 101, 97, 114, 99, 104, 32, 115, 101, 99, 116, 105, 111, 110, 32, 115, 117, 109, 109, 97, 114, 121, 32, 117, 108]⟩ : ByteArray)] : List ByteArray))) else (if a0 = 8 then (some (([(⟨#[100, 100, 32, 100, 116, 32, 108, 105, 32, 111, 112, 116, 103, 114, 111, 117, 112, 32, 111, 112, 116, 105, 111, 110, 32, 112, 32, 114, 98, 32, 114, 112, 32, 114, 116, 32, 114, 116, 99]⟩ : ByteArray)] : List ByteArray))) else (if a0 = 9 then (some (([(⟨#[99, 97, 112, 116, 105, 111, 110, 32, 99, 111, 108, 32, 99, 111, 108, 103, 114, 111, 117, 112, 32, 116, 98, 111, 100, 121, 32, 116, 100, 32, 116, 102, 111, 111, 116, 32, 116, 104, 32, 116, 104, 101, 97, 100, 32, 116, 114]⟩ : ByteArray)] : List ByteArray))) else (if a0 = 11 then (some (([(⟨#[97, 112, 112, 108, 101, 116, 32, 109, 97, 114, 113, 117, 101, 101, 32, 111, 98, 106, 101, 99, 116]⟩ : ByteArray)] : List ByteArray))) else (if a0 = 12 then (some (([(⟨#[98, 111, 100, 121, 32, 102, 114, 97, 109, 101, 32, 102, 114, 97, 109, 101, 115, 101, 116, 32, 104, 101, 97, 100, 32, 104, 116, 109, 108]⟩ : ByteArray), (⟨#[99, 97, 112, 116, 105, 111, 110, 32, 99, 111, 108, 32, 99, 111, 108, 103, 114, 111, 117, 112, 32, 116, 98, 111, 100, 121, 32, 116, 100, 32, 116, 102, 111, 111, 116, 32, 116, 104, 32, 116, 104, 101, 97, 100, 32, 116, 114]⟩ : ByteArray)] : List ByteArray))) else (if a0 = 10 then (some (([(⟨#[98, 32, 98, 105, 103, 32, 98, 108, 111, 99, 107, 113, 117, 111, 116, 101, 32, 98, 111, 100, 121, 32, 98, 114, 32, 99, 101, 110, 116, 101, 114, 32, 99, 111, 100, 101, 32, 100, 100, 32, 100, 105, 118, 32, 100, 108, 32, 100, 116, 32, 101, 109, 32, 101, 109, 98, 101, 100, 32, 104, 49, 32, 104, 50, 32, 104, 51, 32, 104, 52, 32, 104, 53, 32, 104, 54, 32, 104, 101, 97, 100, 32, 104, 114, 32, 105, 32, 105, 109, 103, 32, 108, 105, 32, 108, 105, 115, 116, 105, 110, 103, 32, 109, 101, 110, 117, 32, 109, 101, 116, 97, 32, 110, 111, 98, 114, 32, 111, 108, 32, 112, 32, 112, 114, 101, 32, 114, 117, 98, 121, 32, 115, 32, 115, 109, 97, 108, 108, 32, 115, 112, 97, 110, 32, 115, 116, 114, 105, 107, 101, 32, 115, 116, 114, 111, 110, 103, 32, 115, 117, 98, 32, 115, 117, 112, 32, 116, 97, 98, 108, 101, 32, 116, 116, 32, 117, 32, 117, 108, 32, 118, 97, 114]⟩ : ByteArray)] : List ByteArray))) else (if a0 = 4 then (some (([(⟨#[97, 114, 101, 97, 32, 98, 97, 115, 101, 32, 98, 114, 32, 99, 111, 108, 32, 101, 109, 98, 101, 100, 32, 104, 114, 32, 105, 109, 103, 32, 105, 110, 112, 117, 116, 32, 108, 105, 110, 107, 32, 109, 101, 116, 97, 32, 112, 97, 114, 97, 109, 32, 115, 111, 117, 114, 99, 101, 32, 116, 114, 97, 99, 107, 32, 119, 98, 114]⟩ : ByteArray), (⟨#[105, 102, 114, 97, 109, 101, 32, 110, 111, 101, 109, 98, 101, 100, 32, 110, 111, 102, 114, 97, 109, 101, 115, 32, 115, 99, 114, 105, 112, 116, 32, 115, 116, 121, 108, 101, 32, 120, 109, 112]⟩ : ByteArray), (⟨#[116, 101, 120, 116, 97, 114, 101, 97, 32, 116, 105, 116, 108, 101]⟩ : ByteArray), (⟨#[104, 49, 32, 104, 50, 32, 104, 51, 32, 104, 52, 32, 104, 53, 32, 104, 54]⟩ : ByteArray), (⟨#[97, 100, 100, 114, 101, 115, 115, 32, 97, 114, 116, 105, 99, 108, 101, 32, 97, 115, 105, 100, 101, 32, 98, 108, 111, 99, 107, 113, 117, 111, 116, 101, 32, 99, 101, 110, 116, 101, 114, 32, 100, 101, 116, 97, 105, 108, 115, 32, 100, 105, 97, 108, 111, 103, 32, 100, 105, 114, 32, 100, 105, 118, 32, 100, 108, 32, 102, 105, 101, 108, 100, 115, 101, 116, 32, 102, 105, 103, 99, 97, 112, 116, 105, 111, 110, 32, 102, 105, 103, 117, 114, 101, 32, 102, 111, 111, 116, 101, 114, 32, 104, 101, 97, 100, 101, 114, 32, 104, 103, 114, 111, 117, 112, 32, 109, 97, 105, 110, 32, 109, 101, 110, 117, 32, 110, 97, 118, 32, 111, 108, 32, 112, 32, 115, 101, 97, 114, 99, 104, 32, 115, 101, 99, 116, 105, 111, 110, 32, 115, 117, 109, 109, 97, 114, 121, 32, 117, 108]⟩ : ByteArray), (⟨#[99, 97, 112, 116, 105, 111, 110, 32, 99, 111, 108, 32, 99, 111, 108, 103, 114, 111, 117, 112, 32, 116, 98, 111, 100, 121, 32, 116, 100, 32, 116, 102, 111, 111, 116, 32, 116, 104, 32, 116, 104, 101, 97, 100, 32, 116, 114]⟩ : ByteArray), (⟨#[97, 112, 112, 108, 101, 116, 32, 109, 97, 114, 113, 117, 101, 101, 32, 111, 98, 106, 101, 99, 116]⟩ : ByteArray), (⟨#[98, 97, 115, 101, 102, 111, 110, 116, 32, 98, 103, 115, 111, 117, 110, 100, 32, 98, 111, 100, 121, 32, 98, 117, 116, 116, 111, 110, 32, 100, 100, 32, 100, 116, 32, 102, 111, 114, 109, 32, 102, 114, 97, 109, 101, 32, 102, 114, 97, 109, 101, 115, 101, 116, 32, 104, 101, 97, 100, 32, 104, 116, 109, 108, 32, 107, 101, 121, 103, 101, 110, 32, 108, 105, 32, 108, 105, 115, 116, 105, 110, 103, 32, 110, 111, 115, 99, 114, 105, 112, 116, 32, 112, 108, 97, 105, 110, 116, 101, 120, 116, 32, 112, 114, 101, 32, 115, 101, 108, 101, 99, 116, 32, 116, 97, 98, 108, 101, 32, 116, 101, 109, 112, 108, 97, 116, 101]⟩ : ByteArray)] : List ByteArray))) else (some ([] : List ByteArray)))))))))))))) = some r := h
  clear h
  by_cases c2 : a0 = 1
  · rw [if_pos c2] at H
    have c2b0 : (a0 == 1) = true := beq_iff_eq.mpr c2
    have c2b1 : (a0 != 1) = false := bne_eq_false_iff_eq.mpr c2
    clear c2
    obtain ⟨y198, hy198⟩ : ∃ y_ : List ByteArray, y_ = (([(⟨#[97, 114, 101, 97, 32, 98, 97, 115, 101, 32, 98, 114, 32, 99, 111, 108, 32, 101, 109, 98, 101, 100, 32, 104, 114, 32, 105, 109, 103, 32, 105, 110, 112, 117, 116, 32, 108, 105, 110, 107, 32, 109, 101, 116, 97, 32, 112, 97, 114, 97, 109, 32, 115, 111, 117, 114, 99, 101, 32, 116, 114, 97, 99, 107, 32, 119, 98, 114]⟩ : ByteArray)] : List ByteArray)) := ⟨_, rfl⟩
    replace H : (some y198) = some r := by first | (rw [hy198]; with_reducible exact H) | (have H2_ := (Option.bind_some _ _).symm.trans H; rw [hy198]; with_reducible exact H2_) | (have H2_ := (Option.bind_some _ _).symm.trans H; with_reducible exact H2_) | with_reducible exact H | (rw [hy198]; exact H) | exact H
    have Ny198 := Aside0.mk hy198
    clear hy198
    obtain rfl := Option.some.inj H
    go_enter Try.func31, Try.ntmps31
    go_wp2_with (first | ((with_reducible refine gate_dst (N := 6) rfl ?_); refine Kd.R_lit Kd.string _ 9 ?hg (N := 6) ?hd (xs := ([(⟨#[97, 114, 101, 97, 32, 98, 97, 115, 101, 32, 98, 114, 32, 99, 111, 108, 32, 101, 109, 98, 101, 100, 32, 104, 114, 32, 105, 109, 103, 32, 105, 110, 112, 117, 116, 32, 108, 105, 110, 107, 32, 109, 101, 116, 97, 32, 112, 97, 114, 97, 109, 32, 115, 111, 117, 114, 99, 101, 32, 116, 114, 97, 99, 107, 32, 119, 98, 114]⟩ : ByteArray)] : List ByteArray)) (inner := [.string (⟨#[97, 114, 101, 97, 32, 98, 97, 115, 101, 32, 98, 114, 32, 99, 111, 108, 32, 101, 109, 98, 101, 100, 32, 104, 114, 32, 105, 109, 103, 32, 105, 110, 112, 117, 116, 32, 108, 105, 110, 107, 32, 109, 101, 116, 97, 32, 112, 97, 114, 97, 109, 32, 115, 111, 117, 114, 99, 101, 32, 116, 114, 97, 99, 107, 32, 119, 98, 114]⟩ : ByteArray)]) (ok := fun _ => True) (okp := fun _ => True) ?hr ?hp (fun _ hk => hk) trivial (Below.refl _ _) (Nat.le_refl _) (by simp) ?_; (case hd => rfl); (case hg => rfl); (case hr => first | (go_simp; done) | (go_simp; rfl)); (case hp => exact (Reps.one (show Kd.M Kd.string _ _ _ (⟨#[97, 114, 101, 97, 32, 98, 97, 115, 101, 32, 98, 114, 32, 99, 111, 108, 32, 101, 109, 98, 101, 100, 32, 104, 114, 32, 105, 109, 103, 32, 105, 110, 112, 117, 116, 32, 108, 105, 110, 107, 32, 109, 101, 116, 97, 32, 112, 97, 114, 97, 109, 32, 115, 111, 117, 114, 99, 101, 32, 116, 114, 97, 99, 107, 32, 119, 98, 114]⟩ : ByteArray) [.string (⟨#[97, 114, 101, 97, 32, 98, 97, 115, 101, 32, 98, 114, 32, 99, 111, 108, 32, 101, 109, 98, 101, 100, 32, 104, 114, 32, 105, 109, 103, 32, 105, 110, 112, 117, 116, 32, 108, 105, 110, 107, 32, 109, 101, 116, 97, 32, 112, 97, 114, 97, 109, 32, 115, 111, 117, 114, 99, 101, 32, 116, 114, 97, 99, 107, 32, 119, 98, 114]⟩ : ByteArray)] from rfl) (Reps.none _ _))); intro v199 w3 ho4 hb hg_ hnew_; clear hg_ hnew_; (first | rw [← Ny198.out] at ho4 | (simp only [Int.reduceToNat] at ho4; rw [← Ny198.out] at ho4)); have n0_ := Aside0.mk (Kd.R_lower ho4 (below_size (by repeat (first | (with_reducible first | exact HB.out | apply below_alloc | apply pw_below_drewN | apply below_drew1) | exact HB.out)))); have n1_ := Aside0.mk (below_step (by repeat (first | (with_reducible first | exact HB.out | apply below_alloc | apply pw_below_drewN | apply below_drew1) | exact HB.out)) hb); clear HB; have HO200 := n0_; have HB := n1_; clear n0_ n1_; clear hb ho4))
    go_ret
    exact ⟨_, by first | rfl | (simp [errW_none, errW_some] <;> rfl) | (simp [*, errW_none, errW_some] <;> rfl), by (with_reducible repeat (first | apply Kd.R_alloc | apply Kd.R_drewN | apply Kd.R_drew)); exact HO200.out, by repeat (first | (with_reducible first | exact HB.out | apply below_alloc | apply pw_below_drewN | apply below_drew1) | exact HB.out)⟩
  · rw [if_neg c2] at H
    have c2b0 : (a0 == 1) = false := beq_eq_false_iff_ne.mpr c2
    have c2b1 : (a0 != 1) = true := bne_iff_ne.mpr c2
    by_cases c5 : a0 = 2
    · rw [if_pos c5] at H
      have c5b0 : (a0 == 2) = true := beq_iff_eq.mpr c5
      have c5b1 : (a0 != 2) = false := bne_eq_false_iff_eq.mpr c5
      clear c5
      obtain ⟨y201, hy201⟩ : ∃ y_ : List ByteArray, y_ = (([(⟨#[105, 102, 114, 97, 109, 101, 32, 110, 111, 101, 109, 98, 101, 100, 32, 110, 111, 102, 114, 97, 109, 101, 115, 32, 115, 99, 114, 105, 112, 116, 32, 115, 116, 121, 108, 101, 32, 120, 109, 112]⟩ : ByteArray)] : List ByteArray)) := ⟨_, rfl⟩
      replace H : (some y201) = some r := by first | (rw [hy201]; with_reducible exact H) | (have H2_ := (Option.bind_some _ _).symm.trans H; rw [hy201]; with_reducible exact H2_) | (have H2_ := (Option.bind_some _ _).symm.trans H; with_reducible exact H2_) | with_reducible exact H | (rw [hy201]; exact H) | exact H
      have Ny201 := Aside0.mk hy201
      clear hy201
      obtain rfl := Option.some.inj H
      go_enter Try.func31, Try.ntmps31
      go_wp2_with (first | ((with_reducible refine gate_dst (N := 9) rfl ?_); refine Kd.R_lit Kd.string _ 9 ?hg (N := 9) ?hd (xs := ([(⟨#[105, 102, 114, 97, 109, 101, 32, 110, 111, 101, 109, 98, 101, 100, 32, 110, 111, 102, 114, 97, 109, 101, 115, 32, 115, 99, 114, 105, 112, 116, 32, 115, 116, 121, 108, 101, 32, 120, 109, 112]⟩ : ByteArray)] : List ByteArray)) (inner := [.string (⟨#[105, 102, 114, 97, 109, 101, 32, 110, 111, 101, 109, 98, 101, 100, 32, 110, 111, 102, 114, 97, 109, 101, 115, 32, 115, 99, 114, 105, 112, 116, 32, 115, 116, 121, 108, 101, 32, 120, 109, 112]⟩ : ByteArray)]) (ok := fun _ => True) (okp := fun _ => True) ?hr ?hp (fun _ hk => hk) trivial (Below.refl _ _) (Nat.le_refl _) (by simp) ?_; (case hd => rfl); (case hg => rfl); (case hr => first | (go_simp; done) | (go_simp; rfl)); (case hp => exact (Reps.one (show Kd.M Kd.string _ _ _ (⟨#[105, 102, 114, 97, 109, 101, 32, 110, 111, 101, 109, 98, 101, 100, 32, 110, 111, 102, 114, 97, 109, 101, 115, 32, 115, 99, 114, 105, 112, 116, 32, 115, 116, 121, 108, 101, 32, 120, 109, 112]⟩ : ByteArray) [.string (⟨#[105, 102, 114, 97, 109, 101, 32, 110, 111, 101, 109, 98, 101, 100, 32, 110, 111, 102, 114, 97, 109, 101, 115, 32, 115, 99, 114, 105, 112, 116, 32, 115, 116, 121, 108, 101, 32, 120, 109, 112]⟩ : ByteArray)] from rfl) (Reps.none _ _))); intro v202 w6 ho7 hb hg_ hnew_; clear hg_ hnew_; (first | rw [← Ny201.out] at ho7 | (simp only [Int.reduceToNat] at ho7; rw [← Ny201.out] at ho7)); have n0_ := Aside0.mk (Kd.R_lower ho7 (below_size (by repeat (first | (with_reducible first | exact HB.out | apply below_alloc | apply pw_below_drewN | apply below_drew1) | exact HB.out)))); have n1_ := Aside0.mk (below_step (by repeat (first | (with_reducible first | exact HB.out | apply below_alloc | apply pw_below_drewN | apply below_drew1) | exact HB.out)) hb); clear HB; have HO203 := n0_; have HB := n1_; clear n0_ n1_; clear hb ho7))
      go_ret
      exact ⟨_, by first | rfl | (simp [errW_none, errW_some] <;> rfl) | (simp [*, errW_none, errW_some] <;> rfl), by (with_reducible repeat (first | apply Kd.R_alloc | apply Kd.R_drewN | apply Kd.R_drew)); exact HO203.out, by repeat (first | (with_reducible first | exact HB.out | apply below_alloc | apply pw_below_drewN | apply below_drew1) | exact HB.out)⟩
    · rw [if_neg c5] at H
      have c5b0 : (a0 == 2) = false := beq_eq_false_iff_ne.mpr c5
      have c5b1 : (a0 != 2) = true := bne_iff_ne.mpr c5
      by_cases c8 : a0 = 3
      · rw [if_pos c8] at H
        have c8b0 : (a0 == 3) = true := beq_iff_eq.mpr c8
        have c8b1 : (a0 != 3) = false := bne_eq_false_iff_eq.mpr c8
        clear c8
        obtain ⟨y204, hy204⟩ : ∃ y_ : List ByteArray, y_ = (([(⟨#[116, 101, 120, 116, 97, 114, 101, 97, 32, 116, 105, 116, 108, 101]⟩ : ByteArray)] : List ByteArray)) := ⟨_, rfl⟩
        replace H : (some y204) = some r := by first | (rw [hy204]; with_reducible exact H) | (have H2_ := (Option.bind_some _ _).symm.trans H; rw [hy204]; with_reducible exact H2_) | (have H2_ := (Option.bind_some _ _).symm.trans H; with_reducible exact H2_) | with_reducible exact H | (rw [hy204]; exact H) | exact H
        have Ny204 := Aside0.mk hy204
        clear hy204
        obtain rfl := Option.some.inj H
        go_enter Try.func31, Try.ntmps31
        go_wp2_with (first | ((with_reducible refine gate_dst (N := 12) rfl ?_); refine Kd.R_lit Kd.string _ 9 ?hg (N := 12) ?hd (xs := ([(⟨#[116, 101, 120, 116, 97, 114, 101, 97, 32, 116, 105, 116, 108, 101]⟩ : ByteArray)] : List ByteArray)) (inner := [.string (⟨#[116, 101, 120, 116, 97, 114, 101, 97, 32, 116, 105, 116, 108, 101]⟩ : ByteArray)]) (ok := fun _ => True) (okp := fun _ => True) ?hr ?hp (fun _ hk => hk) trivial (Below.refl _ _) (Nat.le_refl _) (by simp) ?_; (case hd => rfl); (case hg => rfl); (case hr => first | (go_simp; done) | (go_simp; rfl)); (case hp => exact (Reps.one (show Kd.M Kd.string _ _ _ (⟨#[116, 101, 120, 116, 97, 114, 101, 97, 32, 116, 105, 116, 108, 101]⟩ : ByteArray) [.string (⟨#[116, 101, 120, 116, 97, 114, 101, 97, 32, 116, 105, 116, 108, 101]⟩ : ByteArray)] from rfl) (Reps.none _ _))); intro v205 w9 ho10 hb hg_ hnew_; clear hg_ hnew_; (first | rw [← Ny204.out] at ho10 | (simp only [Int.reduceToNat] at ho10; rw [← Ny204.out] at ho10)); have n0_ := Aside0.mk (Kd.R_lower ho10 (below_size (by repeat (first | (with_reducible first | exact HB.out | apply below_alloc | apply pw_below_drewN | apply below_drew1) | exact HB.out)))); have n1_ := Aside0.mk (below_step (by repeat (first | (with_reducible first | exact HB.out | apply below_alloc | apply pw_below_drewN | apply below_drew1) | exact HB.out)) hb); clear HB; have HO206 := n0_; have HB := n1_; clear n0_ n1_; clear hb ho10))
        go_ret
        exact ⟨_, by first | rfl | (simp [errW_none, errW_some] <;> rfl) | (simp [*, errW_none, errW_some] <;> rfl), by (with_reducible repeat (first | apply Kd.R_alloc | apply Kd.R_drewN | apply Kd.R_drew)); exact HO206.out, by repeat (first | (with_reducible first | exact HB.out | apply below_alloc | apply pw_below_drewN | apply below_drew1) | exact HB.out)⟩
      · rw [if_neg c8] at H
        have c8b0 : (a0 == 3) = false := beq_eq_false_iff_ne.mpr c8
        have c8b1 : (a0 != 3) = true := bne_iff_ne.mpr c8
        by_cases c11 : a0 = 5
        · rw [if_pos c11] at H
          have c11b0 : (a0 == 5) = true := beq_iff_eq.mpr c11
          have c11b1 : (a0 != 5) = false := bne_eq_false_iff_eq.mpr c11
          clear c11
          obtain ⟨y207, hy207⟩ : ∃ y_ : List ByteArray, y_ = (([(⟨#[97, 32, 98, 32, 98, 105, 103, 32, 99, 111, 100, 101, 32, 101, 109, 32, 102, 111, 110, 116, 32, 105, 32, 110, 111, 98, 114, 32, 115, 32, 115, 109, 97, 108, 108, 32, 115, 116, 114, 105, 107, 101, 32, 115, 116, 114, 111, 110, 103, 32, 116, 116, 32, 117]⟩ : ByteArray)] : List ByteArray)) := ⟨_, rfl⟩
          replace H : (some y207) = some r := by first | (rw [hy207]; with_reducible exact H) | (have H2_ := (Option.bind_some _ _).symm.trans H; rw [hy207]; with_reducible exact H2_) | (have H2_ := (Option.bind_some _ _).symm.trans H; with_reducible exact H2_) | with_reducible exact H | (rw [hy207]; exact H) | exact H
          have Ny207 := Aside0.mk hy207
          clear hy207
          obtain rfl := Option.some.inj H
          go_enter Try.func31, Try.ntmps31
          go_wp2_with (first | ((with_reducible refine gate_dst (N := 15) rfl ?_); refine Kd.R_lit Kd.string _ 9 ?hg (N := 15) ?hd (xs := ([(⟨#[97, 32, 98, 32, 98, 105, 103, 32, 99, 111, 100, 101, 32, 101, 109, 32, 102, 111, 110, 116, 32, 105, 32, 110, 111, 98, 114, 32, 115, 32, 115, 109, 97, 108, 108, 32, 115, 116, 114, 105, 107, 101, 32, 115, 116, 114, 111, 110, 103, 32, 116, 116, 32, 117]⟩ : ByteArray)] : List ByteArray)) (inner := [.string (⟨#[97, 32, 98, 32, 98, 105, 103, 32, 99, 111, 100, 101, 32, 101, 109, 32, 102, 111, 110, 116, 32, 105, 32, 110, 111, 98, 114, 32, 115, 32, 115, 109, 97, 108, 108, 32, 115, 116, 114, 105, 107, 101, 32, 115, 116, 114, 111, 110, 103, 32, 116, 116, 32, 117]⟩ : ByteArray)]) (ok := fun _ => True) (okp := fun _ => True) ?hr ?hp (fun _ hk => hk) trivial (Below.refl _ _) (Nat.le_refl _) (by simp) ?_; (case hd => rfl); (case hg => rfl); (case hr => first | (go_simp; done) | (go_simp; rfl)); (case hp => exact (Reps.one (show Kd.M Kd.string _ _ _ (⟨#[97, 32, 98, 32, 98, 105, 103, 32, 99, 111, 100, 101, 32, 101, 109, 32, 102, 111, 110, 116, 32, 105, 32, 110, 111, 98, 114, 32, 115, 32, 115, 109, 97, 108, 108, 32, 115, 116, 114, 105, 107, 101, 32, 115, 116, 114, 111, 110, 103, 32, 116, 116, 32, 117]⟩ : ByteArray) [.string (⟨#[97, 32, 98, 32, 98, 105, 103, 32, 99, 111, 100, 101, 32, 101, 109, 32, 102, 111, 110, 116, 32, 105, 32, 110, 111, 98, 114, 32, 115, 32, 115, 109, 97, 108, 108, 32, 115, 116, 114, 105, 107, 101, 32, 115, 116, 114, 111, 110, 103, 32, 116, 116, 32, 117]⟩ : ByteArray)] from rfl) (Reps.none _ _))); intro v208 w12 ho13 hb hg_ hnew_; clear hg_ hnew_; (first | rw [← Ny207.out] at ho13 | (simp only [Int.reduceToNat] at ho13; rw [← Ny207.out] at ho13)); have n0_ := Aside0.mk (Kd.R_lower ho13 (below_size (by repeat (first | (with_reducible first | exact HB.out | apply below_alloc | apply pw_below_drewN | apply below_drew1) | exact HB.out)))); have n1_ := Aside0.mk (below_step (by repeat (first | (with_reducible first | exact HB.out | apply below_alloc | apply pw_below_drewN | apply below_drew1) | exact HB.out)) hb); clear HB; have HO209 := n0_; have HB := n1_; clear n0_ n1_; clear hb ho13))
          go_ret
          exact ⟨_, by first | rfl | (simp [errW_none, errW_some] <;> rfl) | (simp [*, errW_none, errW_some] <;> rfl), by (with_reducible repeat (first | apply Kd.R_alloc | apply Kd.R_drewN | apply Kd.R_drew)); exact HO209.out, by repeat (first | (with_reducible first | exact HB.out | apply below_alloc | apply pw_below_drewN | apply below_drew1) | exact HB.out)⟩
        · rw [if_neg c11] at H
          have c11b0 : (a0 == 5) = false := beq_eq_false_iff_ne.mpr c11
          have c11b1 : (a0 != 5) = true := bne_iff_ne.mpr c11
          by_cases c14 : a0 = 7
          · rw [if_pos c14] at H
            have c14b0 : (a0 == 7) = true := beq_iff_eq.mpr c14
            have c14b1 : (a0 != 7) = false := bne_eq_false_iff_eq.mpr c14
            clear c14
            obtain ⟨y210, hy210⟩ : ∃ y_ : List ByteArray, y_ = (([(⟨#[104, 49, 32, 104, 50, 32, 104, 51, 32, 104, 52, 32, 104, 53, 32, 104, 54]⟩ : ByteArray)] : List ByteArray)) := ⟨_, rfl⟩
            replace H : (some y210) = some r := by first | (rw [hy210]; with_reducible exact H) | (have H2_ := (Option.bind_some _ _).symm.trans H; rw [hy210]; with_reducible exact H2_) | (have H2_ := (Option.bind_some _ _).symm.trans H; with_reducible exact H2_) | with_reducible exact H | (rw [hy210]; exact H) | exact H
            have Ny210 := Aside0.mk hy210
            clear hy210
            obtain rfl := Option.some.inj H
            go_enter Try.func31, Try.ntmps31
            go_wp2_with (first | ((with_reducible refine gate_dst (N := 18) rfl ?_); refine Kd.R_lit Kd.string _ 9 ?hg (N := 18) ?hd (xs := ([(⟨#[104, 49, 32, 104, 50, 32, 104, 51, 32, 104, 52, 32, 104, 53, 32, 104, 54]⟩ : ByteArray)] : List ByteArray)) (inner := [.string (⟨#[104, 49, 32, 104, 50, 32, 104, 51, 32, 104, 52, 32, 104, 53, 32, 104, 54]⟩ : ByteArray)]) (ok := fun _ => True) (okp := fun _ => True) ?hr ?hp (fun _ hk => hk) trivial (Below.refl _ _) (Nat.le_refl _) (by simp) ?_; (case hd => rfl); (case hg => rfl); (case hr => first | (go_simp; done) | (go_simp; rfl)); (case hp => exact (Reps.one (show Kd.M Kd.string _ _ _ (⟨#[104, 49, 32, 104, 50, 32, 104, 51, 32, 104, 52, 32, 104, 53, 32, 104, 54]⟩ : ByteArray) [.string (⟨#[104, 49, 32, 104, 50, 32, 104, 51, 32, 104, 52, 32, 104, 53, 32, 104, 54]⟩ : ByteArray)] from rfl) (Reps.none _ _))); intro v211 w15 ho16 hb hg_ hnew_; clear hg_ hnew_; (first | rw [← Ny210.out] at ho16 | (simp only [Int.reduceToNat] at ho16; rw [← Ny210.out] at ho16)); have n0_ := Aside0.mk (Kd.R_lower ho16 (below_size (by repeat (first | (with_reducible first | exact HB.out | apply below_alloc | apply pw_below_drewN | apply below_drew1) | exact HB.out)))); have n1_ := Aside0.mk (below_step (by repeat (first | (with_reducible first | exact HB.out | apply below_alloc | apply pw_below_drewN | apply below_drew1) | exact HB.out)) hb); clear HB; have HO212 := n0_; have HB := n1_; clear n0_ n1_; clear hb ho16))
            go_ret
            exact ⟨_, by first | rfl | (simp [errW_none, errW_some] <;> rfl) | (simp [*, errW_none, errW_some] <;> rfl), by (with_reducible repeat (first | apply Kd.R_alloc | apply Kd.R_drewN | apply Kd.R_drew)); exact HO212.out, by repeat (first | (with_reducible first | exact HB.out | apply below_alloc | apply pw_below_drewN | apply below_drew1) | exact HB.out)⟩
          · rw [if_neg c14] at H
            have c14b0 : (a0 == 7) = false := beq_eq_false_iff_ne.mpr c14
            have c14b1 : (a0 != 7) = true := bne_iff_ne.mpr c14
            by_cases c17 : a0 = 6
            · rw [if_pos c17] at H
              have c17b0 : (a0 == 6) = true := beq_iff_eq.mpr c17
              have c17b1 : (a0 != 6) = false := bne_eq_false_iff_eq.mpr c17
              clear c17
              obtain ⟨y213, hy213⟩ : ∃ y_ : List ByteArray, y_ = (([(⟨#[97, 100, 100, 114, 101, 115, 115, 32, 97, 114, 116, 105, 99, 108, 101, 32, 97, 115, 105, 100, 101, 32, 98, 108, 111, 99, 107, 113, 117, 111, 116, 101, 32, 99, 101, 110, 116, 101, 114, 32, 100, 101, 116, 97, 105, 108, 115, 32, 100, 105, 97, 108, 111, 103, 32, 100, 105, 114, 32, 100, 105, 118, 32, 100, 108, 32, 102, 105, 101, 108, 100, 115, 101, 116, 32, 102, 105, 103, 99, 97, 112, 116, 105, 111, 110, 32, 102, 105, 103, 117, 114, 101, 32, 102, 111, 111, 116, 101, 114, 32, 104, 101, 97, 100, 101, 114, 32, 104, 103, 114, 111, 117, 112, 32, 109, 97, 105, 110, 32, 109, 101, 110, 117, 32, 110, 97, 118, 32, 111, 108, 32, 112, 32, 115, 101, 97, 114, 99, 104, 32, 115, 101, 99, 116, 105, 111, 110, 32, 115, 117, 109, 109, 97, 114, 121, 32, 117, 108]⟩ : ByteArray)] : List ByteArray)) := ⟨_, rfl⟩
              replace H : (some y213) = some r := by first | (rw [hy213]; with_reducible exact H) | (have H2_ := (Option.bind_some _ _).symm.trans H; rw [hy213]; with_reducible exact H2_) | (have H2_ := (Option.bind_some _ _).symm.trans H; with_reducible exact H2_) | with_reducible exact H | (rw [hy213]; exact H) | exact H
              have Ny213 := Aside0.mk hy213
              clear hy213
              obtain rfl := Option.some.inj H
              go_enter Try.func31, Try.ntmps31
              go_wp2_with (first | ((with_reducible refine gate_dst (N := 21) rfl ?_); refine Kd.R_lit Kd.string _ 9 ?hg (N := 21) ?hd (xs := ([(⟨#[97, 100, 100, 114, 101, 115, 115, 32, 97, 114, 116, 105, 99, 108, 101, 32, 97, 115, 105, 100, 101, 32, 98, 108, 111, 99, 107, 113, 117, 111, 116, 101, 32, 99, 101, 110, 116, 101, 114, 32, 100, 101, 116, 97, 105, 108, 115, 32, 100, 105, 97, 108, 111, 103, 32, 100, 105, 114, 32, 100, 105, 118, 32, 100, 108, 32, 102, 105, 101, 108, 100, 115, 101, 116, 32, 102, 105, 103, 99, 97, 112, 116, 105, 111, 110, 32, 102, 105, 103, 117, 114, 101, 32, 102, 111, 111, 116, 101, 114, 32, 104, 101, 97, 100, 101, 114, 32, 104, 103, 114, 111, 117, 112, 32, 109, 97, 105, 110, 32, 109, 101, 110, 117, 32, 110, 97, 118, 32, 111, 108, 32, 112, 32, 115, 101, 97, 114, 99, 104, 32, 115, 101, 99, 116, 105, 111, 110, 32, 115, 117, 109, 109, 97, 114, 121, 32, 117, 108]⟩ : ByteArray)] : List ByteArray)) (inner := [.string (⟨#[97, 100, 100, 114, 101, 115, 115, 32, 97, 114, 116, 105, 99, 108, 101, 32, 97, 115, 105, 100, 101, 32, 98, 108, 111, 99, 107, 113, 117, 111, 116, 101, 32, 99, 101, 110, 116, 101, 114, 32, 100, 101, 116, 97, 105, 108, 115, 32, 100, 105, 97, 108, 111, 103, 32, 100, 105, 114, 32, 100, 105, 118, 32, 100, 108, 32, 102, 105, 101, 108, 100, 115, 101, 116, 32, 102, 105, 103, 99, 97, 112, 116, 105, 111, 110, 32, 102, 105, 103, 117, 114, 101, 32, 102, 111, 111, 116, 101, 114, 32, 104, 101, 97, 100, 101, 114, 32, 104, 103, 114, 111, 117, 112, 32, 109, 97, 105, 110, 32, 109, 101, 110, 117, 32, 110, 97, 118, 32, 111, 108, 32, 112, 32, 115, 101, 97, 114, 99, 104, 32, 115, 101, 99, 116, 105, 111, 110, 32, 115, 117, 109, 109, 97, 114, 121, 32, 117, 108]⟩ : ByteArray)]) (ok := fun _ => True) (okp := fun _ => True) ?hr ?hp (fun _ hk => hk) trivial (Below.refl _ _) (Nat.le_refl _) (by simp) ?_; (case hd => rfl); (case hg => rfl); (case hr => first | (go_simp; done) | (go_simp; rfl)); (case hp => exact (Reps.one (show Kd.M Kd.string _ _ _ (⟨#[97, 100, 100, 114, 101, 115, 115, 32, 97, 114, 116, 105, 99, 108, 101, 32, 97, 115, 105, 100, 101, 32, 98, 108, 111, 99, 107, 113, 117, 111, 116, 101, 32, 99, 101, 110, 116, 101, 114, 32, 100, 101, 116, 97, 105, 108, 115, 32, 100, 105, 97, 108, 111, 103, 32, 100, 105, 114, 32, 100, 105, 118, 32, 100, 108, 32, 102, 105, 101, 108, 100, 115, 101, 116, 32, 102, 105, 103, 99, 97, 112, 116, 105, 111, 110, 32, 102, 105, 103, 117, 114, 101, 32, 102, 111, 111, 116, 101, 114, 32, 104, 101, 97, 100, 101, 114, 32, 104, 103, 114, 111, 117, 112, 32, 109, 97, 105, 110, 32, 109, 101, 110, 117, 32, 110, 97, 118, 32, 111, 108, 32, 112, 32, 115, 101, 97, 114, 99, 104, 32, 115, 101, 99, 116, 105, 111, 110, 32, 115, 117, 109, 109, 97, 114, 121, 32, 117, 108]⟩ : ByteArray) [.string (⟨#[97, 100, 100, 114, 101, 115, 115, 32, 97, 114, 116, 105, 99, 108, 101, 32, 97, 115, 105, 100, 101, 32, 98, 108, 111, 99, 107, 113, 117, 111, 116, 101, 32, 99, 101, 110, 116, 101, 114, 32, 100, 101, 116, 97, 105, 108, 115, 32, 100, 105, 97, 108, 111, 103, 32, 100, 105, 114, 32, 100, 105, 118, 32, 100, 108, 32, 102, 105, 101, 108, 100, 115, 101, 116, 32, 102, 105, 103, 99, 97, 112, 116, 105, 111, 110, 32, 102, 105, 103, 117, 114, 101, 32, 102, 111, 111, 116, 101, 114, 32, 104, 101, 97, 100, 101, 114, 32, 104, 103, 114, 111, 117, 112, 32, 109, 97, 105, 110, 32, 109, 101, 110, 117, 32, 110, 97, 118, 32, 111, 108, 32, 112, 32, 115, 101, 97, 114, 99, 104, 32, 115, 101, 99, 116, 105, 111, 110, 32, 115, 117, 109, 109, 97, 114, 121, 32, 117, 108]⟩ : ByteArray)] from rfl) (Reps.none _ _))); intro v214 w18 ho19 hb hg_ hnew_; clear hg_ hnew_; (first | rw [← Ny213.out] at ho19 | (simp only [Int.reduceToNat] at ho19; rw [← Ny213.out] at ho19)); have n0_ := Aside0.mk (Kd.R_lower ho19 (below_size (by repeat (first | (with_reducible first | exact HB.out | apply below_alloc | apply pw_below_drewN | apply below_drew1) | exact HB.out)))); have n1_ := Aside0.mk (below_step (by repeat (first | (with_reducible first | exact HB.out | apply below_alloc | apply pw_below_drewN | apply below_drew1) | exact HB.out)) hb); clear HB; have HO215 := n0_; have HB := n1_; clear n0_ n1_; clear hb ho19))
              go_ret
              exact ⟨_, by first | rfl | (simp [errW_none, errW_some] <;> rfl) | (simp [*, errW_none, errW_some] <;> rfl), by (with_reducible repeat (first | apply Kd.R_alloc | apply Kd.R_drewN | apply Kd.R_drew)); exact HO215.out, by repeat (first | (with_reducible first | exact HB.out | apply below_alloc | apply pw_below_drewN | apply below_drew1) | exact HB.out)⟩
            · rw [if_neg c17] at H
              have c17b0 : (a0 == 6) = false := beq_eq_false_iff_ne.mpr c17
              have c17b1 : (a0 != 6) = true := bne_iff_ne.mpr c17
              by_cases c20 : a0 = 8
              · rw [if_pos c20] at H
                have c20b0 : (a0 == 8) = true := beq_iff_eq.mpr c20
                have c20b1 : (a0 != 8) = false := bne_eq_false_iff_eq.mpr c20
                clear c20
                obtain ⟨y216, hy216⟩ : ∃ y_ : List ByteArray, y_ = (([(⟨#[100, 100, 32, 100, 116, 32, 108, 105, 32, 111, 112, 116, 103, 114, 111, 117, 112, 32, 111, 112, 116, 105, 111, 110, 32, 112, 32, 114, 98, 32, 114, 112, 32, 114, 116, 32, 114, 116, 99]⟩ : ByteArray)] : List ByteArray)) := ⟨_, rfl⟩
                replace H : (some y216) = some r := by first | (rw [hy216]; with_reducible exact H) | (have H2_ := (Option.bind_some _ _).symm.trans H; rw [hy216]; with_reducible exact H2_) | (have H2_ := (Option.bind_some _ _).symm.trans H; with_reducible exact H2_) | with_reducible exact H | (rw [hy216]; exact H) | exact H
                have Ny216 := Aside0.mk hy216
                clear hy216
                obtain rfl := Option.some.inj H
                go_enter Try.func31, Try.ntmps31
                go_wp2_with (first | ((with_reducible refine gate_dst (N := 24) rfl ?_); refine Kd.R_lit Kd.string _ 9 ?hg (N := 24) ?hd (xs := ([(⟨#[100, 100, 32, 100, 116, 32, 108, 105, 32, 111, 112, 116, 103, 114, 111, 117, 112, 32, 111, 112, 116, 105, 111, 110, 32, 112, 32, 114, 98, 32, 114, 112, 32, 114, 116, 32, 114, 116, 99]⟩ : ByteArray)] : List ByteArray)) (inner := [.string (⟨#[100, 100, 32, 100, 116, 32, 108, 105, 32, 111, 112, 116, 103, 114, 111, 117, 112, 32, 111, 112, 116, 105, 111, 110, 32, 112, 32, 114, 98, 32, 114, 112, 32, 114, 116, 32, 114, 116, 99]⟩ : ByteArray)]) (ok := fun _ => True) (okp := fun _ => True) ?hr ?hp (fun _ hk => hk) trivial (Below.refl _ _) (Nat.le_refl _) (by simp) ?_; (case hd => rfl); (case hg => rfl); (case hr => first | (go_simp; done) | (go_simp; rfl)); (case hp => exact (Reps.one (show Kd.M Kd.string _ _ _ (⟨#[100, 100, 32, 100, 116, 32, 108, 105, 32, 111, 112, 116, 103, 114, 111, 117, 112, 32, 111, 112, 116, 105, 111, 110, 32, 112, 32, 114, 98, 32, 114, 112, 32, 114, 116, 32, 114, 116, 99]⟩ : ByteArray) [.string (⟨#[100, 100, 32, 100, 116, 32, 108, 105, 32, 111, 112, 116, 103, 114, 111, 117, 112, 32, 111, 112, 116, 105, 111, 110, 32, 112, 32, 114, 98, 32, 114, 112, 32, 114, 116, 32, 114, 116, 99]⟩ : ByteArray)] from rfl) (Reps.none _ _))); intro v217 w21 ho22 hb hg_ hnew_; clear hg_ hnew_; (first | rw [← Ny216.out] at ho22 | (simp only [Int.reduceToNat] at ho22; rw [← Ny216.out] at ho22)); have n0_ := Aside0.mk (Kd.R_lower ho22 (below_size (by repeat (first | (with_reducible first | exact HB.out | apply below_alloc | apply pw_below_drewN | apply below_drew1) | exact HB.out)))); have n1_ := Aside0.mk (below_step (by repeat (first | (with_reducible first | exact HB.out | apply below_alloc | apply pw_below_drewN | apply below_drew1) | exact HB.out)) hb); clear HB; have HO218 := n0_; have HB := n1_; clear n0_ n1_; clear hb ho22))
                go_ret
                exact ⟨_, by first | rfl | (simp [errW_none, errW_some] <;> rfl) | (simp [*, errW_none, errW_some] <;> rfl), by (with_reducible repeat (first | apply Kd.R_alloc | apply Kd.R_drewN | apply Kd.R_drew)); exact HO218.out, by repeat (first | (with_reducible first | exact HB.out | apply below_alloc | apply pw_below_drewN | apply below_drew1) | exact HB.out)⟩
              · rw [if_neg c20] at H
                have c20b0 : (a0 == 8) = false := beq_eq_false_iff_ne.mpr c20
                have c20b1 : (a0 != 8) = true := bne_iff_ne.mpr c20
                by_cases c23 : a0 = 9
                · rw [if_pos c23] at H
                  have c23b0 : (a0 == 9) = true := beq_iff_eq.mpr c23
                  have c23b1 : (a0 != 9) = false := bne_eq_false_iff_eq.mpr c23
                  clear c23
                  obtain ⟨y219, hy219⟩ : ∃ y_ : List ByteArray, y_ = (([(⟨#[99, 97, 112, 116, 105, 111, 110, 32, 99, 111, 108, 32, 99, 111, 108, 103, 114, 111, 117, 112, 32, 116, 98, 111, 100, 121, 32, 116, 100, 32, 116, 102, 111, 111, 116, 32, 116, 104, 32, 116, 104, 101, 97, 100, 32, 116, 114]⟩ : ByteArray)] : List ByteArray)) := ⟨_, rfl⟩
                  replace H : (some y219) = some r := by first | (rw [hy219]; with_reducible exact H) | (have H2_ := (Option.bind_some _ _).symm.trans H; rw [hy219]; with_reducible exact H2_) | (have H2_ := (Option.bind_some _ _).symm.trans H; with_reducible exact H2_) | with_reducible exact H | (rw [hy219]; exact H) | exact H
                  have Ny219 := Aside0.mk hy219
                  clear hy219
                  obtain rfl := Option.some.inj H
                  go_enter Try.func31, Try.ntmps31
                  go_wp2_with (first | ((with_reducible refine gate_dst (N := 27) rfl ?_); refine Kd.R_lit Kd.string _ 9 ?hg (N := 27) ?hd (xs := ([(⟨#[99, 97, 112, 116, 105, 111, 110, 32, 99, 111, 108, 32, 99, 111, 108, 103, 114, 111, 117, 112, 32, 116, 98, 111, 100, 121, 32, 116, 100, 32, 116, 102, 111, 111, 116, 32, 116, 104, 32, 116, 104, 101, 97, 100, 32, 116, 114]⟩ : ByteArray)] : List ByteArray)) (inner := [.string (⟨#[99, 97, 112, 116, 105, 111, 110, 32, 99, 111, 108, 32, 99, 111, 108, 103, 114, 111, 117, 112, 32, 116, 98, 111, 100, 121, 32, 116, 100, 32, 116, 102, 111, 111, 116, 32, 116, 104, 32, 116, 104, 101, 97, 100, 32, 116, 114]⟩ : ByteArray)]) (ok := fun _ => True) (okp := fun _ => True) ?hr ?hp (fun _ hk => hk) trivial (Below.refl _ _) (Nat.le_refl _) (by simp) ?_; (case hd => rfl); (case hg => rfl); (case hr => first | (go_simp; done) | (go_simp; rfl)); (case hp => exact (Reps.one (show Kd.M Kd.string _ _ _ (⟨#[99, 97, 112, 116, 105, 111, 110, 32, 99, 111, 108, 32, 99, 111, 108, 103, 114, 111, 117, 112, 32, 116, 98, 111, 100, 121, 32, 116, 100, 32, 116, 102, 111, 111, 116, 32, 116, 104, 32, 116, 104, 101, 97, 100, 32, 116, 114]⟩ : ByteArray) [.string (⟨#[99, 97, 112, 116, 105, 111, 110, 32, 99, 111, 108, 32, 99, 111, 108, 103, 114, 111, 117, 112, 32, 116, 98, 111, 100, 121, 32, 116, 100, 32, 116, 102, 111, 111, 116, 32, 116, 104, 32, 116, 104, 101, 97, 100, 32, 116, 114]⟩ : ByteArray)] from rfl) (Reps.none _ _))); intro v220 w24 ho25 hb hg_ hnew_; clear hg_ hnew_; (first | rw [← Ny219.out] at ho25 | (simp only [Int.reduceToNat] at ho25; rw [← Ny219.out] at ho25)); have n0_ := Aside0.mk (Kd.R_lower ho25 (below_size (by repeat (first | (with_reducible first | exact HB.out | apply below_alloc | apply pw_below_drewN | apply below_drew1) | exact HB.out)))); have n1_ := Aside0.mk (below_step (by repeat (first | (with_reducible first | exact HB.out | apply below_alloc | apply pw_below_drewN | apply below_drew1) | exact HB.out)) hb); clear HB; have HO221 := n0_; have HB := n1_; clear n0_ n1_; clear hb ho25))
                  go_ret
                  exact ⟨_, by first | rfl | (simp [errW_none, errW_some] <;> rfl) | (simp [*, errW_none, errW_some] <;> rfl), by (with_reducible repeat (first | apply Kd.R_alloc | apply Kd.R_drewN | apply Kd.R_drew)); exact HO221.out, by repeat (first | (with_reducible first | exact HB.out | apply below_alloc | apply pw_below_drewN | apply below_drew1) | exact HB.out)⟩
                · rw [if_neg c23] at H
                  have c23b0 : (a0 == 9) = false := beq_eq_false_iff_ne.mpr c23
                  have c23b1 : (a0 != 9) = true := bne_iff_ne.mpr c23
                  by_cases c26 : a0 = 11
                  · rw [if_pos c26] at H
                    have c26b0 : (a0 == 11) = true := beq_iff_eq.mpr c26
                    have c26b1 : (a0 != 11) = false := bne_eq_false_iff_eq.mpr c26
                    clear c26
                    obtain ⟨y222, hy222⟩ : ∃ y_ : List ByteArray, y_ = (([(⟨#[97, 112, 112, 108, 101, 116, 32, 109, 97, 114, 113, 117, 101, 101, 32, 111, 98, 106, 101, 99, 116]⟩ : ByteArray)] : List ByteArray)) := ⟨_, rfl⟩
                    replace H : (some y222) = some r := by first | (rw [hy222]; with_reducible exact H) | (have H2_ := (Option.bind_some _ _).symm.trans H; rw [hy222]; with_reducible exact H2_) | (have H2_ := (Option.bind_some _ _).symm.trans H; with_reducible exact H2_) | with_reducible exact H | (rw [hy222]; exact H) | exact H
                    have Ny222 := Aside0.mk hy222
                    clear hy222
                    obtain rfl := Option.some.inj H
                    go_enter Try.func31, Try.ntmps31
                    go_wp2_with (first | ((with_reducible refine gate_dst (N := 30) rfl ?_); refine Kd.R_lit Kd.string _ 9 ?hg (N := 30) ?hd (xs := ([(⟨#[97, 112, 112, 108, 101, 116, 32, 109, 97, 114, 113, 117, 101, 101, 32, 111, 98, 106, 101, 99, 116]⟩ : ByteArray)] : List ByteArray)) (inner := [.string (⟨#[97, 112, 112, 108, 101, 116, 32, 109, 97, 114, 113, 117, 101, 101, 32, 111, 98, 106, 101, 99, 116]⟩ : ByteArray)]) (ok := fun _ => True) (okp := fun _ => True) ?hr ?hp (fun _ hk => hk) trivial (Below.refl _ _) (Nat.le_refl _) (by simp) ?_; (case hd => rfl); (case hg => rfl); (case hr => first | (go_simp; done) | (go_simp; rfl)); (case hp => exact (Reps.one (show Kd.M Kd.string _ _ _ (⟨#[97, 112, 112, 108, 101, 116, 32, 109, 97, 114, 113, 117, 101, 101, 32, 111, 98, 106, 101, 99, 116]⟩ : ByteArray) [.string (⟨#[97, 112, 112, 108, 101, 116, 32, 109, 97, 114, 113, 117, 101, 101, 32, 111, 98, 106, 101, 99, 116]⟩ : ByteArray)] from rfl) (Reps.none _ _))); intro v223 w27 ho28 hb hg_ hnew_; clear hg_ hnew_; (first | rw [← Ny222.out] at ho28 | (simp only [Int.reduceToNat] at ho28; rw [← Ny222.out] at ho28)); have n0_ := Aside0.mk (Kd.R_lower ho28 (below_size (by repeat (first | (with_reducible first | exact HB.out | apply below_alloc | apply pw_below_drewN | apply below_drew1) | exact HB.out)))); have n1_ := Aside0.mk (below_step (by repeat (first | (with_reducible first | exact HB.out | apply below_alloc | apply pw_below_drewN | apply below_drew1) | exact HB.out)) hb); clear HB; have HO224 := n0_; have HB := n1_; clear n0_ n1_; clear hb ho28))
                    go_ret
                    exact ⟨_, by first | rfl | (simp [errW_none, errW_some] <;> rfl) | (simp [*, errW_none, errW_some] <;> rfl), by (with_reducible repeat (first | apply Kd.R_alloc | apply Kd.R_drewN | apply Kd.R_drew)); exact HO224.out, by repeat (first | (with_reducible first | exact HB.out | apply below_alloc | apply pw_below_drewN | apply below_drew1) | exact HB.out)⟩
                  · rw [if_neg c26] at H
                    have c26b0 : (a0 == 11) = false := beq_eq_false_iff_ne.mpr c26
                    have c26b1 : (a0 != 11) = true := bne_iff_ne.mpr c26
                    by_cases c29 : a0 = 12
                    · rw [if_pos c29] at H
                      have c29b0 : (a0 == 12) = true := beq_iff_eq.mpr c29
                      have c29b1 : (a0 != 12) = false := bne_eq_false_iff_eq.mpr c29
                      clear c29
                      obtain ⟨y225, hy225⟩ : ∃ y_ : List ByteArray, y_ = (([(⟨#[98, 111, 100, 121, 32, 102, 114, 97, 109, 101, 32, 102, 114, 97, 109, 101, 115, 101, 116, 32, 104, 101, 97, 100, 32, 104, 116, 109, 108]⟩ : ByteArray), (⟨#[99, 97, 112, 116, 105, 111, 110, 32, 99, 111, 108, 32, 99, 111, 108, 103, 114, 111, 117, 112, 32, 116, 98, 111, 100, 121, 32, 116, 100, 32, 116, 102, 111, 111, 116, 32, 116, 104, 32, 116, 104, 101, 97, 100, 32, 116, 114]⟩ : ByteArray)] : List ByteArray)) := ⟨_, rfl⟩
                      replace H : (some y225) = some r := by first | (rw [hy225]; with_reducible exact H) | (have H2_ := (Option.bind_some _ _).symm.trans H; rw [hy225]; with_reducible exact H2_) | (have H2_ := (Option.bind_some _ _).symm.trans H; with_reducible exact H2_) | with_reducible exact H | (rw [hy225]; exact H) | exact H
                      have Ny225 := Aside0.mk hy225
                      clear hy225
                      obtain rfl := Option.some.inj H
                      go_enter Try.func31, Try.ntmps31
                      go_wp2_with (first | ((with_reducible refine gate_dst (N := 33) rfl ?_); refine Kd.R_lit Kd.string _ 9 ?hg (N := 33) ?hd (xs := ([(⟨#[98, 111, 100, 121, 32, 102, 114, 97, 109, 101, 32, 102, 114, 97, 109, 101, 115, 101, 116, 32, 104, 101, 97, 100, 32, 104, 116, 109, 108]⟩ : ByteArray), (⟨#[99, 97, 112, 116, 105, 111, 110, 32, 99, 111, 108, 32, 99, 111, 108, 103, 114, 111, 117, 112, 32, 116, 98, 111, 100, 121, 32, 116, 100, 32, 116, 102, 111, 111, 116, 32, 116, 104, 32, 116, 104, 101, 97, 100, 32, 116, 114]⟩ : ByteArray)] : List ByteArray)) (inner := [.string (⟨#[98, 111, 100, 121, 32, 102, 114, 97, 109, 101, 32, 102, 114, 97, 109, 101, 115, 101, 116, 32, 104, 101, 97, 100, 32, 104, 116, 109, 108]⟩ : ByteArray), .string (⟨#[99, 97, 112, 116, 105, 111, 110, 32, 99, 111, 108, 32, 99, 111, 108, 103, 114, 111, 117, 112, 32, 116, 98, 111, 100, 121, 32, 116, 100, 32, 116, 102, 111, 111, 116, 32, 116, 104, 32, 116, 104, 101, 97, 100, 32, 116, 114]⟩ : ByteArray)]) (ok := fun _ => True) (okp := fun _ => True) ?hr ?hp (fun _ hk => hk) trivial (Below.refl _ _) (Nat.le_refl _) (by simp) ?_; (case hd => rfl); (case hg => rfl); (case hr => first | (go_simp; done) | (go_simp; rfl)); (case hp => exact (Reps.one (show Kd.M Kd.string _ _ _ (⟨#[98, 111, 100, 121, 32, 102, 114, 97, 109, 101, 32, 102, 114, 97, 109, 101, 115, 101, 116, 32, 104, 101, 97, 100, 32, 104, 116, 109, 108]⟩ : ByteArray) [.string (⟨#[98, 111, 100, 121, 32, 102, 114, 97, 109, 101, 32, 102, 114, 97, 109, 101, 115, 101, 116, 32, 104, 101, 97, 100, 32, 104, 116, 109, 108]⟩ : ByteArray)] from rfl) (Reps.one (show Kd.M Kd.string _ _ _ (⟨#[99, 97, 112, 116, 105, 111, 110, 32, 99, 111, 108, 32, 99, 111, 108, 103, 114, 111, 117, 112, 32, 116, 98, 111, 100, 121, 32, 116, 100, 32, 116, 102, 111, 111, 116, 32, 116, 104, 32, 116, 104, 101, 97, 100, 32, 116, 114]⟩ : ByteArray) [.string (⟨#[99, 97, 112, 116, 105, 111, 110, 32, 99, 111, 108, 32, 99, 111, 108, 103, 114, 111, 117, 112, 32, 116, 98, 111, 100, 121, 32, 116, 100, 32, 116, 102, 111, 111, 116, 32, 116, 104, 32, 116, 104, 101, 97, 100, 32, 116, 114]⟩ : ByteArray)] from rfl) (Reps.none _ _)))); intro v226 w30 ho31 hb hg_ hnew_; clear hg_ hnew_; (first | rw [← Ny225.out] at ho31 | (simp only [Int.reduceToNat] at ho31; rw [← Ny225.out] at ho31)); have n0_ := Aside0.mk (Kd.R_lower ho31 (below_size (by repeat (first | (with_reducible first | exact HB.out | apply below_alloc | apply pw_below_drewN | apply below_drew1) | exact HB.out)))); have n1_ := Aside0.mk (below_step (by repeat (first | (with_reducible first | exact HB.out | apply below_alloc | apply pw_below_drewN | apply below_drew1) | exact HB.out)) hb); clear HB; have HO227 := n0_; have HB := n1_; clear n0_ n1_; clear hb ho31))
                      go_ret
                      exact ⟨_, by first | rfl | (simp [errW_none, errW_some] <;> rfl) | (simp [*, errW_none, errW_some] <;> rfl), by (with_reducible repeat (first | apply Kd.R_alloc | apply Kd.R_drewN | apply Kd.R_drew)); exact HO227.out, by repeat (first | (with_reducible first | exact HB.out | apply below_alloc | apply pw_below_drewN | apply below_drew1) | exact HB.out)⟩
                    · rw [if_neg c29] at H
                      have c29b0 : (a0 == 12) = false := beq_eq_false_iff_ne.mpr c29
                      have c29b1 : (a0 != 12) = true := bne_iff_ne.mpr c29
                      by_cases c32 : a0 = 10
                      · rw [if_pos c32] at H
                        have c32b0 : (a0 == 10) = true := beq_iff_eq.mpr c32
                        have c32b1 : (a0 != 10) = false := bne_eq_false_iff_eq.mpr c32
                        clear c32
                        obtain ⟨y228, hy228⟩ : ∃ y_ : List ByteArray, y_ = (([(⟨#[98, 32, 98, 105, 103, 32, 98, 108, 111, 99, 107, 113, 117, 111, 116, 101, 32, 98, 111, 100, 121, 32, 98, 114, 32, 99, 101, 110, 116, 101, 114, 32, 99, 111, 100, 101, 32, 100, 100, 32, 100, 105, 118, 32, 100, 108, 32, 100, 116, 32, 101, 109, 32, 101, 109, 98, 101, 100, 32, 104, 49, 32, 104, 50, 32, 104, 51, 32, 104, 52, 32, 104, 53, 32, 104, 54, 32, 104, 101, 97, 100, 32, 104, 114, 32, 105, 32, 105, 109, 103, 32, 108, 105, 32, 108, 105, 115, 116, 105, 110, 103, 32, 109, 101, 110, 117, 32, 109, 101, 116, 97, 32, 110, 111, 98, 114, 32, 111, 108, 32, 112, 32, 112, 114, 101, 32, 114, 117, 98, 121, 32, 115, 32, 115, 109, 97, 108, 108, 32, 115, 112, 97, 110, 32, 115, 116, 114, 105, 107, 101, 32, 115, 116, 114, 111, 110, 103, 32, 115, 117, 98, 32, 115, 117, 112, 32, 116, 97, 98, 108, 101, 32, 116, 116, 32, 117, 32, 117, 108, 32, 118, 97, 114]⟩ : ByteArray)] : List ByteArray)) := ⟨_, rfl⟩
                        replace H : (some y228) = some r := by first | (rw [hy228]; with_reducible exact H) | (have H2_ := (Option.bind_some _ _).symm.trans H; rw [hy228]; with_reducible exact H2_) | (have H2_ := (Option.bind_some _ _).symm.trans H; with_reducible exact H2_) | with_reducible exact H | (rw [hy228]; exact H) | exact H
                        have Ny228 := Aside0.mk hy228
                        clear hy228
                        obtain rfl := Option.some.inj H
                        go_enter Try.func31, Try.ntmps31
                        go_wp2_with (first | ((with_reducible refine gate_dst (N := 36) rfl ?_); refine Kd.R_lit Kd.string _ 9 ?hg (N := 36) ?hd (xs := ([(⟨#[98, 32, 98, 105, 103, 32, 98, 108, 111, 99, 107, 113, 117, 111, 116, 101, 32, 98, 111, 100, 121, 32, 98, 114, 32, 99, 101, 110, 116, 101, 114, 32, 99, 111, 100, 101, 32, 100, 100, 32, 100, 105, 118, 32, 100, 108, 32, 100, 116, 32, 101, 109, 32, 101, 109, 98, 101, 100, 32, 104, 49, 32, 104, 50, 32, 104, 51, 32, 104, 52, 32, 104, 53, 32, 104, 54, 32, 104, 101, 97, 100, 32, 104, 114, 32, 105, 32, 105, 109, 103, 32, 108, 105, 32, 108, 105, 115, 116, 105, 110, 103, 32, 109, 101, 110, 117, 32, 109, 101, 116, 97, 32, 110, 111, 98, 114, 32, 111, 108, 32, 112, 32, 112, 114, 101, 32, 114, 117, 98, 121, 32, 115, 32, 115, 109, 97, 108, 108, 32, 115, 112, 97, 110, 32, 115, 116, 114, 105, 107, 101, 32, 115, 116, 114, 111, 110, 103, 32, 115, 117, 98, 32, 115, 117, 112, 32, 116, 97, 98, 108, 101, 32, 116, 116, 32, 117, 32, 117, 108, 32, 118, 97, 114]⟩ : ByteArray)] : List ByteArray)) (inner := [.string (⟨#[98, 32, 98, 105, 103, 32, 98, 108, 111, 99, 107, 113, 117, 111, 116, 101, 32, 98, 111, 100, 121, 32, 98, 114, 32, 99, 101, 110, 116, 101, 114, 32, 99, 111, 100, 101, 32, 100, 100, 32, 100, 105, 118, 32, 100, 108, 32, 100, 116, 32, 101, 109, 32, 101, 109, 98, 101, 100, 32, 104, 49, 32, 104, 50, 32, 104, 51, 32, 104, 52, 32, 104, 53, 32, 104, 54, 32, 104, 101, 97, 100, 32, 104, 114, 32, 105, 32, 105, 109, 103, 32, 108, 105, 32, 108, 105, 115, 116, 105, 110, 103, 32, 109, 101, 110, 117, 32, 109, 101, 116, 97, 32, 110, 111, 98, 114, 32, 111, 108, 32, 112, 32, 112, 114, 101, 32, 114, 117, 98, 121, 32, 115, 32, 115, 109, 97, 108, 108, 32, 115, 112, 97, 110, 32, 115, 116, 114, 105, 107, 101, 32, 115, 116, 114, 111, 110, 103, 32, 115, 117, 98, 32, 115, 117, 112, 32, 116, 97, 98, 108, 101, 32, 116, 116, 32, 117, 32, 117, 108, 32, 118, 97, 114]⟩ : ByteArray)]) (ok := fun _ => True) (okp := fun _ => True) ?hr ?hp (fun _ hk => hk) trivial (Below.refl _ _) (Nat.le_refl _) (by simp) ?_; (case hd => rfl); (case hg => rfl); (case hr => first | (go_simp; done) | (go_simp; rfl)); (case hp => exact (Reps.one (show Kd.M Kd.string _ _ _ (⟨#[98, 32, 98, 105, 103, 32, 98, 108, 111, 99, 107, 113, 117, 111, 116, 101, 32, 98, 111, 100, 121, 32, 98, 114, 32, 99, 101, 110, 116, 101, 114, 32, 99, 111, 100, 101, 32, 100, 100, 32, 100, 105, 118, 32, 100, 108, 32, 100, 116, 32, 101, 109, 32, 101, 109, 98, 101, 100, 32, 104, 49, 32, 104, 50, 32, 104, 51, 32, 104, 52, 32, 104, 53, 32, 104, 54, 32, 104, 101, 97, 100, 32, 104, 114, 32, 105, 32, 105, 109, 103, 32, 108, 105, 32, 108, 105, 115, 116, 105, 110, 103, 32, 109, 101, 110, 117, 32, 109, 101, 116, 97, 32, 110, 111, 98, 114, 32, 111, 108, 32, 112, 32, 112, 114, 101, 32, 114, 117, 98, 121, 32, 115, 32, 115, 109, 97, 108, 108, 32, 115, 112, 97, 110, 32, 115, 116, 114, 105, 107, 101, 32, 115, 116, 114, 111, 110, 103, 32, 115, 117, 98, 32, 115, 117, 112, 32, 116, 97, 98, 108, 101, 32, 116, 116, 32, 117, 32, 117, 108, 32, 118, 97, 114]⟩ : ByteArray) [.string (⟨#[98, 32, 98, 105, 103, 32, 98, 108, 111, 99, 107, 113, 117, 111, 116, 101, 32, 98, 111, 100, 121, 32, 98, 114, 32, 99, 101, 110, 116, 101, 114, 32, 99, 111, 100, 101, 32, 100, 100, 32, 100, 105, 118, 32, 100, 108, 32, 100, 116, 32, 101, 109, 32, 101, 109, 98, 101, 100, 32, 104, 49, 32, 104, 50, 32, 104, 51, 32, 104, 52, 32, 104, 53, 32, 104, 54, 32, 104, 101, 97, 100, 32, 104, 114, 32, 105, 32, 105, 109, 103, 32, 108, 105, 32, 108, 105, 115, 116, 105, 110, 103, 32, 109, 101, 110, 117, 32, 109, 101, 116, 97, 32, 110, 111, 98, 114, 32, 111, 108, 32, 112, 32, 112, 114, 101, 32, 114, 117, 98, 121, 32, 115, 32, 115, 109, 97, 108, 108, 32, 115, 112, 97, 110, 32, 115, 116, 114, 105, 107, 101, 32, 115, 116, 114, 111, 110, 103, 32, 115, 117, 98, 32, 115, 117, 112, 32, 116, 97, 98, 108, 101, 32, 116, 116, 32, 117, 32, 117, 108, 32, 118, 97, 114]⟩ : ByteArray)] from rfl) (Reps.none _ _))); intro v229 w33 ho34 hb hg_ hnew_; clear hg_ hnew_; (first | rw [← Ny228.out] at ho34 | (simp only [Int.reduceToNat] at ho34; rw [← Ny228.out] at ho34)); have n0_ := Aside0.mk (Kd.R_lower ho34 (below_size (by repeat (first | (with_reducible first | exact HB.out | apply below_alloc | apply pw_below_drewN | apply below_drew1) | exact HB.out)))); have n1_ := Aside0.mk (below_step (by repeat (first | (with_reducible first | exact HB.out | apply below_alloc | apply pw_below_drewN | apply below_drew1) | exact HB.out)) hb); clear HB; have HO230 := n0_; have HB := n1_; clear n0_ n1_; clear hb ho34))
                        go_ret
                        exact ⟨_, by first | rfl | (simp [errW_none, errW_some] <;> rfl) | (simp [*, errW_none, errW_some] <;> rfl), by (with_reducible repeat (first | apply Kd.R_alloc | apply Kd.R_drewN | apply Kd.R_drew)); exact HO230.out, by repeat (first | (with_reducible first | exact HB.out | apply below_alloc | apply pw_below_drewN | apply below_drew1) | exact HB.out)⟩
                      · rw [if_neg c32] at H
                        have c32b0 : (a0 == 10) = false := beq_eq_false_iff_ne.mpr c32
                        have c32b1 : (a0 != 10) = true := bne_iff_ne.mpr c32
                        by_cases c35 : a0 = 4
                        · rw [if_pos c35] at H
                          have c35b0 : (a0 == 4) = true := beq_iff_eq.mpr c35
                          have c35b1 : (a0 != 4) = false := bne_eq_false_iff_eq.mpr c35
                          clear c35
                          obtain ⟨y231, hy231⟩ : ∃ y_ : List ByteArray, y_ = (([(⟨#[97, 114, 101, 97, 32, 98, 97, 115, 101, 32, 98, 114, 32, 99, 111, 108, 32, 101, 109, 98, 101, 100, 32, 104, 114, 32, 105, 109, 103, 32, 105, 110, 112, 117, 116, 32, 108, 105, 110, 107, 32, 109, 101, 116, 97, 32, 112, 97, 114, 97, 109, 32, 115, 111, 117, 114, 99, 101, 32, 116, 114, 97, 99, 107, 32, 119, 98, 114]⟩ : ByteArray), (⟨#[105, 102, 114, 97, 109, 101, 32, 110, 111, 101, 109, 98, 101, 100, 32, 110, 111, 102, 114, 97, 109, 101, 115, 32, 115, 99, 114, 105, 112, 116, 32, 115, 116, 121, 108, 101, 32, 120, 109, 112]⟩ : ByteArray), (⟨#[116, 101, 120, 116, 97, 114, 101, 97, 32, 116, 105, 116, 108, 101]⟩ : ByteArray), (⟨#[104, 49, 32, 104, 50, 32, 104, 51, 32, 104, 52, 32, 104, 53, 32, 104, 54]⟩ : ByteArray), (⟨#[97, 100, 100, 114, 101, 115, 115, 32, 97, 114, 116, 105, 99, 108, 101, 32, 97, 115, 105, 100, 101, 32, 98, 108, 111, 99, 107, 113, 117, 111, 116, 101, 32, 99, 101, 110, 116, 101, 114, 32, 100, 101, 116, 97, 105, 108, 115, 32, 100, 105, 97, 108, 111, 103, 32, 100, 105, 114, 32, 100, 105, 118, 32, 100, 108, 32, 102, 105, 101, 108, 100, 115, 101, 116, 32, 102, 105, 103, 99, 97, 112, 116, 105, 111, 110, 32, 102, 105, 103, 117, 114, 101, 32, 102, 111, 111, 116, 101, 114, 32, 104, 101, 97, 100, 101, 114, 32, 104, 103, 114, 111, 117, 112, 32, 109, 97, 105, 110, 32, 109, 101, 110, 117, 32, 110, 97, 118, 32, 111, 108, 32, 112, 32, 115, 101, 97, 114, 99, 104, 32, 115, 101, 99, 116, 105, 111, 110, 32, 115, 117, 109, 109, 97, 114, 121, 32, 117, 108]⟩ : ByteArray), (⟨#[99, 97, 112, 116, 105, 111, 110, 32, 99, 111, 108, 32, 99, 111, 108, 103, 114, 111, 117, 112, 32, 116, 98, 111, 100, 121, 32, 116, 100, 32, 116, 102, 111, 111, 116, 32, 116, 104, 32, 116, 104, 101, 97, 100, 32, 116, 114]⟩ : ByteArray), (⟨#[97, 112, 112, 108, 101, 116, 32, 109, 97, 114, 113, 117, 101, 101, 32, 111, 98, 106, 101, 99, 116]⟩ : ByteArray), (⟨#[98, 97, 115, 101, 102, 111, 110, 116, 32, 98, 103, 115, 111, 117, 110, 100, 32, 98, 111, 100, 121, 32, 98, 117, 116, 116, 111, 110, 32, 100, 100, 32, 100, 116, 32, 102, 111, 114, 109, 32, 102, 114, 97, 109, 101, 32, 102, 114, 97, 109, 101, 115, 101, 116, 32, 104, 101, 97, 100, 32, 104, 116, 109, 108, 32, 107, 101, 121, 103, 101, 110, 32, 108, 105, 32, 108, 105, 115, 116, 105, 110, 103, 32, 110, 111, 115, 99, 114, 105, 112, 116, 32, 112, 108, 97, 105, 110, 116, 101, 120, 116, 32, 112, 114, 101, 32, 115, 101, 108, 101, 99, 116, 32, 116, 97, 98, 108, 101, 32, 116, 101, 109, 112, 108, 97, 116, 101]⟩ : ByteArray)] : List ByteArray)) := ⟨_, rfl⟩
                          replace H : (some y231) = some r := by first | (rw [hy231]; with_reducible exact H) | (have H2_ := (Option.bind_some _ _).symm.trans H; rw [hy231]; with_reducible exact H2_) | (have H2_ := (Option.bind_some _ _).symm.trans H; with_reducible exact H2_) | with_reducible exact H | (rw [hy231]; exact H) | exact H
                          have Ny231 := Aside0.mk hy231
                          clear hy231
                          obtain rfl := Option.some.inj H
                          go_enter Try.func31, Try.ntmps31
                          go_wp2_with (first | ((with_reducible refine gate_dst (N := 39) rfl ?_); refine Kd.R_lit Kd.string _ 9 ?hg (N := 39) ?hd (xs := ([(⟨#[97, 114, 101, 97, 32, 98, 97, 115, 101, 32, 98, 114, 32, 99, 111, 108, 32, 101, 109, 98, 101, 100, 32, 104, 114, 32, 105, 109, 103, 32, 105, 110, 112, 117, 116, 32, 108, 105, 110, 107, 32, 109, 101, 116, 97, 32, 112, 97, 114, 97, 109, 32, 115, 111, 117, 114, 99, 101, 32, 116, 114, 97, 99, 107, 32, 119, 98, 114]⟩ : ByteArray), (⟨#[105, 102, 114, 97, 109, 101, 32, 110, 111, 101, 109, 98, 101, 100, 32, 110, 111, 102, 114, 97, 109, 101, 115, 32, 115, 99, 114, 105, 112, 116, 32, 115, 116, 121, 108, 101, 32, 120, 109, 112]⟩ : ByteArray), (⟨#[116, 101, 120, 116, 97, 114, 101, 97, 32, 116, 105, 116, 108, 101]⟩ : ByteArray), (⟨#[104, 49, 32, 104, 50, 32, 104, 51, 32, 104, 52, 32, 104, 53, 32, 104, 54]⟩ : ByteArray), (⟨#[97, 100, 100, 114, 101, 115, 115, 32, 97, 114, 116, 105, 99, 108, 101, 32, 97, 115, 105, 100, 101, 32, 98, 108, 111, 99, 107, 113, 117, 111, 116, 101, 32, 99, 101, 110, 116, 101, 114, 32, 100, 101, 116, 97, 105, 108, 115, 32, 100, 105, 97, 108, 111, 103, 32, 100, 105, 114, 32, 100, 105, 118, 32, 100, 108, 32, 102, 105, 101, 108, 100, 115, 101, 116, 32, 102, 105, 103, 99, 97, 112, 116, 105, 111, 110, 32, 102, 105, 103, 117, 114, 101, 32, 102, 111, 111, 116, 101, 114, 32, 104, 101, 97, 100, 101, 114, 32, 104, 103, 114, 111, 117, 112, 32, 109, 97, 105, 110, 32, 109, 101, 110, 117, 32, 110, 97, 118, 32, 111, 108, 32, 112, 32, 115, 101, 97, 114, 99, 104, 32, 115, 101, 99, 116, 105, 111, 110, 32, 115, 117, 109, 109, 97, 114, 121, 32, 117, 108]⟩ : ByteArray), (⟨#[99, 97, 112, 116, 105, 111, 110, 32, 99, 111, 108, 32, 99, 111, 108, 103, 114, 111, 117, 112, 32, 116, 98, 111, 100, 121, 32, 116, 100, 32, 116, 102, 111, 111, 116, 32, 116, 104, 32, 116, 104, 101, 97, 100, 32, 116, 114]⟩ : ByteArray), (⟨#[97, 112, 112, 108, 101, 116, 32, 109, 97, 114, 113, 117, 101, 101, 32, 111, 98, 106, 101, 99, 116]⟩ : ByteArray), (⟨#[98, 97, 115, 101, 102, 111, 110, 116, 32, 98, 103, 115, 111, 117, 110, 100, 32, 98, 111, 100, 121, 32, 98, 117, 116, 116, 111, 110, 32, 100, 100, 32, 100, 116, 32, 102, 111, 114, 109, 32, 102, 114, 97, 109, 101, 32, 102, 114, 97, 109, 101, 115, 101, 116, 32, 104, 101, 97, 100, 32, 104, 116, 109, 108, 32, 107, 101, 121, 103, 101, 110, 32, 108, 105, 32, 108, 105, 115, 116, 105, 110, 103, 32, 110, 111, 115, 99, 114, 105, 112, 116, 32, 112, 108, 97, 105, 110, 116, 101, 120, 116, 32, 112, 114, 101, 32, 115, 101, 108, 101, 99, 116, 32, 116, 97, 98, 108, 101, 32, 116, 101, 109, 112, 108, 97, 116, 101]⟩ : ByteArray)] : List ByteArray)) (inner := [.string (⟨#[97, 114, 101, 97, 32, 98, 97, 115, 101, 32, 98, 114, 32, 99, 111, 108, 32, 101, 109, 98, 101, 100, 32, 104, 114, 32, 105, 109, 103, 32, 105, 110, 112, 117, 116, 32, 108, 105, 110, 107, 32, 109, 101, 116, 97, 32, 112, 97, 114, 97, 109, 32, 115, 111, 117, 114, 99, 101, 32, 116, 114, 97, 99, 107, 32, 119, 98, 114]⟩ : ByteArray), .string (⟨#[105, 102, 114, 97, 109, 101, 32, 110, 111, 101, 109, 98, 101, 100, 32, 110, 111, 102, 114, 97, 109, 101, 115, 32, 115, 99, 114, 105, 112, 116, 32, 115, 116, 121, 108, 101, 32, 120, 109, 112]⟩ : ByteArray), .string (⟨#[116, 101, 120, 116, 97, 114, 101, 97, 32, 116, 105, 116, 108, 101]⟩ : ByteArray), .string (⟨#[104, 49, 32, 104, 50, 32, 104, 51, 32, 104, 52, 32, 104, 53, 32, 104, 54]⟩ : ByteArray), .string (⟨#[97, 100, 100, 114, 101, 115, 115, 32, 97, 114, 116, 105, 99, 108, 101, 32, 97, 115, 105, 100, 101, 32, 98, 108, 111, 99, 107, 113, 117, 111, 116, 101, 32, 99, 101, 110, 116, 101, 114, 32, 100, 101, 116, 97, 105, 108, 115, 32, 100, 105, 97, 108, 111, 103, 32, 100, 105, 114, 32, 100, 105, 118, 32, 100, 108, 32, 102, 105, 101, 108, 100, 115, 101, 116, 32, 102, 105, 103, 99, 97, 112, 116, 105, 111, 110, 32, 102, 105, 103, 117, 114, 101, 32, 102, 111, 111, 116, 101, 114, 32, 104, 101, 97, 100, 101, 114, 32, 104, 103, 114, 111, 117, 112, 32, 109, 97, 105, 110, 32, 109, 101, 110, 117, 32, 110, 97, 118, 32, 111, 108, 32, 112, 32, 115, 101, 97, 114, 99, 104, 32, 115, 101, 99, 116, 105, 111, 110, 32, 115, 117, 109, 109, 97, 114, 121, 32, 117, 108]⟩ : ByteArray), .string (⟨#[99, 97, 112, 116, 105, 111, 110, 32, 99, 111, 108, 32, 99, 111, 108, 103, 114, 111, 117, 112, 32, 116, 98, 111, 100, 121, 32, 116, 100, 32, 116, 102, 111, 111, 116, 32, 116, 104, 32, 116, 104, 101, 97, 100, 32, 116, 114]⟩ : ByteArray), .string (⟨#[97, 112, 112, 108, 101, 116, 32, 109, 97, 114, 113, 117, 101, 101, 32, 111, 98, 106, 101, 99, 116]⟩ : ByteArray), .string (⟨#[98, 97, 115, 101, 102, 111, 110, 116, 32, 98, 103, 115, 111, 117, 110, 100, 32, 98, 111, 100, 121, 32, 98, 117, 116, 116, 111, 110, 32, 100, 100, 32, 100, 116, 32, 102, 111, 114, 109, 32, 102, 114, 97, 109, 101, 32, 102, 114, 97, 109, 101, 115, 101, 116, 32, 104, 101, 97, 100, 32, 104, 116, 109, 108, 32, 107, 101, 121, 103, 101, 110, 32, 108, 105, 32, 108, 105, 115, 116, 105, 110, 103, 32, 110, 111, 115, 99, 114, 105, 112, 116, 32, 112, 108, 97, 105, 110, 116, 101, 120, 116, 32, 112, 114, 101, 32, 115, 101, 108, 101, 99, 116, 32, 116, 97, 98, 108, 101, 32, 116, 101, 109, 112, 108, 97, 116, 101]⟩ : ByteArray)]) (ok := fun _ => True) (okp := fun _ => True) ?hr ?hp (fun _ hk => hk) trivial (Below.refl _ _) (Nat.le_refl _) (by simp) ?_; (case hd => rfl); (case hg => rfl); (case hr => first | (go_simp; done) | (go_simp; rfl)); (case hp => exact (Reps.one (show Kd.M Kd.string _ _ _ (⟨#[97, 114, 101, 97, 32, 98, 97, 115, 101, 32, 98, 114, 32, 99, 111, 108, 32, 101, 109, 98, 101, 100, 32, 104, 114, 32, 105, 109, 103, 32, 105, 110, 112, 117, 116, 32, 108, 105, 110, 107, 32, 109, 101, 116, 97, 32, 112, 97, 114, 97, 109, 32, 115, 111, 117, 114, 99, 101, 32, 116, 114, 97, 99, 107, 32, 119, 98, 114]⟩ : ByteArray) [.string (⟨#[97, 114, 101, 97, 32, 98, 97, 115, 101, 32, 98, 114, 32, 99, 111, 108, 32, 101, 109, 98, 101, 100, 32, 104, 114, 32, 105, 109, 103, 32, 105, 110, 112, 117, 116, 32, 108, 105, 110, 107, 32, 109, 101, 116, 97, 32, 112, 97, 114, 97, 109, 32, 115, 111, 117, 114, 99, 101, 32, 116, 114, 97, 99, 107, 32, 119, 98, 114]⟩ : ByteArray)] from rfl) (Reps.one (show Kd.M Kd.string _ _ _ (⟨#[105, 102, 114, 97, 109, 101, 32, 110, 111, 101, 109, 98, 101, 100, 32, 110, 111, 102, 114, 97, 109, 101, 115, 32, 115, 99, 114, 105, 112, 116, 32, 115, 116, 121, 108, 101, 32, 120, 109, 112]⟩ : ByteArray) [.string (⟨#[105, 102, 114, 97, 109, 101, 32, 110, 111, 101, 109, 98, 101, 100, 32, 110, 111, 102, 114, 97, 109, 101, 115, 32, 115, 99, 114, 105, 112, 116, 32, 115, 116, 121, 108, 101, 32, 120, 109, 112]⟩ : ByteArray)] from rfl) (Reps.one (show Kd.M Kd.string _ _ _ (⟨#[116, 101, 120, 116, 97, 114, 101, 97, 32, 116, 105, 116, 108, 101]⟩ : ByteArray) [.string (⟨#[116, 101, 120, 116, 97, 114, 101, 97, 32, 116, 105, 116, 108, 101]⟩ : ByteArray)] from rfl) (Reps.one (show Kd.M Kd.string _ _ _ (⟨#[104, 49, 32, 104, 50, 32, 104, 51, 32, 104, 52, 32, 104, 53, 32, 104, 54]⟩ : ByteArray) [.string (⟨#[104, 49, 32, 104, 50, 32, 104, 51, 32, 104, 52, 32, 104, 53, 32, 104, 54]⟩ : ByteArray)] from rfl) (Reps.one (show Kd.M Kd.string _ _ _ (⟨#[97, 100, 100, 114, 101, 115, 115, 32, 97, 114, 116, 105, 99, 108, 101, 32, 97, 115, 105, 100, 101, 32, 98, 108, 111, 99, 107, 113, 117, 111, 116, 101, 32, 99, 101, 110, 116, 101, 114, 32, 100, 101, 116, 97, 105, 108, 115, 32, 100, 105, 97, 108, 111, 103, 32, 100, 105, 114, 32, 100, 105, 118, 32, 100, 108, 32, 102, 105, 101, 108, 100, 115, 101, 116, 32, 102, 105, 103, 99, 97, 112, 116, 105, 111, 110, 32, 102, 105, 103, 117, 114, 101, 32, 102, 111, 111, 116, 101, 114, 32, 104, 101, 97, 100, 101, 114, 32, 104, 103, 114, 111, 117, 112, 32, 109, 97, 105, 110, 32, 109, 101, 110, 117, 32, 110, 97, 118, 32, 111, 108, 32, 112, 32, 115, 101, 97, 114, 99, 104, 32, 115, 101, 99, 116, 105, 111, 110, 32, 115, 117, 109, 109, 97, 114, 121, 32, 117, 108]⟩ : ByteArray) [.string (⟨#[97, 100, 100, 114, 101, 115, 115, 32, 97, 114, 116, 105, 99, 108, 101, 32, 97, 115, 105, 100, 101, 32, 98, 108, 111, 99, 107, 113, 117, 111, 116, 101, 32, 99, 101, 110, 116, 101, 114, 32, 100, 101, 116, 97, 105, 108, 115, 32, 100, 105, 97, 108, 111, 103, 32, 100, 105, 114, 32, 100, 105, 118, 32, 100, 108, 32, 102, 105, 101, 108, 100, 115, 101, 116, 32, 102, 105, 103, 99, 97, 112, 116, 105, 111, 110, 32, 102, 105, 103, 117, 114, 101, 32, 102, 111, 111, 116, 101, 114, 32, 104, 101, 97, 100, 101, 114, 32, 104, 103, 114, 111, 117, 112, 32, 109, 97, 105, 110, 32, 109, 101, 110, 117, 32, 110, 97, 118, 32, 111, 108, 32, 112, 32, 115, 101, 97, 114, 99, 104, 32, 115, 101, 99, 116, 105, 111, 110, 32, 115, 117, 109, 109, 97, 114, 121, 32, 117, 108]⟩ : ByteArray)] from rfl) (Reps.one (show Kd.M Kd.string _ _ _ (⟨#[99, 97, 112, 116, 105, 111, 110, 32, 99, 111, 108, 32, 99, 111, 108, 103, 114, 111, 117, 112, 32, 116, 98, 111, 100, 121, 32, 116, 100, 32, 116, 102, 111, 111, 116, 32, 116, 104, 32, 116, 104, 101, 97, 100, 32, 116, 114]⟩ : ByteArray) [.string (⟨#[99, 97, 112, 116, 105, 111, 110, 32, 99, 111, 108, 32, 99, 111, 108, 103, 114, 111, 117, 112, 32, 116, 98, 111, 100, 121, 32, 116, 100, 32, 116, 102, 111, 111, 116, 32, 116, 104, 32, 116, 104, 101, 97, 100, 32, 116, 114]⟩ : ByteArray)] from rfl) (Reps.one (show Kd.M Kd.string _ _ _ (⟨#[97, 112, 112, 108, 101, 116, 32, 109, 97, 114, 113, 117, 101, 101, 32, 111, 98, 106, 101, 99, 116]⟩ : ByteArray) [.string (⟨#[97, 112, 112, 108, 101, 116, 32, 109, 97, 114, 113, 117, 101, 101, 32, 111, 98, 106, 101, 99, 116]⟩ : ByteArray)] from rfl) (Reps.one (show Kd.M Kd.string _ _ _ (⟨#[98, 97, 115, 101, 102, 111, 110, 116, 32, 98, 103, 115, 111, 117, 110, 100, 32, 98, 111, 100, 121, 32, 98, 117, 116, 116, 111, 110, 32, 100, 100, 32, 100, 116, 32, 102, 111, 114, 109, 32, 102, 114, 97, 109, 101, 32, 102, 114, 97, 109, 101, 115, 101, 116, 32, 104, 101, 97, 100, 32, 104, 116, 109, 108, 32, 107, 101, 121, 103, 101, 110, 32, 108, 105, 32, 108, 105, 115, 116, 105, 110, 103, 32, 110, 111, 115, 99, 114, 105, 112, 116, 32, 112, 108, 97, 105, 110, 116, 101, 120, 116, 32, 112, 114, 101, 32, 115, 101, 108, 101, 99, 116, 32, 116, 97, 98, 108, 101, 32, 116, 101, 109, 112, 108, 97, 116, 101]⟩ : ByteArray) [.string (⟨#[98, 97, 115, 101, 102, 111, 110, 116, 32, 98, 103, 115, 111, 117, 110, 100, 32, 98, 111, 100, 121, 32, 98, 117, 116, 116, 111, 110, 32, 100, 100, 32, 100, 116, 32, 102, 111, 114, 109, 32, 102, 114, 97, 109, 101, 32, 102, 114, 97, 109, 101, 115, 101, 116, 32, 104, 101, 97, 100, 32, 104, 116, 109, 108, 32, 107, 101, 121, 103, 101, 110, 32, 108, 105, 32, 108, 105, 115, 116, 105, 110, 103, 32, 110, 111, 115, 99, 114, 105, 112, 116, 32, 112, 108, 97, 105, 110, 116, 101, 120, 116, 32, 112, 114, 101, 32, 115, 101, 108, 101, 99, 116, 32, 116, 97, 98, 108, 101, 32, 116, 101, 109, 112, 108, 97, 116, 101]⟩ : ByteArray)] from rfl) (Reps.none _ _)))))))))); intro v232 w36 ho37 hb hg_ hnew_; clear hg_ hnew_; (first | rw [← Ny231.out] at ho37 | (simp only [Int.reduceToNat] at ho37; rw [← Ny231.out] at ho37)); have n0_ := Aside0.mk (Kd.R_lower ho37 (below_size (by repeat (first | (with_reducible first | exact HB.out | apply below_alloc | apply pw_below_drewN | apply below_drew1) | exact HB.out)))); have n1_ := Aside0.mk (below_step (by repeat (first | (with_reducible first | exact HB.out | apply below_alloc | apply pw_below_drewN | apply below_drew1) | exact HB.out)) hb); clear HB; have HO233 := n0_; have HB := n1_; clear n0_ n1_; clear hb ho37))
                          go_ret
                          exact ⟨_, by first | rfl | (simp [errW_none, errW_some] <;> rfl) | (simp [*, errW_none, errW_some] <;> rfl), by (with_reducible repeat (first | apply Kd.R_alloc | apply Kd.R_drewN | apply Kd.R_drew)); exact HO233.out, by repeat (first | (with_reducible first | exact HB.out | apply below_alloc | apply pw_below_drewN | apply below_drew1) | exact HB.out)⟩
                        · rw [if_neg c35] at H
                          have c35b0 : (a0 == 4) = false := beq_eq_false_iff_ne.mpr c35
                          have c35b1 : (a0 != 4) = true := bne_iff_ne.mpr c35
                          obtain rfl := Option.some.inj H
                          go_enter Try.func31, Try.ntmps31
                          go_wp2
                          go_ret
                          exact ⟨_, by first | rfl | (simp [errW_none, errW_some] <;> rfl) | (simp [*, errW_none, errW_some] <;> rfl), by first | exact Kd.R_nil _ _ _ _ _ | exact Kd.N_nil _ _ _ _ _ | exact Kd.V_nil _ _ _ _ _ | exact Kd.Q_nil _ _ _ _ _ | exact Kd.S_nil _ _ _ _ _, by repeat (first | (with_reducible first | exact HB.out | apply below_alloc | apply pw_below_drewN | apply below_drew1) | exact HB.out)⟩

/-! ### marginaliaref02_In: function 32 -/
mutual
def marginaliaref02_In.l0 : Nat → ByteArray → ByteArray → Int → Int → Option (Bool)
  | 0, _, _, _, _ => none
  | k + 1, x0, x1, x5, x6 => if x6 ≤ (x0.size : Int) then (if x6 = (x0.size : Int) then (marginaliaref02_In.j1 k x0 x1 x5 x6 true) else (if 0 ≤ x6 then (if x6 < (x0.size : Int) then (marginaliaref02_In.j1 k x0 x1 x5 x6 ((bt x0 x6) == 32)) else (none)) else (none))) else (some false)
def marginaliaref02_In.j1 : Nat → ByteArray → ByteArray → Int → Int → Bool → Option (Bool)
  | 0, _, _, _, _, _ => none
  | k + 1, x0, x1, x5, x6, x22 => if x22 = true then (if 0 ≤ x5 then (if x5 ≤ x6 then (if x6 ≤ (x0.size : Int) then (if (x0.extract (x5 : Int).toNat (x6 : Int).toNat).toList = x1.toList then (some true) else (marginaliaref02_In.l0 k x0 x1 (wrap64 (x6 + 1)) (wrap64 (x6 + 1)))) else (none)) else (none)) else (none)) else (marginaliaref02_In.l0 k x0 x1 x5 (wrap64 (x6 + 1)))
end
def marginaliaref02_In.f (k : Nat) (a0 : ByteArray) (a1 : ByteArray) : Option (Bool) := marginaliaref02_In.l0 k a0 a1 0 0
theorem marginaliaref02_In.mono_l : ∀ k, (∀ y0 y1 y2 y3, LeO (marginaliaref02_In.l0 k y0 y1 y2 y3) (marginaliaref02_In.l0 (k + 1) y0 y1 y2 y3)) ∧ (∀ y0 y1 y2 y3 y4, LeO (marginaliaref02_In.j1 k y0 y1 y2 y3 y4) (marginaliaref02_In.j1 (k + 1) y0 y1 y2 y3 y4))
  | 0 => ⟨fun _ _ _ _ r h => by simp [marginaliaref02_In.l0] at h, fun _ _ _ _ _ r h => by simp [marginaliaref02_In.j1] at h⟩
  | k + 1 => by
    obtain ⟨ih0, ih1⟩ := marginaliaref02_In.mono_l k
    refine ⟨?_, ?_⟩
    · intro y0 y1 y2 y3
      unfold marginaliaref02_In.l0
      repeat' first
      | (with_reducible exact ih0 _ _ _ _)
      | (with_reducible exact ih1 _ _ _ _ _)
      | (with_reducible exact LeO.refl _)
      | (with_reducible exact LeO.none _)
      | (with_reducible refine LeO.ite ?_ ?_)
      | (with_reducible refine LeO.bind ?_ (fun _ => ?_))
      | exact ih0 _ _ _ _
      | exact ih1 _ _ _ _ _
      | exact LeO.none _
      | refine LeO.ite ?_ ?_
      | refine LeO.bind ?_ (fun _ => ?_)
    · intro y0 y1 y2 y3 y4
      unfold marginaliaref02_In.j1
      repeat' first
      | (with_reducible exact ih0 _ _ _ _)
      | (with_reducible exact ih1 _ _ _ _ _)
      | (with_reducible exact LeO.refl _)
      | (with_reducible exact LeO.none _)
      | (with_reducible refine LeO.ite ?_ ?_)
      | (with_reducible refine LeO.bind ?_ (fun _ => ?_))
      | exact ih0 _ _ _ _
      | exact ih1 _ _ _ _ _
      | exact LeO.none _
      | refine LeO.ite ?_ ?_
      | refine LeO.bind ?_ (fun _ => ?_)
theorem marginaliaref02_In.mono : ∀ a0 a1 k, LeO (marginaliaref02_In.f k a0 a1) (marginaliaref02_In.f (k + 1) a0 a1) := by
  intro a0 a1 k
  obtain ⟨ih0, ih1⟩ := marginaliaref02_In.mono_l k
  unfold marginaliaref02_In.f
  repeat' first
      | (with_reducible exact ih0 _ _ _ _)
      | (with_reducible exact ih1 _ _ _ _ _)
      | (with_reducible exact LeO.refl _)
      | (with_reducible exact LeO.none _)
      | (with_reducible refine LeO.ite ?_ ?_)
      | (with_reducible refine LeO.bind ?_ (fun _ => ?_))
      | exact ih0 _ _ _ _
      | exact ih1 _ _ _ _ _
      | exact LeO.none _
      | refine LeO.ite ?_ ?_
      | refine LeO.bind ?_ (fun _ => ?_)
set_option maxHeartbeats 8000000 in
set_option maxRecDepth 100000 in
theorem marginaliaref02_In.calls (k : Nat) (a0 : ByteArray) (a1 : ByteArray) (r : Bool) (w : World) (h : marginaliaref02_In.f k a0 a1 = some r) :
    Calls Try.prog 32 #[.string a0, .string a1] w fun e w' => e = .returned (.bool r) ∧ Drawn0 w w' := by
  have H : (marginaliaref02_In.l0 k a0 a1 0 0) = some r := h
  clear h
  have H' := Aside0.mk H
  clear H
  go_enter Try.func32, Try.ntmps32
  go_wp2
  go_loopg [5, 6] k (fun kq v5 v6 w' => ∃ (x5_1 : Int) (x6_1 : Int), v5 = .int .i64 x5_1 ∧ v6 = .int .i64 x6_1 ∧ Aside0 (marginaliaref02_In.l0 kq a0 a1 x5_1 x6_1 = some r) ∧ Aside0 (kq ≤ k) ∧ Drawn0 w w')
  case atStart => exact ⟨(0), (0), (by first | rfl | (simp; done) | (simp [*]; done)), (by first | rfl | (simp; done) | (simp [*]; done)), H', ⟨Nat.le_refl _⟩, by repeat (first | exact Drawn0.refl _ | apply Drawn0.step)⟩
  case round =>
    clear H'
    try clear p2
    obtain ⟨x5_1, x6_1, rfl, rfl, HA, HK1, ⟨m1, rfl⟩⟩ := hrel
    cases gk with
    | zero => exact absurd HA.out (by simp [marginaliaref02_In.l0])
    | succ k1 =>
      have H := HA.out
      clear HA
      simp only [marginaliaref02_In.l0] at H
      by_cases c3 : x6_1 ≤ (a0.size : Int)
      · rw [if_pos c3] at H
        have c3b0 : decide (x6_1 ≤ (a0.size : Int)) = true := decide_eq_true c3
        clear c3
        have HC4 := Aside0.mk H
        clear H
        go_upto_region 5 with (fail)
        go_cut [22] (fun v22 wc => ∃ (kq : Nat) (x22_3 : Bool), v22 = .bool x22_3 ∧ Aside0 (marginaliaref02_In.j1 kq a0 a1 x5_1 x6_1 x22_3 = some r) ∧ Aside0 (kq ≤ k1) ∧ Drawn0 w wc)
        case first =>
          have H := HC4.out
          clear HC4
          by_cases c5 : x6_1 = (a0.size : Int)
          · rw [if_pos c5] at H
            have c5b0 : (x6_1 == (a0.size : Int)) = true := beq_iff_eq.mpr c5
            have c5b1 : (x6_1 != (a0.size : Int)) = false := bne_eq_false_iff_eq.mpr c5
            clear c5
            (first | rw [c5b0] | (simp only [i64_w, i32_w]; rw [c5b0]) | skip)
            have H' := Aside0.mk H
            clear H
            go_wp2
            go_meet
            case rel => exact ⟨_, (true), (by first | rfl | (simp; done) | (simp [*]; done)), H', ⟨by have := HK1.out; first | omega | exact Nat.le_refl _⟩, by repeat (first | exact Drawn0.refl _ | apply Drawn0.step)⟩
          · rw [if_neg c5] at H
            have c5b0 : (x6_1 == (a0.size : Int)) = false := beq_eq_false_iff_ne.mpr c5
            have c5b1 : (x6_1 != (a0.size : Int)) = true := bne_iff_ne.mpr c5
            (first | rw [c5b0] | (simp only [i64_w, i32_w]; rw [c5b0]) | skip)
            by_cases c6 : 0 ≤ x6_1
            · rw [if_pos c6] at H
              have c6b0 : decide (0 ≤ x6_1) = true := decide_eq_true c6
              clear c6
              by_cases c7 : x6_1 < (a0.size : Int)
              · rw [if_pos c7] at H
                have c7b0 : decide (x6_1 < (a0.size : Int)) = true := decide_eq_true c7
                clear c7
                have H' := Aside0.mk H
                clear H
                have p8 : 0 ≤ (x6_1 : Int) := of_decide_eq_true (by first | (with_reducible assumption) | assumption)
                have q8 : x6_1 < (a0.size : Int) := of_decide_eq_true (by first | (with_reducible assumption) | assumption)
                have hx8 := bt_at a0 x6_1
                replace p8 := eq_true p8
                replace q8 := eq_true q8
                go_wp2
                go_meet
                case rel => exact ⟨_, (((bt a0 x6_1) == 32)), (by first | rfl | (simp; done) | (simp [*]; done)), H', ⟨by have := HK1.out; first | omega | exact Nat.le_refl _⟩, by repeat (first | exact Drawn0.refl _ | apply Drawn0.step)⟩
              · rw [if_neg c7] at H
                exact absurd H (by simp)
            · rw [if_neg c6] at H
              exact absurd H (by simp)
        case rest =>
          clear HC4
          try clear p2
          try clear c3
          try clear c3b0
          try clear c5
          try clear c5b0
          try clear c5b1
          try clear c6
          try clear c6b0
          try clear c7
          try clear c7b0
          try clear p8
          try clear q8
          try clear hx8
          try clear p2
          try clear p8
          try clear q8
          obtain ⟨kq, x22_3, rfl, HA, HJ3, ⟨mc3, rfl⟩⟩ := hcut
          cases kq with
          | zero => exact absurd HA.out (by simp [marginaliaref02_In.j1])
          | succ kj3 =>
            have H := HA.out
            clear HA
            simp only [marginaliaref02_In.j1] at H
            by_cases c9 : x22_3 = true
            · subst c9
              have H1 : (if 0 ≤ x5_1 then (if x5_1 ≤ x6_1 then (if x6_1 ≤ (a0.size : Int) then (if (a0.extract (x5_1 : Int).toNat (x6_1 : Int).toNat).toList = a1.toList then (some true) else (marginaliaref02_In.l0 kj3 a0 a1 (wrap64 (x6_1 + 1)) (wrap64 (x6_1 + 1)))) else (none)) else (none)) else (none)) = some r := by rw [if_pos rfl] at H; exact H
              clear H
              have H := H1
              clear H1
              by_cases c10 : 0 ≤ x5_1
              · rw [if_pos c10] at H
                have c10b0 := eq_true c10
                have c10b1 : decide (0 ≤ x5_1) = true := decide_eq_true c10
                clear c10
                by_cases c11 : x5_1 ≤ x6_1
                · rw [if_pos c11] at H
                  have c11b0 := eq_true c11
                  have c11b1 : decide (x5_1 ≤ x6_1) = true := decide_eq_true c11
                  clear c11
                  by_cases c12 : x6_1 ≤ (a0.size : Int)
                  · rw [if_pos c12] at H
                    have c12b0 := eq_true c12
                    have c12b1 : decide (x6_1 ≤ (a0.size : Int)) = true := decide_eq_true c12
                    clear c12
                    by_cases c13 : (a0.extract (x5_1 : Int).toNat (x6_1 : Int).toNat).toList = a1.toList
                    · rw [if_pos c13] at H
                      have c13b0 : ((a0.extract (x5_1 : Int).toNat (x6_1 : Int).toNat).toList == a1.toList) = true := beq_iff_eq.mpr c13
                      have c13b1 : ((a0.extract (x5_1 : Int).toNat (x6_1 : Int).toNat).toList != a1.toList) = false := bne_eq_false_iff_eq.mpr c13
                      clear c13
                      obtain rfl := Option.some.inj H
                      go_wp2
                      go_ret
                      exact ⟨by first | rfl | (simp; done) | (simp [*]; done), by repeat (first | exact Drawn0.refl _ | apply Drawn0.step)⟩
                    · rw [if_neg c13] at H
                      have c13b0 : ((a0.extract (x5_1 : Int).toNat (x6_1 : Int).toNat).toList == a1.toList) = false := beq_eq_false_iff_ne.mpr c13
                      have c13b1 : ((a0.extract (x5_1 : Int).toNat (x6_1 : Int).toNat).toList != a1.toList) = true := bne_iff_ne.mpr c13
                      have H' := Aside0.mk H
                      clear H
                      go_wp2
                      go_roundg kj3
                      case measure => have := HK1.out; have := HJ3.out; omega
                      case rel => exact ⟨(wrap64 (x6_1 + 1)), (wrap64 (x6_1 + 1)), (by first | rfl | (simp; done) | (simp [*]; done)), (by first | rfl | (simp; done) | (simp [*]; done)), H', ⟨by have := HK1.out; have := HJ3.out; omega⟩, by repeat (first | exact Drawn0.refl _ | apply Drawn0.step)⟩
                  · rw [if_neg c12] at H
                    exact absurd H (by simp)
                · rw [if_neg c11] at H
                  exact absurd H (by simp)
              · rw [if_neg c10] at H
                exact absurd H (by simp)
            · replace c9 := Bool.eq_false_iff.mpr c9
              subst c9
              have H1 : (marginaliaref02_In.l0 kj3 a0 a1 x5_1 (wrap64 (x6_1 + 1))) = some r := by rw [if_neg (show ¬ (false = true) by decide)] at H; exact H
              clear H
              have H := H1
              clear H1
              have H' := Aside0.mk H
              clear H
              go_wp2
              go_roundg kj3
              case measure => have := HK1.out; have := HJ3.out; omega
              case rel => exact ⟨(x5_1), (wrap64 (x6_1 + 1)), (by first | rfl | (simp; done) | (simp [*]; done)), (by first | rfl | (simp; done) | (simp [*]; done)), H', ⟨by have := HK1.out; have := HJ3.out; omega⟩, by repeat (first | exact Drawn0.refl _ | apply Drawn0.step)⟩
      · rw [if_neg c3] at H
        have c3b0 : decide (x6_1 ≤ (a0.size : Int)) = false := decide_eq_false c3
        clear c3
        obtain rfl := Option.some.inj H
        go_wp2
        go_ret
        exact ⟨by first | rfl | (simp; done) | (simp [*]; done), by repeat (first | exact Drawn0.refl _ | apply Drawn0.step)⟩

/-! ### marginaliaref02_Is: function 20 -/
def marginaliaref02_Is.l0 : Nat → ByteArray → List ByteArray → Int → Option (Bool)
  | 0, _, _, _ => none
  | k + 1, x1, x5, x6 => if x6 < (x5.length : Int) then (if 0 ≤ x6 then ((marginaliaref02_In.f k (rdOf ByteArray.empty x5 x6) x1).bind fun t238 => (if t238 = true then (some true) else (marginaliaref02_Is.l0 k x1 x5 (wrap64 (x6 + 1))))) else (none)) else (some false)
def marginaliaref02_Is.f (k : Nat) (a0 : Int) (a1 : ByteArray) : Option (Bool) := (marginaliaref02_names.f a0).bind fun t234 => (marginaliaref02_Is.l0 k a1 t234 0)
theorem marginaliaref02_Is.mono_l : ∀ k, (∀ y0 y1 y2, LeO (marginaliaref02_Is.l0 k y0 y1 y2) (marginaliaref02_Is.l0 (k + 1) y0 y1 y2))
  | 0 => fun _ _ _ r h => by simp [marginaliaref02_Is.l0] at h
  | k + 1 => by
    have ih0 := marginaliaref02_Is.mono_l k
    · intro y0 y1 y2
      unfold marginaliaref02_Is.l0
      repeat' first
      | (with_reducible exact ih0 _ _ _)
      | (with_reducible exact marginaliaref02_In.mono _ _ _)
      | (with_reducible exact LeO.refl _)
      | (with_reducible exact LeO.none _)
      | (with_reducible refine LeO.ite ?_ ?_)
      | (with_reducible refine LeO.bind ?_ (fun _ => ?_))
      | exact ih0 _ _ _
      | exact marginaliaref02_In.mono _ _ _
      | exact LeO.none _
      | refine LeO.ite ?_ ?_
      | refine LeO.bind ?_ (fun _ => ?_)
theorem marginaliaref02_Is.mono : ∀ a0 a1 k, LeO (marginaliaref02_Is.f k a0 a1) (marginaliaref02_Is.f (k + 1) a0 a1) := by
  intro a0 a1 k
  have ih0 := marginaliaref02_Is.mono_l k
  unfold marginaliaref02_Is.f
  repeat' first
      | (with_reducible exact ih0 _ _ _)
      | (with_reducible exact marginaliaref02_In.mono _ _ _)
      | (with_reducible exact LeO.refl _)
      | (with_reducible exact LeO.none _)
      | (with_reducible refine LeO.ite ?_ ?_)
      | (with_reducible refine LeO.bind ?_ (fun _ => ?_))
      | exact ih0 _ _ _
      | exact marginaliaref02_In.mono _ _ _
      | exact LeO.none _
      | refine LeO.ite ?_ ?_
      | refine LeO.bind ?_ (fun _ => ?_)
set_option maxHeartbeats 8000000 in
set_option maxRecDepth 100000 in
theorem marginaliaref02_Is.calls (k : Nat) (a0 : Int) (a1 : ByteArray) (r : Bool) (w : World) (h : marginaliaref02_Is.f k a0 a1 = some r) :
    Calls Try.prog 20 #[.int .i64 a0, .string a1] w fun e w' => e = .returned (.bool r) ∧ Below w.heap.size w w' := by
  have HB := Aside0.mk (Below.refl w.heap.size w)
  have H : ((marginaliaref02_names.f a0).bind fun t234 => (marginaliaref02_Is.l0 k a1 t234 0)) = some r := h
  clear h
  replace H := Option.bind_eq_some_iff.mp H
  obtain ⟨t234, A30, H⟩ := H
  replace H : (marginaliaref02_Is.l0 k a1 t234 0) = some r := H
  have A3 := Aside0.mk A30
  clear A30
  have H' := Aside0.mk H
  clear H
  go_enter Try.func20, Try.ntmps20
  go_wp2_with (first | ((with_reducible refine gate_callee (f := 31) rfl ?_); refine goesL_ (some 8) rfl rfl Try.func31 (by kernel_rfl) rfl #[.int .i64 a0] rfl (by (try simp only [List.map_toArray, List.map_cons, List.map_nil]); first | done | rfl | (simp only [List.length_drop, List.length_take]; rfl)) ?_; (with_reducible refine (marginaliaref02_names.calls a0 t234 _ A3.out).mono ?_); rintro e w4 ⟨v235, rfl, ho0, hb⟩; refine ⟨_, rfl, ?_⟩; have n0_ := Aside0.mk (Kd.R_lower ho0 (below_size (by repeat (first | (with_reducible first | exact HB.out | apply below_alloc | apply pw_below_drewN | apply below_drew1) | exact HB.out)))); have n1_ := Aside0.mk (below_step (by repeat (first | (with_reducible first | exact HB.out | apply below_alloc | apply pw_below_drewN | apply below_drew1) | exact HB.out)) hb); clear HB; have HO236 := n0_; have HB := n1_; clear n0_ n1_; (try clear hb); (try clear hb2); (try clear hk); (try clear hi); (try clear ho0)))
  go_loopg [6] k (fun kq v6 w' => ∃ (x6_1 : Int), v6 = .int .i64 x6_1 ∧ Aside0 (marginaliaref02_Is.l0 kq a1 t234 x6_1 = some r) ∧ Aside0 (kq ≤ k) ∧ Aside0 (Kd.R Kd.string 9 w' w.heap.size (fun _ => True) v235 t234) ∧ Aside0 (Below w.heap.size w w'))
  case atStart => exact ⟨(0), (by first | rfl | (simp; done) | (simp [*]; done)), H', ⟨Nat.le_refl _⟩, ⟨by (with_reducible repeat (first | apply Kd.R_alloc | apply Kd.R_drewN | apply Kd.R_drew)); exact HO236.out⟩, ⟨by repeat (first | (with_reducible first | exact HB.out | apply below_alloc | apply pw_below_drewN | apply below_drew1) | exact HB.out)⟩⟩
  case round =>
    clear H'
    try clear c2
    try clear p2
    try clear c3
    obtain ⟨x6_1, rfl, HA, HK1, HO_5, HB⟩ := hrel
    cases gk with
    | zero => exact absurd HA.out (by simp [marginaliaref02_Is.l0])
    | succ k1 =>
      have H := HA.out
      clear HA
      simp only [marginaliaref02_Is.l0] at H
      by_cases c5 : x6_1 < (t234.length : Int)
      · rw [if_pos c5] at H
        have c5b0 : decide (x6_1 < (t234.length : Int)) = true := decide_eq_true c5
        clear c5
        by_cases c6 : 0 ≤ x6_1
        · rw [if_pos c6] at H
          have c6b0 : decide (0 ≤ x6_1) = true := decide_eq_true c6
          clear c6
          replace H := Option.bind_eq_some_iff.mp H
          obtain ⟨t238, A70, H⟩ := H
          replace H : (if t238 = true then (some true) else (marginaliaref02_Is.l0 k1 a1 t234 (wrap64 (x6_1 + 1)))) = some r := H
          have A7 := Aside0.mk A70
          clear A70
          by_cases c8 : t238 = true
          · subst c8
            have H1 : (some true) = some r := by rw [if_pos rfl] at H; exact H
            clear H
            have H := H1
            clear H1
            obtain rfl := Option.some.inj H
            obtain ⟨Ao9, co9, eo9⟩ := Kd.R_slice HO_5.out
            subst eo9
            have p237 : 0 ≤ (x6_1 : Int) := of_decide_eq_true (by first | (with_reducible assumption) | assumption)
            have q237 : x6_1 < (t234.length : Int) := of_decide_eq_true (by first | (with_reducible assumption) | assumption)
            obtain ⟨ad237, e237, hx237_0⟩ := Kd.at_string (Kd.R_reads' HO_5.out).2.2 x6_1 p237 q237
            cases e237
            replace p237 := eq_true p237
            replace q237 := eq_true q237
            go_wp2_with (first | ((with_reducible refine gate_callee (f := 32) rfl ?_); refine goesL_ (some 20) rfl rfl Try.func32 (by kernel_rfl) rfl #[.string (rdOf ByteArray.empty t234 x6_1), .string a1] rfl (by (try simp only [List.map_toArray, List.map_cons, List.map_nil]); first | done | rfl | (simp only [List.length_drop, List.length_take]; rfl)) ?_; (with_reducible refine (marginaliaref02_In.calls k1 (rdOf ByteArray.empty t234 x6_1) a1 true _ A7.out).mono ?_); rintro e w' ⟨rfl, ⟨nd, rfl⟩⟩; refine ⟨_, rfl, ?_⟩))
            go_ret
            exact ⟨by first | rfl | (simp [errW_none, errW_some] <;> rfl) | (simp [*, errW_none, errW_some] <;> rfl), by repeat (first | (with_reducible first | exact HB.out | apply below_alloc | apply pw_below_drewN | apply below_drew1) | exact HB.out)⟩
          · replace c8 := Bool.eq_false_iff.mpr c8
            subst c8
            have H1 : (marginaliaref02_Is.l0 k1 a1 t234 (wrap64 (x6_1 + 1))) = some r := by rw [if_neg (show ¬ (false = true) by decide)] at H; exact H
            clear H
            have H := H1
            clear H1
            have H' := Aside0.mk H
            clear H
            obtain ⟨Ao10, co10, eo10⟩ := Kd.R_slice HO_5.out
            subst eo10
            have p237 : 0 ≤ (x6_1 : Int) := of_decide_eq_true (by first | (with_reducible assumption) | assumption)
            have q237 : x6_1 < (t234.length : Int) := of_decide_eq_true (by first | (with_reducible assumption) | assumption)
            obtain ⟨ad237, e237, hx237_0⟩ := Kd.at_string (Kd.R_reads' HO_5.out).2.2 x6_1 p237 q237
            cases e237
            replace p237 := eq_true p237
            replace q237 := eq_true q237
            go_wp2_with (first | ((with_reducible refine gate_callee (f := 32) rfl ?_); refine goesL_ (some 20) rfl rfl Try.func32 (by kernel_rfl) rfl #[.string (rdOf ByteArray.empty t234 x6_1), .string a1] rfl (by (try simp only [List.map_toArray, List.map_cons, List.map_nil]); first | done | rfl | (simp only [List.length_drop, List.length_take]; rfl)) ?_; (with_reducible refine (marginaliaref02_In.calls k1 (rdOf ByteArray.empty t234 x6_1) a1 false _ A7.out).mono ?_); rintro e w' ⟨rfl, ⟨nd, rfl⟩⟩; refine ⟨_, rfl, ?_⟩))
            go_roundg k1
            case measure => have := HK1.out; omega
            case rel => exact ⟨(wrap64 (x6_1 + 1)), (by first | rfl | (simp; done) | (simp [*]; done)), H', ⟨by have := HK1.out; omega⟩, ⟨by (with_reducible repeat (first | apply Kd.R_alloc | apply Kd.R_drewN | apply Kd.R_drew)); exact HO_5.out⟩, ⟨by repeat (first | (with_reducible first | exact HB.out | apply below_alloc | apply pw_below_drewN | apply below_drew1) | exact HB.out)⟩⟩
        · rw [if_neg c6] at H
          exact absurd H (by simp)
      · rw [if_neg c5] at H
        have c5b0 : decide (x6_1 < (t234.length : Int)) = false := decide_eq_false c5
        clear c5
        obtain rfl := Option.some.inj H
        obtain ⟨Ao11, co11, eo11⟩ := Kd.R_slice HO_5.out
        subst eo11
        go_wp2
        go_ret
        exact ⟨by first | rfl | (simp [errW_none, errW_some] <;> rfl) | (simp [*, errW_none, errW_some] <;> rfl), by repeat (first | (with_reducible first | exact HB.out | apply below_alloc | apply pw_below_drewN | apply below_drew1) | exact HB.out)⟩

end Go.Proofs.Ytpgbkmmfniihbaa.PAll
