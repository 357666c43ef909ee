-- Laid together by a program of this session (merge.py) out of its own texts and of the print's, for one law. Lean checks it.
import Derived.Test.YtnbghhddmlohoaaDoorMPp3
section
namespace Go.Proofs.YtnbghhddmlohoaaDoor.PAll
open Go.RowKit Go.Proofs.YtnbghhddmlohoaaDoorW.PrintWords Go.Proofs.YtnbghhddmlohoaaDoorW.PrintLast Go.Proofs.YtnbghhddmlohoaaDoorW.PrintMore
attribute [local go_sem] max2_int min2_int max_two min_two max_three min_three max_four min_four   -- for this text's walks alone
set_option linter.unusedVariables false
set_option linter.unusedSimpArgs false

noncomputable def marginalialaw11_PolicyPart.j0 : Nat → List (S49) → Int → Bool → List (S53) → List ByteArray → List ByteArray → List ByteArray → Int → Option (Bool)
  | 0, _, _, _, _, _, _, _, _ => none
  | k + 1, x1, x2, x25, x447000, x447001, x447002, x447003, x447004 => if x25 = true then ((marginalialaw11_alive.f k).bind fun t449 => (some t449)) else ((policy_Allowed.f k x447000 x447001 x447002 x447003 x447004 ([] : List (S49))).bind fun t450 => ((policy_Check.f k x447000 x447001 x447002 x447003 x447004).bind fun t451 => (if (t450 != (t451 == 0)) = true then (some false) else ((policy_Allowed.f k x447000 x447001 x447002 x447003 x447004 x1).bind fun t452 => ((marginalialaw11_alive.f k).bind fun t453 => (if t453 = true then (if t452 = true then (if 0 ≤ x2 then (if x2 ≤ (x1.length : Int) then ((policy_Allowed.f k x447000 x447001 x447002 x447003 x447004 (x1.take (x2 : Int).toNat)).bind fun t458 => (if t458 = true then (if x2 < (x1.length : Int) then ((policy_Allowed.f k x447000 x447001 x447002 x447003 x447004 ((rd_T49 x1 x2).f5)).bind fun t460 => (some t460)) else (none)) else (some false))) else (none)) else (none)) else (some true)) else (some false)))))))
noncomputable def marginalialaw11_PolicyPart.f (k : Nat) (l0_0 : List (S53)) (l0_1 : List ByteArray) (l0_2 : List ByteArray) (l0_3 : List ByteArray) (a0_4 : Int) (l1 : List (S49)) (a2 : Int) : Option (Bool) := (marginaliaref11_Small.f k l0_0 l0_1 l0_2 l0_3 a0_4).bind fun t447 => (if t447 = true then ((marginaliaref09_Weight.f k l1 1000 60).bind fun t448 => (if t448 ≥ 1000 then (marginalialaw11_PolicyPart.j0 k l1 a2 true l0_0 l0_1 l0_2 l0_3 a0_4) else (if a2 < 0 then (marginalialaw11_PolicyPart.j0 k l1 a2 true l0_0 l0_1 l0_2 l0_3 a0_4) else (marginalialaw11_PolicyPart.j0 k l1 a2 (decide (a2 ≥ (l1.length : Int))) l0_0 l0_1 l0_2 l0_3 a0_4)))) else (marginalialaw11_PolicyPart.j0 k l1 a2 true l0_0 l0_1 l0_2 l0_3 a0_4))
noncomputable def marginalialaw11_PolicyPart.T6 : Bool × List (List Nat × List Nat) := (true, [([], []), ([0, 0], [0]), ([1], [1]), ([2, 1], [1, 2]), ([3, 1, 1], [1, 3]), ([4], [4]), ([4], [4]), ([4], [4]), ([6, 7, 4], [4, 6, 7]), ([5, 8, 4, 4], [4, 5, 8]), ([9, 9, 4], [4, 9]), ([10], [10]), ([10], [10]), ([10], [10]), ([12, 13, 10], [10, 12, 13]), ([14, 10], [10, 14]), ([15, 10], [10, 15]), ([11, 16, 10, 10], [10, 11, 16]), ([10, 17, 4], [4, 10, 17]), ([4, 18, 1], [1, 4, 18]), ([1, 19], [1, 19]), ([20, 17, 0, 1, 2, 3, 4, 5, 6, 7, 8, 9, 10, 11, 12, 13, 14, 15, 16, 17, 18, 19, 20], [20])])
noncomputable def marginalialaw11_PolicyPart.B6 : List Nat := [0, 1, 3, 7, 15, 31, 31, 31, 223, 511, 1023, 2047, 2047, 2047, 14335, 30719, 63487, 131071, 262143, 524287, 1048575, 2097151]
theorem marginalialaw11_PolicyPart.tab6 : rtab .any (opsOf Tryd.f8 6) = marginalialaw11_PolicyPart.T6 := by kernel_rfl
theorem marginalialaw11_PolicyPart.bits6 : waitsOk marginalialaw11_PolicyPart.T6.2 marginalialaw11_PolicyPart.B6 = true := by kernel_rfl
set_option maxHeartbeats 8000000 in
set_option maxRecDepth 100000 in
theorem marginalialaw11_PolicyPart.calls (k : Nat) (A0_0 : Option Addr) (c0_0 : Nat) (l0_0 : List (S53)) (A0_1 : Option Addr) (c0_1 : Nat) (l0_1 : List ByteArray) (A0_2 : Option Addr) (c0_2 : Nat) (l0_2 : List ByteArray) (A0_3 : Option Addr) (c0_3 : Nat) (l0_3 : List ByteArray) (a0_4 : Int) (A1 : Option Addr) (c1 : Nat) (l1 : List (S49)) (a2 : Int) (r : Bool) (w : World) (hr0_0 : Kd.C k53 w A0_0 l0_0.length l0_0) (hc0_0 : l0_0.length ≤ c0_0) (hr0_1 : Kd.C Kd.string w A0_1 l0_1.length l0_1) (hc0_1 : l0_1.length ≤ c0_1) (hr0_2 : Kd.C Kd.string w A0_2 l0_2.length l0_2) (hc0_2 : l0_2.length ≤ c0_2) (hr0_3 : Kd.C Kd.string w A0_3 l0_3.length l0_3) (hc0_3 : l0_3.length ≤ c0_3) (hr1 : Kd.C k49 w A1 l1.length l1) (hc1 : l1.length ≤ c1) (m_ : Int) (hm_ : w.cell? ⟨0, 0, none⟩ = some (.int .i64 m_)) (h : marginalialaw11_PolicyPart.f k l0_0 l0_1 l0_2 l0_3 a0_4 l1 a2 = some r) :
  Calls Tryd.prog 8 #[.agg #[.slice A0_0 l0_0.length c0_0, .slice A0_1 l0_1.length c0_1, .slice A0_2 l0_2.length c0_2, .slice A0_3 l0_3.length c0_3, .int .i64 a0_4], .slice A1 l1.length c1, .int .i64 a2] w fun e w' => e = .returned (.bool r) ∧ Below w.heap.size w w' := by
 have HM := Aside0.mk hm_;clear hm_;have hu25 := Tryd.underlying25;have HR0_0 := Aside0.mk hr0_0;have HC0_0 := Aside0.mk hc0_0;clear hr0_0 hc0_0;have HR0_1 := Aside0.mk hr0_1;have HC0_1 := Aside0.mk hc0_1;clear hr0_1 hc0_1;have HR0_2 := Aside0.mk hr0_2;have HC0_2 := Aside0.mk hc0_2;clear hr0_2 hc0_2;have HR0_3 := Aside0.mk hr0_3;have HC0_3 := Aside0.mk hc0_3;clear hr0_3 hc0_3;have HR1 := Aside0.mk hr1;have HC1 := Aside0.mk hc1;clear hr1 hc1;have HB := Aside0.mk (Below.refl w.heap.size w);have H := h;clear h;unfold marginalialaw11_PolicyPart.f at H;have HC4 := Aside0.mk H;clear H;go_enter Tryd.func8, Tryd.ntmps8
 go_upto_region 1 with (first | ((with_reducible refine gate_dst (N := 3) rfl ?_); (try (refine gate_guard (by rfl) ?_; dsimp only)); refine box5 25 3 (cs := #[.slice A0_0 l0_0.length c0_0, .slice A0_1 l0_1.length c0_1, .slice A0_2 l0_2.length c0_2, .slice A0_3 l0_3.length c0_3, .int .i64 a0_4]) ?_; clear HB; intro gb446 w5 HB BK446 GE446))
 (try simp only [Act.put, List.setIfInBounds_toArray, List.set_cons_zero, List.set_cons_succ])
 go_cut [25] (fun v25 wc => ∃ (kq : Nat) (x25_3 : Bool), v25 = .bool x25_3 ∧ Aside0 (marginalialaw11_PolicyPart.j0 kq l1 a2 x25_3 l0_0 l0_1 l0_2 l0_3 a0_4 = some r) ∧ Aside0 (kq ≤ k) ∧ Aside0 (wc.heap[gb446]? = some (.cells #[(.slice A0_0 l0_0.length c0_0), (.slice A0_1 l0_1.length c0_1), (.slice A0_2 l0_2.length c0_2), (.slice A0_3 l0_3.length c0_3), .int .i64 a0_4] 25 (0, 0))) ∧ Aside0 (Below w.heap.size w wc))
 case first =>
  have H := HC4.out;clear HC4;obtain ⟨t447, A6, H⟩ := bx H;(try dsimp -simprocs only at H)
  by_cases c7 : t447 = true
  ·subst c7;rw [if_pos rfl] at H;obtain ⟨t448, A8, H⟩ := bx H;(try dsimp -simprocs only at H)
   by_cases c9 : t448 ≥ 1000
   ·rw [if_pos c9] at H;have c9b0 := dge c9;clear c9;(first | rw [c9b0] | (simp only [i64_w, i32_w]; rw [c9b0]) | skip);have H' := Aside0.mk H;clear H;obtain ⟨hcz10_0, hcz10_1, hcz10_2, hcz10_3, hcz10_4, hfz10_0, hfz10_1, hfz10_2, hfz10_3, hfz10_4⟩ := cells5 BK446;go_wp2_with (first | ((with_reducible refine gate_callee (f := 9) rfl ?_); refine goL (some 9) Tryd.func9 #[.agg #[.slice A0_0 l0_0.length c0_0, .slice A0_1 l0_1.length c0_1, .slice A0_2 l0_2.length c0_2, .slice A0_3 l0_3.length c0_3, .int .i64 a0_4]] ?_; (with_reducible refine (marginaliaref11_Small.calls k _ _ l0_0 _ _ l0_1 _ _ l0_2 _ _ l0_3 a0_4 true _ (Cs HR0_0) HC0_0.out (Cs HR0_1) HC0_1.out (Cs HR0_2) HC0_2.out (Cs HR0_3) HC0_3.out A6.out).mono ?_); rintro e w11 ⟨rfl, hb⟩; refine ⟨_, rfl, ?_⟩; replace BK446 := Bb BK446 hb; replace HB := Bs hb; clear hb) | (go_at_call 20; (with_reducible refine (marginaliaref09_Weight.calls k _ _ l1 1000 60 t448 _ (Cs HR1) HC1.out A8.out).mono ?_); rintro e w12 ⟨rfl, hb⟩; replace BK446 := Bb BK446 hb; replace HB := Bs hb; clear hb));go_meet
    case rel => exact ⟨_, (true), Rs, H', ⟨On⟩, ⟨(Bk BK446)⟩, ⟨Bw⟩⟩
   rw [if_neg c9] at H;have c9b0 := nge c9;clear c9;(first | rw [c9b0] | (simp only [i64_w, i32_w]; rw [c9b0]) | skip)
   by_cases c13 : a2 < 0
   ·rw [if_pos c13] at H;have c13b0 := decide_eq_true c13;clear c13;have H' := Aside0.mk H;clear H;obtain ⟨hcz14_0, hcz14_1, hcz14_2, hcz14_3, hcz14_4, hfz14_0, hfz14_1, hfz14_2, hfz14_3, hfz14_4⟩ := cells5 BK446;go_wp2_with (first | ((with_reducible refine gate_callee (f := 9) rfl ?_); refine goL (some 9) Tryd.func9 #[.agg #[.slice A0_0 l0_0.length c0_0, .slice A0_1 l0_1.length c0_1, .slice A0_2 l0_2.length c0_2, .slice A0_3 l0_3.length c0_3, .int .i64 a0_4]] ?_; (with_reducible refine (marginaliaref11_Small.calls k _ _ l0_0 _ _ l0_1 _ _ l0_2 _ _ l0_3 a0_4 true _ (Cs HR0_0) HC0_0.out (Cs HR0_1) HC0_1.out (Cs HR0_2) HC0_2.out (Cs HR0_3) HC0_3.out A6.out).mono ?_); rintro e w15 ⟨rfl, hb⟩; refine ⟨_, rfl, ?_⟩; replace BK446 := Bb BK446 hb; replace HB := Bs hb; clear hb) | (go_at_call 20; (with_reducible refine (marginaliaref09_Weight.calls k _ _ l1 1000 60 t448 _ (Cs HR1) HC1.out A8.out).mono ?_); rintro e w16 ⟨rfl, hb⟩; replace BK446 := Bb BK446 hb; replace HB := Bs hb; clear hb));go_meet
    case rel => exact ⟨_, (true), Rs, H', ⟨On⟩, ⟨(Bk BK446)⟩, ⟨Bw⟩⟩
   rw [if_neg c13] at H;have c13b0 := decide_eq_false c13;clear c13;have H' := Aside0.mk H;clear H;obtain ⟨hcz17_0, hcz17_1, hcz17_2, hcz17_3, hcz17_4, hfz17_0, hfz17_1, hfz17_2, hfz17_3, hfz17_4⟩ := cells5 BK446;go_wp2_with (first | ((with_reducible refine gate_callee (f := 9) rfl ?_); refine goL (some 9) Tryd.func9 #[.agg #[.slice A0_0 l0_0.length c0_0, .slice A0_1 l0_1.length c0_1, .slice A0_2 l0_2.length c0_2, .slice A0_3 l0_3.length c0_3, .int .i64 a0_4]] ?_; (with_reducible refine (marginaliaref11_Small.calls k _ _ l0_0 _ _ l0_1 _ _ l0_2 _ _ l0_3 a0_4 true _ (Cs HR0_0) HC0_0.out (Cs HR0_1) HC0_1.out (Cs HR0_2) HC0_2.out (Cs HR0_3) HC0_3.out A6.out).mono ?_); rintro e w18 ⟨rfl, hb⟩; refine ⟨_, rfl, ?_⟩; replace BK446 := Bb BK446 hb; replace HB := Bs hb; clear hb) | (go_at_call 20; (with_reducible refine (marginaliaref09_Weight.calls k _ _ l1 1000 60 t448 _ (Cs HR1) HC1.out A8.out).mono ?_); rintro e w19 ⟨rfl, hb⟩; replace BK446 := Bb BK446 hb; replace HB := Bs hb; clear hb));go_meet
   case rel => exact ⟨_, (decide (a2 ≥ (l1.length : Int))), Rs, H', ⟨On⟩, ⟨(Bk BK446)⟩, ⟨Bw⟩⟩
  replace c7 := bf c7;subst c7;rw [if_neg (show ¬ (false = true) by decide)] at H;have H' := Aside0.mk H;clear H;obtain ⟨hcz20_0, hcz20_1, hcz20_2, hcz20_3, hcz20_4, hfz20_0, hfz20_1, hfz20_2, hfz20_3, hfz20_4⟩ := cells5 BK446;go_wp2_with (first | ((with_reducible refine gate_callee (f := 9) rfl ?_); refine goL (some 9) Tryd.func9 #[.agg #[.slice A0_0 l0_0.length c0_0, .slice A0_1 l0_1.length c0_1, .slice A0_2 l0_2.length c0_2, .slice A0_3 l0_3.length c0_3, .int .i64 a0_4]] ?_; (with_reducible refine (marginaliaref11_Small.calls k _ _ l0_0 _ _ l0_1 _ _ l0_2 _ _ l0_3 a0_4 false _ (Cs HR0_0) HC0_0.out (Cs HR0_1) HC0_1.out (Cs HR0_2) HC0_2.out (Cs HR0_3) HC0_3.out A6.out).mono ?_); rintro e w21 ⟨rfl, hb⟩; refine ⟨_, rfl, ?_⟩; replace BK446 := Bb BK446 hb; replace HB := Bs hb; clear hb));go_meet
  case rel => exact ⟨_, (true), Rs, H', ⟨On⟩, ⟨(Bk BK446)⟩, ⟨Bw⟩⟩
 case rest =>
  clear HC4;(try clear c1);(try clear p2);(try clear c7);(try clear c8);(try clear c9);(try clear c9b0);(try clear c13);(try clear c13b0);(try clear hcz10_0 hcz10_1 hcz10_2 hcz10_3 hcz10_4);(try clear hcz14_0 hcz14_1 hcz14_2 hcz14_3 hcz14_4);(try clear hcz17_0 hcz17_1 hcz17_2 hcz17_3 hcz17_4);(try clear hcz20_0 hcz20_1 hcz20_2 hcz20_3 hcz20_4);(try clear hfz10_0 hfz10_1 hfz10_2 hfz10_3 hfz10_4);(try clear hfz14_0 hfz14_1 hfz14_2 hfz14_3 hfz14_4);(try clear hfz17_0 hfz17_1 hfz17_2 hfz17_3 hfz17_4);(try clear hfz20_0 hfz20_1 hfz20_2 hfz20_3 hfz20_4);obtain ⟨kq, x25_3, rfl, HA, HJ3, BK446, HB⟩ := hcut
  cases kq with
  | zero => exact absurd HA.out (by simp [marginalialaw11_PolicyPart.j0])
  | succ kj3 =>
   have H := HA.out;clear HA;simp only [marginalialaw11_PolicyPart.j0] at H
   by_cases c22 : x25_3 = true
   ·subst c22;rw [if_pos rfl] at H;obtain ⟨t449, A23, H⟩ := bx H;replace H : (some t449) = some r := H;obtain rfl := si H;go_wp2_with (first | ((with_reducible refine gate_callee (f := 10) rfl ?_); refine goL (some 26) Tryd.func10 #[] ?_; (with_reducible refine (marginalialaw11_alive.calls kj3  t449 _ m_ ?hmS A23.out).mono ?_); (case hmS => exact (pw_cell_below Bw HM.out)); rintro e w24 ⟨rfl, hb⟩; refine ⟨_, rfl, ?_⟩; replace BK446 := Bb BK446 hb; replace HB := Bs hb; clear hb));go_ret;exact ⟨Re, Bw⟩
   replace c22 := bf c22;subst c22;rw [if_neg (show ¬ (false = true) by decide)] at H;obtain ⟨t450, A25, H⟩ := bx H;(try dsimp -simprocs only at H);obtain ⟨t451, A26, H⟩ := bx H;(try dsimp -simprocs only at H)
   by_cases c27 : (t450 != (t451 == 0)) = true
   ·rw [if_pos c27] at H;have c27b0 : (t450 != (t451 == 0)) = true := c27;(try (have c27b1 : decide (t450 = (t451 == 0)) = false := by simpa using c27));(try (have c27b2 : (t450 == (t451 == 0)) = false := by simpa using c27));(try (have c27b3 : ¬ (t450 = (t451 == 0)) := by simpa using c27));clear c27;obtain rfl := si H;(try go_wp2);replace BK446 := Aside0.mk (blk_drew BK446.out);replace HB := Aside0.mk (below_drew1 HB.out);refine start_ (n := 6) (S := fun w' => w'.cell? ⟨gb446, 0, none⟩ = some (.slice A0_0 l0_0.length c0_0) ∧ w'.cell? ⟨gb446, 1, none⟩ = some (.slice A0_1 l0_1.length c0_1) ∧ w'.cell? ⟨gb446, 2, none⟩ = some (.slice A0_2 l0_2.length c0_2) ∧ w'.cell? ⟨gb446, 3, none⟩ = some (.slice A0_3 l0_3.length c0_3) ∧ w'.cell? ⟨gb446, 4, none⟩ = some (.int .i64 a0_4)) (ds := []) #[false, false, false, false, false, false] (by kernel_rfl) rfl rfl ⟨(blk_cell BK446.out 0).trans rfl, (blk_cell BK446.out 1).trans rfl, (blk_cell BK446.out 2).trans rfl, (blk_cell BK446.out 3).trans rfl, (blk_cell BK446.out 4).trans rfl⟩ (fun hHeld => ?_);generalize wc.drew = w28 at BK446 HB hHeld ⊢;refine take_ (i := 0) (N := some 27) (v := ?_) (a' := ?_) (bl 6 1) rfl rfl (by kernel_rfl) (fun _ _ _ h => h) (Or.inl ⟨by rfl, ?_⟩) hHeld ?_ ?_
    rotate_left
    ·rintro w' ⟨s0, s1, s2, s3, s4⟩;go_simp
     with_reducible rfl
    rotate_left
    ·simp only [Act.put, List.setIfInBounds_toArray, List.set_cons_zero, List.set_cons_succ, i64_w, i32_w];rfl
    refine take_ (i := 2) (N := some 29) (v := ?_) (a' := ?_) (bl 6 5) rfl rfl (by kernel_rfl) (fun _ _ _ h => h) (Or.inl ⟨by rfl, ?_⟩) hHeld ?_ ?_
    rotate_left
    ·rintro w' ⟨s0, s1, s2, s3, s4⟩;go_simp
     with_reducible rfl
    rotate_left
    ·simp only [Act.put, List.setIfInBounds_toArray, List.set_cons_zero, List.set_cons_succ, i64_w, i32_w];rfl
    refine one_ (i := 1) (N := some 28) (bl 6 7) rfl rfl (by kernel_rfl) (by decide) (fun K hK => ?_);refine goG Tryd.func21 #[.agg #[.slice A0_0 l0_0.length c0_0, .slice A0_1 l0_1.length c0_1, .slice A0_2 l0_2.length c0_2, .slice A0_3 l0_3.length c0_3, .int .i64 a0_4], .slice none 0 0] ?_;refine (policy_Allowed.calls kj3 _ _ l0_0 _ _ l0_1 _ _ l0_2 _ _ l0_3 a0_4 _ _ ([] : List (S49)) t450 _ (Cs HR0_0) HC0_0.out (Cs HR0_1) HC0_1.out (Cs HR0_2) HC0_2.out (Cs HR0_3) HC0_3.out ?side9 ?side10 A25.out).mono ?_;(case side9 => exact Kd.C_nil _ _);(case side10 => exact Nat.le_refl _);rintro e w29 ⟨rfl, hb⟩;refine ⟨_, rfl, ?_⟩;replace BK446 := Bb BK446 hb;replace HB := Bs hb;(try clear hb);(try clear hb2);(try clear hk);(try clear hi);refine hK.out _ _ ⟨(blk_cell BK446.out 0).trans rfl, (blk_cell BK446.out 1).trans rfl, (blk_cell BK446.out 2).trans rfl, (blk_cell BK446.out 3).trans rfl, (blk_cell BK446.out 4).trans rfl⟩ (fun hHeld => ?_);clear hK K;refine norm_ (a' := ?_) ?_ ?_
    rotate_left
    ·show Act.put _ (some 28) _ = _;simp only [Act.put, List.setIfInBounds_toArray, List.set_cons_zero, List.set_cons_succ, i64_w, i32_w];rfl
    refine one_ (i := 3) (N := some 30) (bl 6 15) rfl rfl (by kernel_rfl) (by decide) (fun K hK => ?_);refine goG Tryd.func11 #[.agg #[.slice A0_0 l0_0.length c0_0, .slice A0_1 l0_1.length c0_1, .slice A0_2 l0_2.length c0_2, .slice A0_3 l0_3.length c0_3, .int .i64 a0_4]] ?_
    with_reducible refine (policy_Check.calls kj3 _ _ l0_0 _ _ l0_1 _ _ l0_2 _ _ l0_3 a0_4 t451 _ (Cs HR0_0) HC0_0.out (Cs HR0_1) HC0_1.out (Cs HR0_2) HC0_2.out (Cs HR0_3) HC0_3.out A26.out).mono ?_
    rintro e w30 ⟨rfl, hb⟩;refine ⟨_, rfl, ?_⟩;replace BK446 := Bb BK446 hb;replace HB := Bs hb;(try clear hb);(try clear hb2);(try clear hk);(try clear hi);refine hK.out _ _ ⟨(blk_cell BK446.out 0).trans rfl, (blk_cell BK446.out 1).trans rfl, (blk_cell BK446.out 2).trans rfl, (blk_cell BK446.out 3).trans rfl, (blk_cell BK446.out 4).trans rfl⟩ (fun hHeld => ?_);clear hK K;refine norm_ (a' := ?_) ?_ ?_
    rotate_left
    ·show Act.put _ (some 30) _ = _;simp only [Act.put, List.setIfInBounds_toArray, List.set_cons_zero, List.set_cons_succ, i64_w, i32_w];rfl
    refine pureS 4 31 (bl 6 31) ?_;refine pureS 5 32 (bl 6 63) ?_;refine done_ (by kernel_rfl) ?_;(try go_wp2);go_ret;exact ⟨Re, Bw⟩
   rw [if_neg c27] at H;have c27b0 : (t450 != (t451 == 0)) = false := by simpa using c27
   (try (have c27b1 : decide (t450 = (t451 == 0)) = true := by simpa using c27));(try (have c27b2 : (t450 == (t451 == 0)) = true := by simpa using c27));clear c27;obtain ⟨t452, A31, H⟩ := bx H;(try dsimp -simprocs only at H);obtain ⟨t453, A32, H⟩ := bx H;(try dsimp -simprocs only at H)
   by_cases c33 : t453 = true
   ·subst c33;rw [if_pos rfl] at H
    by_cases c34 : t452 = true
    ·subst c34;rw [if_pos rfl] at H
     by_cases c35 : 0 ≤ a2
     ·rw [if_pos c35] at H;have c35b0 := eq_true c35;have c35b1 : decide (0 ≤ a2) = true := decide_eq_true c35;clear c35
      by_cases c36 : a2 ≤ (l1.length : Int)
      ·rw [if_pos c36] at H;have c36b0 := eq_true c36;have c36b1 : decide (a2 ≤ (l1.length : Int)) = true := decide_eq_true c36;clear c36;obtain ⟨y454, hy454⟩ : ∃ y_ : List (S49), y_ = (l1.take (a2 : Int).toNat) := ⟨_, rfl⟩;replace H : ((policy_Allowed.f kj3 l0_0 l0_1 l0_2 l0_3 a0_4 y454).bind fun t458 => (if t458 = true then (if a2 < (l1.length : Int) then ((policy_Allowed.f kj3 l0_0 l0_1 l0_2 l0_3 a0_4 ((rd_T49 l1 a2).f5)).bind fun t460 => (some t460)) else (none)) else (some false))) = some r := by first | (rw [hy454]; with_reducible exact H) | (have H2_ := (Option.bind_some _ _).symm.trans H; rw [hy454]; with_reducible exact H2_) | (have H2_ := (Option.bind_some _ _).symm.trans H; with_reducible exact H2_) | with_reducible exact H | (rw [hy454]; exact H) | exact H
       have Ny454 := Aside0.mk hy454;clear hy454;obtain ⟨t458, A37, H⟩ := bx H;(try dsimp -simprocs only at H)
       by_cases c38 : t458 = true
       ·subst c38;rw [if_pos rfl] at H
        by_cases c39 : a2 < (l1.length : Int)
        ·rw [if_pos c39] at H;have c39b0 := decide_eq_true c39;clear c39;obtain ⟨t460, A40, H⟩ := bx H;replace H : (some t460) = some r := H;obtain rfl := si H;(try go_wp2);replace BK446 := Aside0.mk (blk_drew BK446.out);replace HB := Aside0.mk (below_drew1 HB.out);refine start_ (n := 6) (S := fun w' => w'.cell? ⟨gb446, 0, none⟩ = some (.slice A0_0 l0_0.length c0_0) ∧ w'.cell? ⟨gb446, 1, none⟩ = some (.slice A0_1 l0_1.length c0_1) ∧ w'.cell? ⟨gb446, 2, none⟩ = some (.slice A0_2 l0_2.length c0_2) ∧ w'.cell? ⟨gb446, 3, none⟩ = some (.slice A0_3 l0_3.length c0_3) ∧ w'.cell? ⟨gb446, 4, none⟩ = some (.int .i64 a0_4)) (ds := []) #[false, false, false, false, false, false] (by kernel_rfl) rfl rfl ⟨(blk_cell BK446.out 0).trans rfl, (blk_cell BK446.out 1).trans rfl, (blk_cell BK446.out 2).trans rfl, (blk_cell BK446.out 3).trans rfl, (blk_cell BK446.out 4).trans rfl⟩ (fun hHeld => ?_);generalize wc.drew = w41 at BK446 HB hHeld ⊢;refine take_ (i := 0) (N := some 27) (v := ?_) (a' := ?_) (bl 6 1) rfl rfl (by kernel_rfl) (fun _ _ _ h => h) (Or.inl ⟨by rfl, ?_⟩) hHeld ?_ ?_
         rotate_left
         ·rintro w' ⟨s0, s1, s2, s3, s4⟩;go_simp
          with_reducible rfl
         rotate_left
         ·simp only [Act.put, List.setIfInBounds_toArray, List.set_cons_zero, List.set_cons_succ, i64_w, i32_w];rfl
         refine take_ (i := 2) (N := some 29) (v := ?_) (a' := ?_) (bl 6 5) rfl rfl (by kernel_rfl) (fun _ _ _ h => h) (Or.inl ⟨by rfl, ?_⟩) hHeld ?_ ?_
         rotate_left
         ·rintro w' ⟨s0, s1, s2, s3, s4⟩;go_simp
          with_reducible rfl
         rotate_left
         ·simp only [Act.put, List.setIfInBounds_toArray, List.set_cons_zero, List.set_cons_succ, i64_w, i32_w];rfl
         refine one_ (i := 1) (N := some 28) (bl 6 7) rfl rfl (by kernel_rfl) (by decide) (fun K hK => ?_);refine goG Tryd.func21 #[.agg #[.slice A0_0 l0_0.length c0_0, .slice A0_1 l0_1.length c0_1, .slice A0_2 l0_2.length c0_2, .slice A0_3 l0_3.length c0_3, .int .i64 a0_4], .slice none 0 0] ?_;refine (policy_Allowed.calls kj3 _ _ l0_0 _ _ l0_1 _ _ l0_2 _ _ l0_3 a0_4 _ _ ([] : List (S49)) t450 _ (Cs HR0_0) HC0_0.out (Cs HR0_1) HC0_1.out (Cs HR0_2) HC0_2.out (Cs HR0_3) HC0_3.out ?side9 ?side10 A25.out).mono ?_;(case side9 => exact Kd.C_nil _ _);(case side10 => exact Nat.le_refl _);rintro e w42 ⟨rfl, hb⟩;refine ⟨_, rfl, ?_⟩;replace BK446 := Bb BK446 hb;replace HB := Bs hb;(try clear hb);(try clear hb2);(try clear hk);(try clear hi);refine hK.out _ _ ⟨(blk_cell BK446.out 0).trans rfl, (blk_cell BK446.out 1).trans rfl, (blk_cell BK446.out 2).trans rfl, (blk_cell BK446.out 3).trans rfl, (blk_cell BK446.out 4).trans rfl⟩ (fun hHeld => ?_);clear hK K;refine norm_ (a' := ?_) ?_ ?_
         rotate_left
         ·show Act.put _ (some 28) _ = _;simp only [Act.put, List.setIfInBounds_toArray, List.set_cons_zero, List.set_cons_succ, i64_w, i32_w];rfl
         refine one_ (i := 3) (N := some 30) (bl 6 15) rfl rfl (by kernel_rfl) (by decide) (fun K hK => ?_);refine goG Tryd.func11 #[.agg #[.slice A0_0 l0_0.length c0_0, .slice A0_1 l0_1.length c0_1, .slice A0_2 l0_2.length c0_2, .slice A0_3 l0_3.length c0_3, .int .i64 a0_4]] ?_
         with_reducible refine (policy_Check.calls kj3 _ _ l0_0 _ _ l0_1 _ _ l0_2 _ _ l0_3 a0_4 t451 _ (Cs HR0_0) HC0_0.out (Cs HR0_1) HC0_1.out (Cs HR0_2) HC0_2.out (Cs HR0_3) HC0_3.out A26.out).mono ?_
         rintro e w43 ⟨rfl, hb⟩;refine ⟨_, rfl, ?_⟩;replace BK446 := Bb BK446 hb;replace HB := Bs hb;(try clear hb);(try clear hb2);(try clear hk);(try clear hi);refine hK.out _ _ ⟨(blk_cell BK446.out 0).trans rfl, (blk_cell BK446.out 1).trans rfl, (blk_cell BK446.out 2).trans rfl, (blk_cell BK446.out 3).trans rfl, (blk_cell BK446.out 4).trans rfl⟩ (fun hHeld => ?_);clear hK K;refine norm_ (a' := ?_) ?_ ?_
         rotate_left
         ·show Act.put _ (some 30) _ = _;simp only [Act.put, List.setIfInBounds_toArray, List.set_cons_zero, List.set_cons_succ, i64_w, i32_w];rfl
         refine pureS 4 31 (bl 6 31) ?_;refine pureS 5 32 (bl 6 63) ?_;refine done_ (by kernel_rfl) ?_;obtain ⟨hcz44_0, hcz44_1, hcz44_2, hcz44_3, hcz44_4, hfz44_0, hfz44_1, hfz44_2, hfz44_3, hfz44_4⟩ := cells5 BK446;(try go_wp2_with (first | ((with_reducible refine gate_callee (f := 21) rfl ?_); refine goL (some 35) Tryd.func21 #[.agg #[.slice A0_0 l0_0.length c0_0, .slice A0_1 l0_1.length c0_1, .slice A0_2 l0_2.length c0_2, .slice A0_3 l0_3.length c0_3, .int .i64 a0_4], .slice A1 l1.length c1] ?_; (with_reducible refine (policy_Allowed.calls kj3 _ _ l0_0 _ _ l0_1 _ _ l0_2 _ _ l0_3 a0_4 _ _ l1 true _ (Cs HR0_0) HC0_0.out (Cs HR0_1) HC0_1.out (Cs HR0_2) HC0_2.out (Cs HR0_3) HC0_3.out (Cs HR1) HC1.out A31.out).mono ?_); rintro e w45 ⟨rfl, hb⟩; refine ⟨_, rfl, ?_⟩; replace BK446 := Bb BK446 hb; replace HB := Bs hb; clear hb)));replace BK446 := Aside0.mk (blk_drew BK446.out);replace HB := Aside0.mk (below_drew1 HB.out);have p459 : 0 ≤ (a2 : Int) := Od;have q459 : a2 < (l1.length : Int) := Od;obtain ⟨ad459, A459_3, c459_3, A459_5, c459_5, e459, hx459_0, hx459_1, hx459_2, hx459_3, hx459_4, hx459_5, hl459_3, hi459_3, hl459_5, hi459_5⟩ := at_T49 HR1.out a2 p459 q459;have hw459_5 := hx459_5;have hw459_4 := hx459_4;have hw459_3 := hx459_3;have hw459_2 := hx459_2;have hw459_1 := hx459_1;have hw459_0 := hx459_0;cases e459;replace hx459_0 := Hx hx459_0;replace hx459_1 := Hx hx459_1;replace hx459_2 := Hx hx459_2;replace hx459_3 := Hx hx459_3;replace hx459_4 := Hx hx459_4;replace hx459_5 := Hx hx459_5;have HR459_3 := Aside0.mk hi459_3;have HC459_3 := Aside0.mk hl459_3;clear hi459_3 hl459_3;have HR459_5 := Aside0.mk hi459_5;have HC459_5 := Aside0.mk hl459_5;clear hi459_5 hl459_5;replace p459 := eq_true p459;replace q459 := eq_true q459;refine start_ (n := 22) (S := fun w' => w'.cell? ⟨gb446, 0, none⟩ = some (.slice A0_0 l0_0.length c0_0) ∧ w'.cell? ⟨gb446, 1, none⟩ = some (.slice A0_1 l0_1.length c0_1) ∧ w'.cell? ⟨gb446, 2, none⟩ = some (.slice A0_2 l0_2.length c0_2) ∧ w'.cell? ⟨gb446, 3, none⟩ = some (.slice A0_3 l0_3.length c0_3) ∧ w'.cell? ⟨gb446, 4, none⟩ = some (.int .i64 a0_4) ∧ w'.cell? (ad459.add ((a2).toNat * 6)) = some (.int .i64 ((rd_T49 l1 a2).f0)) ∧ w'.cell? ⟨(ad459.add ((a2).toNat * 6)).block, (ad459.add ((a2).toNat * 6)).off + 1, none⟩ = some (.int .i64 ((rd_T49 l1 a2).f1)) ∧ w'.cell? ⟨(ad459.add ((a2).toNat * 6)).block, (ad459.add ((a2).toNat * 6)).off + 2, none⟩ = some (.string ((rd_T49 l1 a2).f2)) ∧ w'.cell? ⟨(ad459.add ((a2).toNat * 6)).block, (ad459.add ((a2).toNat * 6)).off + 3, none⟩ = some (.slice A459_3 ((rd_T49 l1 a2).f3).length c459_3) ∧ w'.cell? ⟨(ad459.add ((a2).toNat * 6)).block, (ad459.add ((a2).toNat * 6)).off + 4, none⟩ = some (.string ((rd_T49 l1 a2).f4)) ∧ w'.cell? ⟨(ad459.add ((a2).toNat * 6)).block, (ad459.add ((a2).toNat * 6)).off + 5, none⟩ = some (.slice A459_5 ((rd_T49 l1 a2).f5).length c459_5)) (ds := []) #[false, false, false, false, false, false, false, false, false, false, false, false, false, false, false, false, false, false, false, false, false, false] (by kernel_rfl) rfl rfl (and5 BK446 ⟨((HB.out.cell (World.block_lt_of_cell? w _ hw459_0)).trans hw459_0), ((HB.out.cell (World.block_lt_of_cell? w _ hw459_1)).trans hw459_1), ((HB.out.cell (World.block_lt_of_cell? w _ hw459_2)).trans hw459_2), ((HB.out.cell (World.block_lt_of_cell? w _ hw459_3)).trans hw459_3), ((HB.out.cell (World.block_lt_of_cell? w _ hw459_4)).trans hw459_4), ((HB.out.cell (World.block_lt_of_cell? w _ hw459_5)).trans hw459_5)⟩) (fun hHeld => ?_); refine with_tabW marginalialaw11_PolicyPart.tab6 marginalialaw11_PolicyPart.bits6 (fun HT_ HW_ => ?_)
         generalize w45.drew = w46 at BK446 HB HR459_3 HR459_5 hx459_0 hx459_1 hx459_2 hx459_3 hx459_4 hx459_5 hHeld ⊢;refine one_ (i := 0) (N := some 36) (bl 22 1) rfl rfl (one_of HT_.out (by kernel_rfl)) (by decide) (fun K hK => ?_);refine goG Tryd.func10 #[] ?_
         with_reducible refine (marginalialaw11_alive.calls kj3  true _ m_ ?hmS A32.out).mono ?_
         case hmS => exact (pw_cell_below Bw HM.out)
         rintro e w47 ⟨rfl, hb⟩;refine ⟨_, rfl, ?_⟩;replace BK446 := Bb BK446 hb;replace HB := Bs hb;(try clear hb);(try clear hb2);(try clear hk);(try clear hi);have q48 : (a2 : Int) ≤ ((l1.length : Int) : Int) := Od;obtain ⟨i048, hi048, _, hsz48, _⟩ := info_parts info49;have hroom48 : l1.length ≤ c1 := HC1.out;have hC48 : Kd.C k49 _ (some ad459) l1.length l1 := HR1.out;have hcut48 := cut_to (P := Tryd.prog) 38 49 .i64 Tryd.underlying38 hi048 (some ad459) l1.length c1 a2 (Od) q48 hroom48;have hr48 := Kd.C_take (m := (a2 : Int).toNat) hC48 (by omega);have hy48 : y454.length = (a2 : Int).toNat := (by rw [Ny454.out, List.length_take]; omega);rw [← Ny454.out] at hr48;rw [← hy48] at hcut48;have HR457 := Aside0.mk hr48;have HC457 := Aside0.mk (show y454.length ≤ c1 from by omega);clear hr48 hC48 hroom48 hi048 hsz48;have KY48 := Aside0.mk hy48;clear hy48;replace q48 := eq_true q48;refine hK.out _ _ (and5 BK446 ⟨((HB.out.cell (World.block_lt_of_cell? w _ hw459_0)).trans hw459_0), ((HB.out.cell (World.block_lt_of_cell? w _ hw459_1)).trans hw459_1), ((HB.out.cell (World.block_lt_of_cell? w _ hw459_2)).trans hw459_2), ((HB.out.cell (World.block_lt_of_cell? w _ hw459_3)).trans hw459_3), ((HB.out.cell (World.block_lt_of_cell? w _ hw459_4)).trans hw459_4), ((HB.out.cell (World.block_lt_of_cell? w _ hw459_5)).trans hw459_5)⟩) (fun hHeld => ?_);clear hK K;refine norm_ (a' := ?_) ?_ ?_
         rotate_left
         ·show Act.put _ (some 36) _ = _;simp only [Act.put, List.setIfInBounds_toArray, List.set_cons_zero, List.set_cons_succ, i64_w, i32_w];rfl
         refine pureS 1 37 (bl 22 3) ?_;refine pureS 2 38 (bl 22 7) ?_;refine pureS 3 39 (bl 22 15) ?_;refine pureS 4 40 (bl 22 31) ?_;refine pureS 6 42 (bl 22 95) ?_;refine pureS 7 43 (bl 22 223) ?_;refine pureS 8 44 (bl 22 479) ?_;refine takeS 5 41 (bl 22 511) hHeld ?_;refine one_ (i := 9) (N := some 45) (bl 22 1023) rfl rfl (one_of HT_.out (by kernel_rfl)) (by decide) (fun K hK => ?_);refine goG Tryd.func21 #[.agg #[.slice A0_0 l0_0.length c0_0, .slice A0_1 l0_1.length c0_1, .slice A0_2 l0_2.length c0_2, .slice A0_3 l0_3.length c0_3, .int .i64 a0_4], .slice (some ad459) y454.length c1] ?_
         with_reducible refine (policy_Allowed.calls kj3 _ _ l0_0 _ _ l0_1 _ _ l0_2 _ _ l0_3 a0_4 _ _ y454 true _ (Cs HR0_0) HC0_0.out (Cs HR0_1) HC0_1.out (Cs HR0_2) HC0_2.out (Cs HR0_3) HC0_3.out (Cs HR457) HC457.out A37.out).mono ?_
         rintro e w49 ⟨rfl, hb⟩;refine ⟨_, rfl, ?_⟩;replace BK446 := Bb BK446 hb;replace HB := Bs hb;(try clear hb);(try clear hb2);(try clear hk);(try clear hi);refine hK.out _ _ (and5 BK446 ⟨((HB.out.cell (World.block_lt_of_cell? w _ hw459_0)).trans hw459_0), ((HB.out.cell (World.block_lt_of_cell? w _ hw459_1)).trans hw459_1), ((HB.out.cell (World.block_lt_of_cell? w _ hw459_2)).trans hw459_2), ((HB.out.cell (World.block_lt_of_cell? w _ hw459_3)).trans hw459_3), ((HB.out.cell (World.block_lt_of_cell? w _ hw459_4)).trans hw459_4), ((HB.out.cell (World.block_lt_of_cell? w _ hw459_5)).trans hw459_5)⟩) (fun hHeld => ?_);clear hK K;refine norm_ (a' := ?_) ?_ ?_
         rotate_left
         ·show Act.put _ (some 45) _ = _;simp only [Act.put, List.setIfInBounds_toArray, List.set_cons_zero, List.set_cons_succ, i64_w, i32_w];rfl
         refine pureS 10 46 (bl 22 2047) ?_;refine pureS 12 48 (bl 22 6143) ?_;refine pureS 13 49 (bl 22 14335) ?_;refine pureS 14 50 (bl 22 30719) ?_;refine pureS 15 51 (bl 22 63487) ?_;refine takeS 11 47 (bl 22 65535) hHeld ?_;refine takeS 16 52 (bl 22 131071) hHeld ?_;refine one_ (i := 17) (N := some 53) (bl 22 262143) rfl rfl (one_of HT_.out (by kernel_rfl)) (by decide) (fun K hK => ?_);refine goG Tryd.func21 #[.agg #[.slice A0_0 l0_0.length c0_0, .slice A0_1 l0_1.length c0_1, .slice A0_2 l0_2.length c0_2, .slice A0_3 l0_3.length c0_3, .int .i64 a0_4], .slice A459_5 ((rd_T49 l1 a2).f5).length c459_5] ?_
         with_reducible refine (policy_Allowed.calls kj3 _ _ l0_0 _ _ l0_1 _ _ l0_2 _ _ l0_3 a0_4 _ _ ((rd_T49 l1 a2).f5) t460 _ (Cs HR0_0) HC0_0.out (Cs HR0_1) HC0_1.out (Cs HR0_2) HC0_2.out (Cs HR0_3) HC0_3.out (Cs HR459_5) HC459_5.out A40.out).mono ?_
         rintro e w50 ⟨rfl, hb⟩;refine ⟨_, rfl, ?_⟩;replace BK446 := Bb BK446 hb;replace HB := Bs hb;(try clear hb);(try clear hb2);(try clear hk);(try clear hi);refine hK.out _ _ (and5 BK446 ⟨((HB.out.cell (World.block_lt_of_cell? w _ hw459_0)).trans hw459_0), ((HB.out.cell (World.block_lt_of_cell? w _ hw459_1)).trans hw459_1), ((HB.out.cell (World.block_lt_of_cell? w _ hw459_2)).trans hw459_2), ((HB.out.cell (World.block_lt_of_cell? w _ hw459_3)).trans hw459_3), ((HB.out.cell (World.block_lt_of_cell? w _ hw459_4)).trans hw459_4), ((HB.out.cell (World.block_lt_of_cell? w _ hw459_5)).trans hw459_5)⟩) (fun hHeld => ?_);clear hK K;refine norm_ (a' := ?_) ?_ ?_
         rotate_left
         ·show Act.put _ (some 53) _ = _;simp only [Act.put, List.setIfInBounds_toArray, List.set_cons_zero, List.set_cons_succ, i64_w, i32_w];rfl
         refine pureS 18 54 (bl 22 524287) ?_;refine pureS 19 55 (bl 22 1048575) ?_;refine pureS 20 56 (bl 22 2097151) ?_;refine pureS 21 6 (bl 22 4194303) ?_;refine done_ (done_of HT_.out (by kernel_rfl)) ?_;(try go_wp2);go_ret;exact ⟨Re, Bw⟩
        rw [if_neg c39] at H;exact absurd H (by simp)
       replace c38 := bf c38;subst c38;rw [if_neg (show ¬ (false = true) by decide)] at H;obtain rfl := si H;(try go_wp2);replace BK446 := Aside0.mk (blk_drew BK446.out);replace HB := Aside0.mk (below_drew1 HB.out);refine start_ (n := 6) (S := fun w' => w'.cell? ⟨gb446, 0, none⟩ = some (.slice A0_0 l0_0.length c0_0) ∧ w'.cell? ⟨gb446, 1, none⟩ = some (.slice A0_1 l0_1.length c0_1) ∧ w'.cell? ⟨gb446, 2, none⟩ = some (.slice A0_2 l0_2.length c0_2) ∧ w'.cell? ⟨gb446, 3, none⟩ = some (.slice A0_3 l0_3.length c0_3) ∧ w'.cell? ⟨gb446, 4, none⟩ = some (.int .i64 a0_4)) (ds := []) #[false, false, false, false, false, false] (by kernel_rfl) rfl rfl ⟨(blk_cell BK446.out 0).trans rfl, (blk_cell BK446.out 1).trans rfl, (blk_cell BK446.out 2).trans rfl, (blk_cell BK446.out 3).trans rfl, (blk_cell BK446.out 4).trans rfl⟩ (fun hHeld => ?_);generalize wc.drew = w51 at BK446 HB hHeld ⊢;refine take_ (i := 0) (N := some 27) (v := ?_) (a' := ?_) (bl 6 1) rfl rfl (by kernel_rfl) (fun _ _ _ h => h) (Or.inl ⟨by rfl, ?_⟩) hHeld ?_ ?_
       rotate_left
       ·rintro w' ⟨s0, s1, s2, s3, s4⟩;go_simp
        with_reducible rfl
       rotate_left
       ·simp only [Act.put, List.setIfInBounds_toArray, List.set_cons_zero, List.set_cons_succ, i64_w, i32_w];rfl
       refine take_ (i := 2) (N := some 29) (v := ?_) (a' := ?_) (bl 6 5) rfl rfl (by kernel_rfl) (fun _ _ _ h => h) (Or.inl ⟨by rfl, ?_⟩) hHeld ?_ ?_
       rotate_left
       ·rintro w' ⟨s0, s1, s2, s3, s4⟩;go_simp
        with_reducible rfl
       rotate_left
       ·simp only [Act.put, List.setIfInBounds_toArray, List.set_cons_zero, List.set_cons_succ, i64_w, i32_w];rfl
       refine one_ (i := 1) (N := some 28) (bl 6 7) rfl rfl (by kernel_rfl) (by decide) (fun K hK => ?_);refine goG Tryd.func21 #[.agg #[.slice A0_0 l0_0.length c0_0, .slice A0_1 l0_1.length c0_1, .slice A0_2 l0_2.length c0_2, .slice A0_3 l0_3.length c0_3, .int .i64 a0_4], .slice none 0 0] ?_;refine (policy_Allowed.calls kj3 _ _ l0_0 _ _ l0_1 _ _ l0_2 _ _ l0_3 a0_4 _ _ ([] : List (S49)) t450 _ (Cs HR0_0) HC0_0.out (Cs HR0_1) HC0_1.out (Cs HR0_2) HC0_2.out (Cs HR0_3) HC0_3.out ?side9 ?side10 A25.out).mono ?_;(case side9 => exact Kd.C_nil _ _);(case side10 => exact Nat.le_refl _);rintro e w52 ⟨rfl, hb⟩;refine ⟨_, rfl, ?_⟩;replace BK446 := Bb BK446 hb;replace HB := Bs hb;(try clear hb);(try clear hb2);(try clear hk);(try clear hi);refine hK.out _ _ ⟨(blk_cell BK446.out 0).trans rfl, (blk_cell BK446.out 1).trans rfl, (blk_cell BK446.out 2).trans rfl, (blk_cell BK446.out 3).trans rfl, (blk_cell BK446.out 4).trans rfl⟩ (fun hHeld => ?_);clear hK K;refine norm_ (a' := ?_) ?_ ?_
       rotate_left
       ·show Act.put _ (some 28) _ = _;simp only [Act.put, List.setIfInBounds_toArray, List.set_cons_zero, List.set_cons_succ, i64_w, i32_w];rfl
       refine one_ (i := 3) (N := some 30) (bl 6 15) rfl rfl (by kernel_rfl) (by decide) (fun K hK => ?_);refine goG Tryd.func11 #[.agg #[.slice A0_0 l0_0.length c0_0, .slice A0_1 l0_1.length c0_1, .slice A0_2 l0_2.length c0_2, .slice A0_3 l0_3.length c0_3, .int .i64 a0_4]] ?_
       with_reducible refine (policy_Check.calls kj3 _ _ l0_0 _ _ l0_1 _ _ l0_2 _ _ l0_3 a0_4 t451 _ (Cs HR0_0) HC0_0.out (Cs HR0_1) HC0_1.out (Cs HR0_2) HC0_2.out (Cs HR0_3) HC0_3.out A26.out).mono ?_
       rintro e w53 ⟨rfl, hb⟩;refine ⟨_, rfl, ?_⟩;replace BK446 := Bb BK446 hb;replace HB := Bs hb;(try clear hb);(try clear hb2);(try clear hk);(try clear hi);refine hK.out _ _ ⟨(blk_cell BK446.out 0).trans rfl, (blk_cell BK446.out 1).trans rfl, (blk_cell BK446.out 2).trans rfl, (blk_cell BK446.out 3).trans rfl, (blk_cell BK446.out 4).trans rfl⟩ (fun hHeld => ?_);clear hK K;refine norm_ (a' := ?_) ?_ ?_
       rotate_left
       ·show Act.put _ (some 30) _ = _;simp only [Act.put, List.setIfInBounds_toArray, List.set_cons_zero, List.set_cons_succ, i64_w, i32_w];rfl
       refine pureS 4 31 (bl 6 31) ?_;refine pureS 5 32 (bl 6 63) ?_;refine done_ (by kernel_rfl) ?_;obtain ⟨hcz54_0, hcz54_1, hcz54_2, hcz54_3, hcz54_4, hfz54_0, hfz54_1, hfz54_2, hfz54_3, hfz54_4⟩ := cells5 BK446;(try go_wp2_with (first | ((with_reducible refine gate_callee (f := 21) rfl ?_); refine goL (some 35) Tryd.func21 #[.agg #[.slice A0_0 l0_0.length c0_0, .slice A0_1 l0_1.length c0_1, .slice A0_2 l0_2.length c0_2, .slice A0_3 l0_3.length c0_3, .int .i64 a0_4], .slice A1 l1.length c1] ?_; (with_reducible refine (policy_Allowed.calls kj3 _ _ l0_0 _ _ l0_1 _ _ l0_2 _ _ l0_3 a0_4 _ _ l1 true _ (Cs HR0_0) HC0_0.out (Cs HR0_1) HC0_1.out (Cs HR0_2) HC0_2.out (Cs HR0_3) HC0_3.out (Cs HR1) HC1.out A31.out).mono ?_); rintro e w55 ⟨rfl, hb⟩; refine ⟨_, rfl, ?_⟩; replace BK446 := Bb BK446 hb; replace HB := Bs hb; clear hb)));replace BK446 := Aside0.mk (blk_drew BK446.out);replace HB := Aside0.mk (below_drew1 HB.out);refine start_ (n := 22) (S := fun w' => w'.cell? ⟨gb446, 0, none⟩ = some (.slice A0_0 l0_0.length c0_0) ∧ w'.cell? ⟨gb446, 1, none⟩ = some (.slice A0_1 l0_1.length c0_1) ∧ w'.cell? ⟨gb446, 2, none⟩ = some (.slice A0_2 l0_2.length c0_2) ∧ w'.cell? ⟨gb446, 3, none⟩ = some (.slice A0_3 l0_3.length c0_3) ∧ w'.cell? ⟨gb446, 4, none⟩ = some (.int .i64 a0_4)) (ds := []) #[false, false, false, false, false, false, false, false, false, false, false, false, false, false, false, false, false, false, false, false, false, false] (by kernel_rfl) rfl rfl ⟨(blk_cell BK446.out 0).trans rfl, (blk_cell BK446.out 1).trans rfl, (blk_cell BK446.out 2).trans rfl, (blk_cell BK446.out 3).trans rfl, (blk_cell BK446.out 4).trans rfl⟩ (fun hHeld => ?_); refine with_tabW marginalialaw11_PolicyPart.tab6 marginalialaw11_PolicyPart.bits6 (fun HT_ HW_ => ?_);generalize w55.drew = w56 at BK446 HB hHeld ⊢;refine one_ (i := 0) (N := some 36) (bl 22 1) rfl rfl (one_of HT_.out (by kernel_rfl)) (by decide) (fun K hK => ?_);refine goG Tryd.func10 #[] ?_
       with_reducible refine (marginalialaw11_alive.calls kj3  true _ m_ ?hmS A32.out).mono ?_
       case hmS => exact (pw_cell_below Bw HM.out)
       rintro e w57 ⟨rfl, hb⟩;refine ⟨_, rfl, ?_⟩;replace BK446 := Bb BK446 hb;replace HB := Bs hb;(try clear hb);(try clear hb2);(try clear hk);(try clear hi);have q58 : (a2 : Int) ≤ ((l1.length : Int) : Int) := Od;obtain ⟨i058, hi058, _, hsz58, _⟩ := info_parts info49;have hroom58 : l1.length ≤ c1 := HC1.out;have hC58 : Kd.C k49 _ A1 l1.length l1 := HR1.out;have hcut58 := cut_to (P := Tryd.prog) 38 49 .i64 Tryd.underlying38 hi058 A1 l1.length c1 a2 (Od) q58 hroom58;have hr58 := Kd.C_take (m := (a2 : Int).toNat) hC58 (by omega);have hy58 : y454.length = (a2 : Int).toNat := (by rw [Ny454.out, List.length_take]; omega);rw [← Ny454.out] at hr58;rw [← hy58] at hcut58;have HR457 := Aside0.mk hr58;have HC457 := Aside0.mk (show y454.length ≤ c1 from by omega);clear hr58 hC58 hroom58 hi058 hsz58;have KY58 := Aside0.mk hy58;clear hy58;replace q58 := eq_true q58;refine hK.out _ _ ⟨(blk_cell BK446.out 0).trans rfl, (blk_cell BK446.out 1).trans rfl, (blk_cell BK446.out 2).trans rfl, (blk_cell BK446.out 3).trans rfl, (blk_cell BK446.out 4).trans rfl⟩ (fun hHeld => ?_);clear hK K;refine norm_ (a' := ?_) ?_ ?_
       rotate_left
       ·show Act.put _ (some 36) _ = _;simp only [Act.put, List.setIfInBounds_toArray, List.set_cons_zero, List.set_cons_succ, i64_w, i32_w];rfl
       refine pureS 1 37 (bl 22 3) ?_;refine pureS 2 38 (bl 22 7) ?_;refine pureS 3 39 (bl 22 15) ?_;refine pureS 4 40 (bl 22 31) ?_;refine pureS 6 42 (bl 22 95) ?_;refine pureS 7 43 (bl 22 223) ?_;refine pureS 8 44 (bl 22 479) ?_;refine takeS 5 41 (bl 22 511) hHeld ?_;refine one_ (i := 9) (N := some 45) (bl 22 1023) rfl rfl (one_of HT_.out (by kernel_rfl)) (by decide) (fun K hK => ?_);refine goG Tryd.func21 #[.agg #[.slice A0_0 l0_0.length c0_0, .slice A0_1 l0_1.length c0_1, .slice A0_2 l0_2.length c0_2, .slice A0_3 l0_3.length c0_3, .int .i64 a0_4], .slice A1 y454.length c1] ?_
       with_reducible refine (policy_Allowed.calls kj3 _ _ l0_0 _ _ l0_1 _ _ l0_2 _ _ l0_3 a0_4 _ _ y454 false _ (Cs HR0_0) HC0_0.out (Cs HR0_1) HC0_1.out (Cs HR0_2) HC0_2.out (Cs HR0_3) HC0_3.out (Cs HR457) HC457.out A37.out).mono ?_
       rintro e w59 ⟨rfl, hb⟩;refine ⟨_, rfl, ?_⟩;replace BK446 := Bb BK446 hb;replace HB := Bs hb;(try clear hb);(try clear hb2);(try clear hk);(try clear hi);refine hK.out _ _ ⟨(blk_cell BK446.out 0).trans rfl, (blk_cell BK446.out 1).trans rfl, (blk_cell BK446.out 2).trans rfl, (blk_cell BK446.out 3).trans rfl, (blk_cell BK446.out 4).trans rfl⟩ (fun hHeld => ?_);clear hK K;refine norm_ (a' := ?_) ?_ ?_
       rotate_left
       ·show Act.put _ (some 45) _ = _;simp only [Act.put, List.setIfInBounds_toArray, List.set_cons_zero, List.set_cons_succ, i64_w, i32_w];rfl
       refine pureS 10 46 (bl 22 2047) ?_;refine pureU 11 47 (bl 22 4095) ?_;refine pureU 12 48 (bl 22 8191) ?_;refine pureU 13 49 (bl 22 16383) ?_;refine pureU 14 50 (bl 22 32767) ?_;refine pureU 15 51 (bl 22 65535) ?_;refine pureU 16 52 (bl 22 131071) ?_;refine pureU 17 53 (bl 22 262143) ?_;refine pureS 18 54 (bl 22 524287) ?_;refine pureS 19 55 (bl 22 1048575) ?_;refine pureS 20 56 (bl 22 2097151) ?_;refine pureS 21 6 (bl 22 4194303) ?_;refine done_ (done_of HT_.out (by kernel_rfl)) ?_;(try go_wp2);go_ret;exact ⟨Re, Bw⟩
      rw [if_neg c36] at H;exact absurd H (by simp)
     rw [if_neg c35] at H;exact absurd H (by simp)
    replace c34 := bf c34;subst c34;rw [if_neg (show ¬ (false = true) by decide)] at H;obtain rfl := si H;(try go_wp2);replace BK446 := Aside0.mk (blk_drew BK446.out);replace HB := Aside0.mk (below_drew1 HB.out);refine start_ (n := 6) (S := fun w' => w'.cell? ⟨gb446, 0, none⟩ = some (.slice A0_0 l0_0.length c0_0) ∧ w'.cell? ⟨gb446, 1, none⟩ = some (.slice A0_1 l0_1.length c0_1) ∧ w'.cell? ⟨gb446, 2, none⟩ = some (.slice A0_2 l0_2.length c0_2) ∧ w'.cell? ⟨gb446, 3, none⟩ = some (.slice A0_3 l0_3.length c0_3) ∧ w'.cell? ⟨gb446, 4, none⟩ = some (.int .i64 a0_4)) (ds := []) #[false, false, false, false, false, false] (by kernel_rfl) rfl rfl ⟨(blk_cell BK446.out 0).trans rfl, (blk_cell BK446.out 1).trans rfl, (blk_cell BK446.out 2).trans rfl, (blk_cell BK446.out 3).trans rfl, (blk_cell BK446.out 4).trans rfl⟩ (fun hHeld => ?_);generalize wc.drew = w60 at BK446 HB hHeld ⊢;refine take_ (i := 0) (N := some 27) (v := ?_) (a' := ?_) (bl 6 1) rfl rfl (by kernel_rfl) (fun _ _ _ h => h) (Or.inl ⟨by rfl, ?_⟩) hHeld ?_ ?_
    rotate_left
    ·rintro w' ⟨s0, s1, s2, s3, s4⟩;go_simp
     with_reducible rfl
    rotate_left
    ·simp only [Act.put, List.setIfInBounds_toArray, List.set_cons_zero, List.set_cons_succ, i64_w, i32_w];rfl
    refine take_ (i := 2) (N := some 29) (v := ?_) (a' := ?_) (bl 6 5) rfl rfl (by kernel_rfl) (fun _ _ _ h => h) (Or.inl ⟨by rfl, ?_⟩) hHeld ?_ ?_
    rotate_left
    ·rintro w' ⟨s0, s1, s2, s3, s4⟩;go_simp
     with_reducible rfl
    rotate_left
    ·simp only [Act.put, List.setIfInBounds_toArray, List.set_cons_zero, List.set_cons_succ, i64_w, i32_w];rfl
    refine one_ (i := 1) (N := some 28) (bl 6 7) rfl rfl (by kernel_rfl) (by decide) (fun K hK => ?_);refine goG Tryd.func21 #[.agg #[.slice A0_0 l0_0.length c0_0, .slice A0_1 l0_1.length c0_1, .slice A0_2 l0_2.length c0_2, .slice A0_3 l0_3.length c0_3, .int .i64 a0_4], .slice none 0 0] ?_;refine (policy_Allowed.calls kj3 _ _ l0_0 _ _ l0_1 _ _ l0_2 _ _ l0_3 a0_4 _ _ ([] : List (S49)) t450 _ (Cs HR0_0) HC0_0.out (Cs HR0_1) HC0_1.out (Cs HR0_2) HC0_2.out (Cs HR0_3) HC0_3.out ?side9 ?side10 A25.out).mono ?_;(case side9 => exact Kd.C_nil _ _);(case side10 => exact Nat.le_refl _);rintro e w61 ⟨rfl, hb⟩;refine ⟨_, rfl, ?_⟩;replace BK446 := Bb BK446 hb;replace HB := Bs hb;(try clear hb);(try clear hb2);(try clear hk);(try clear hi);refine hK.out _ _ ⟨(blk_cell BK446.out 0).trans rfl, (blk_cell BK446.out 1).trans rfl, (blk_cell BK446.out 2).trans rfl, (blk_cell BK446.out 3).trans rfl, (blk_cell BK446.out 4).trans rfl⟩ (fun hHeld => ?_);clear hK K;refine norm_ (a' := ?_) ?_ ?_
    rotate_left
    ·show Act.put _ (some 28) _ = _;simp only [Act.put, List.setIfInBounds_toArray, List.set_cons_zero, List.set_cons_succ, i64_w, i32_w];rfl
    refine one_ (i := 3) (N := some 30) (bl 6 15) rfl rfl (by kernel_rfl) (by decide) (fun K hK => ?_);refine goG Tryd.func11 #[.agg #[.slice A0_0 l0_0.length c0_0, .slice A0_1 l0_1.length c0_1, .slice A0_2 l0_2.length c0_2, .slice A0_3 l0_3.length c0_3, .int .i64 a0_4]] ?_
    with_reducible refine (policy_Check.calls kj3 _ _ l0_0 _ _ l0_1 _ _ l0_2 _ _ l0_3 a0_4 t451 _ (Cs HR0_0) HC0_0.out (Cs HR0_1) HC0_1.out (Cs HR0_2) HC0_2.out (Cs HR0_3) HC0_3.out A26.out).mono ?_
    rintro e w62 ⟨rfl, hb⟩;refine ⟨_, rfl, ?_⟩;replace BK446 := Bb BK446 hb;replace HB := Bs hb;(try clear hb);(try clear hb2);(try clear hk);(try clear hi);refine hK.out _ _ ⟨(blk_cell BK446.out 0).trans rfl, (blk_cell BK446.out 1).trans rfl, (blk_cell BK446.out 2).trans rfl, (blk_cell BK446.out 3).trans rfl, (blk_cell BK446.out 4).trans rfl⟩ (fun hHeld => ?_);clear hK K;refine norm_ (a' := ?_) ?_ ?_
    rotate_left
    ·show Act.put _ (some 30) _ = _;simp only [Act.put, List.setIfInBounds_toArray, List.set_cons_zero, List.set_cons_succ, i64_w, i32_w];rfl
    refine pureS 4 31 (bl 6 31) ?_;refine pureS 5 32 (bl 6 63) ?_;refine done_ (by kernel_rfl) ?_;obtain ⟨hcz63_0, hcz63_1, hcz63_2, hcz63_3, hcz63_4, hfz63_0, hfz63_1, hfz63_2, hfz63_3, hfz63_4⟩ := cells5 BK446;(try go_wp2_with (first | ((with_reducible refine gate_callee (f := 21) rfl ?_); refine goL (some 35) Tryd.func21 #[.agg #[.slice A0_0 l0_0.length c0_0, .slice A0_1 l0_1.length c0_1, .slice A0_2 l0_2.length c0_2, .slice A0_3 l0_3.length c0_3, .int .i64 a0_4], .slice A1 l1.length c1] ?_; (with_reducible refine (policy_Allowed.calls kj3 _ _ l0_0 _ _ l0_1 _ _ l0_2 _ _ l0_3 a0_4 _ _ l1 false _ (Cs HR0_0) HC0_0.out (Cs HR0_1) HC0_1.out (Cs HR0_2) HC0_2.out (Cs HR0_3) HC0_3.out (Cs HR1) HC1.out A31.out).mono ?_); rintro e w64 ⟨rfl, hb⟩; refine ⟨_, rfl, ?_⟩; replace BK446 := Bb BK446 hb; replace HB := Bs hb; clear hb)));replace BK446 := Aside0.mk (blk_drew BK446.out);replace HB := Aside0.mk (below_drew1 HB.out);refine start_ (n := 22) (S := fun w' => True) (ds := []) #[false, false, false, false, false, false, false, false, false, false, false, false, false, false, false, false, false, false, false, false, false, false] (by kernel_rfl) rfl rfl trivial (fun hHeld => ?_); refine with_tabW marginalialaw11_PolicyPart.tab6 marginalialaw11_PolicyPart.bits6 (fun HT_ HW_ => ?_);generalize w64.drew = w65 at BK446 HB hHeld ⊢;refine one_ (i := 0) (N := some 36) (bl 22 1) rfl rfl (one_of HT_.out (by kernel_rfl)) (by decide) (fun K hK => ?_);refine goG Tryd.func10 #[] ?_
    with_reducible refine (marginalialaw11_alive.calls kj3  true _ m_ ?hmS A32.out).mono ?_
    case hmS => exact (pw_cell_below Bw HM.out)
    rintro e w66 ⟨rfl, hb⟩;refine ⟨_, rfl, ?_⟩;replace BK446 := Bb BK446 hb;replace HB := Bs hb;(try clear hb);(try clear hb2);(try clear hk);(try clear hi);refine hK.out _ _ trivial (fun hHeld => ?_);clear hK K;refine norm_ (a' := ?_) ?_ ?_
    rotate_left
    ·show Act.put _ (some 36) _ = _;simp only [Act.put, List.setIfInBounds_toArray, List.set_cons_zero, List.set_cons_succ, i64_w, i32_w];rfl
    refine pureS 1 37 (bl 22 3) ?_;refine pureS 2 38 (bl 22 7) ?_;refine pureS 3 39 (bl 22 15) ?_;refine pureS 4 40 (bl 22 31) ?_;refine pureU 5 41 (bl 22 63) ?_;refine pureU 6 42 (bl 22 127) ?_;refine pureU 7 43 (bl 22 255) ?_;refine pureU 8 44 (bl 22 511) ?_;refine pureU 9 45 (bl 22 1023) ?_;refine pureU 10 46 (bl 22 2047) ?_;refine pureU 11 47 (bl 22 4095) ?_;refine pureU 12 48 (bl 22 8191) ?_;refine pureU 13 49 (bl 22 16383) ?_;refine pureU 14 50 (bl 22 32767) ?_;refine pureU 15 51 (bl 22 65535) ?_;refine pureU 16 52 (bl 22 131071) ?_;refine pureU 17 53 (bl 22 262143) ?_;refine pureU 18 54 (bl 22 524287) ?_;refine pureS 19 55 (bl 22 1048575) ?_;refine pureS 20 56 (bl 22 2097151) ?_;refine pureS 21 6 (bl 22 4194303) ?_;refine done_ (done_of HT_.out (by kernel_rfl)) ?_;(try go_wp2);go_ret;exact ⟨Re, Bw⟩
   replace c33 := bf c33;subst c33;rw [if_neg (show ¬ (false = true) by decide)] at H;obtain rfl := si H;(try go_wp2);replace BK446 := Aside0.mk (blk_drew BK446.out);replace HB := Aside0.mk (below_drew1 HB.out);refine start_ (n := 6) (S := fun w' => w'.cell? ⟨gb446, 0, none⟩ = some (.slice A0_0 l0_0.length c0_0) ∧ w'.cell? ⟨gb446, 1, none⟩ = some (.slice A0_1 l0_1.length c0_1) ∧ w'.cell? ⟨gb446, 2, none⟩ = some (.slice A0_2 l0_2.length c0_2) ∧ w'.cell? ⟨gb446, 3, none⟩ = some (.slice A0_3 l0_3.length c0_3) ∧ w'.cell? ⟨gb446, 4, none⟩ = some (.int .i64 a0_4)) (ds := []) #[false, false, false, false, false, false] (by kernel_rfl) rfl rfl ⟨(blk_cell BK446.out 0).trans rfl, (blk_cell BK446.out 1).trans rfl, (blk_cell BK446.out 2).trans rfl, (blk_cell BK446.out 3).trans rfl, (blk_cell BK446.out 4).trans rfl⟩ (fun hHeld => ?_);generalize wc.drew = w67 at BK446 HB hHeld ⊢;refine take_ (i := 0) (N := some 27) (v := ?_) (a' := ?_) (bl 6 1) rfl rfl (by kernel_rfl) (fun _ _ _ h => h) (Or.inl ⟨by rfl, ?_⟩) hHeld ?_ ?_
   rotate_left
   ·rintro w' ⟨s0, s1, s2, s3, s4⟩;go_simp
    with_reducible rfl
   rotate_left
   ·simp only [Act.put, List.setIfInBounds_toArray, List.set_cons_zero, List.set_cons_succ, i64_w, i32_w];rfl
   refine take_ (i := 2) (N := some 29) (v := ?_) (a' := ?_) (bl 6 5) rfl rfl (by kernel_rfl) (fun _ _ _ h => h) (Or.inl ⟨by rfl, ?_⟩) hHeld ?_ ?_
   rotate_left
   ·rintro w' ⟨s0, s1, s2, s3, s4⟩;go_simp
    with_reducible rfl
   rotate_left
   ·simp only [Act.put, List.setIfInBounds_toArray, List.set_cons_zero, List.set_cons_succ, i64_w, i32_w];rfl
   refine one_ (i := 1) (N := some 28) (bl 6 7) rfl rfl (by kernel_rfl) (by decide) (fun K hK => ?_);refine goG Tryd.func21 #[.agg #[.slice A0_0 l0_0.length c0_0, .slice A0_1 l0_1.length c0_1, .slice A0_2 l0_2.length c0_2, .slice A0_3 l0_3.length c0_3, .int .i64 a0_4], .slice none 0 0] ?_;refine (policy_Allowed.calls kj3 _ _ l0_0 _ _ l0_1 _ _ l0_2 _ _ l0_3 a0_4 _ _ ([] : List (S49)) t450 _ (Cs HR0_0) HC0_0.out (Cs HR0_1) HC0_1.out (Cs HR0_2) HC0_2.out (Cs HR0_3) HC0_3.out ?side9 ?side10 A25.out).mono ?_;(case side9 => exact Kd.C_nil _ _);(case side10 => exact Nat.le_refl _);rintro e w68 ⟨rfl, hb⟩;refine ⟨_, rfl, ?_⟩;replace BK446 := Bb BK446 hb;replace HB := Bs hb;(try clear hb);(try clear hb2);(try clear hk);(try clear hi);refine hK.out _ _ ⟨(blk_cell BK446.out 0).trans rfl, (blk_cell BK446.out 1).trans rfl, (blk_cell BK446.out 2).trans rfl, (blk_cell BK446.out 3).trans rfl, (blk_cell BK446.out 4).trans rfl⟩ (fun hHeld => ?_);clear hK K;refine norm_ (a' := ?_) ?_ ?_
   rotate_left
   ·show Act.put _ (some 28) _ = _;simp only [Act.put, List.setIfInBounds_toArray, List.set_cons_zero, List.set_cons_succ, i64_w, i32_w];rfl
   refine one_ (i := 3) (N := some 30) (bl 6 15) rfl rfl (by kernel_rfl) (by decide) (fun K hK => ?_);refine goG Tryd.func11 #[.agg #[.slice A0_0 l0_0.length c0_0, .slice A0_1 l0_1.length c0_1, .slice A0_2 l0_2.length c0_2, .slice A0_3 l0_3.length c0_3, .int .i64 a0_4]] ?_
   with_reducible refine (policy_Check.calls kj3 _ _ l0_0 _ _ l0_1 _ _ l0_2 _ _ l0_3 a0_4 t451 _ (Cs HR0_0) HC0_0.out (Cs HR0_1) HC0_1.out (Cs HR0_2) HC0_2.out (Cs HR0_3) HC0_3.out A26.out).mono ?_
   rintro e w69 ⟨rfl, hb⟩;refine ⟨_, rfl, ?_⟩;replace BK446 := Bb BK446 hb;replace HB := Bs hb;(try clear hb);(try clear hb2);(try clear hk);(try clear hi);refine hK.out _ _ ⟨(blk_cell BK446.out 0).trans rfl, (blk_cell BK446.out 1).trans rfl, (blk_cell BK446.out 2).trans rfl, (blk_cell BK446.out 3).trans rfl, (blk_cell BK446.out 4).trans rfl⟩ (fun hHeld => ?_);clear hK K;refine norm_ (a' := ?_) ?_ ?_
   rotate_left
   ·show Act.put _ (some 30) _ = _;simp only [Act.put, List.setIfInBounds_toArray, List.set_cons_zero, List.set_cons_succ, i64_w, i32_w];rfl
   refine pureS 4 31 (bl 6 31) ?_;refine pureS 5 32 (bl 6 63) ?_;refine done_ (by kernel_rfl) ?_;obtain ⟨hcz70_0, hcz70_1, hcz70_2, hcz70_3, hcz70_4, hfz70_0, hfz70_1, hfz70_2, hfz70_3, hfz70_4⟩ := cells5 BK446;(try go_wp2_with (first | ((with_reducible refine gate_callee (f := 21) rfl ?_); refine goL (some 35) Tryd.func21 #[.agg #[.slice A0_0 l0_0.length c0_0, .slice A0_1 l0_1.length c0_1, .slice A0_2 l0_2.length c0_2, .slice A0_3 l0_3.length c0_3, .int .i64 a0_4], .slice A1 l1.length c1] ?_; (with_reducible refine (policy_Allowed.calls kj3 _ _ l0_0 _ _ l0_1 _ _ l0_2 _ _ l0_3 a0_4 _ _ l1 t452 _ (Cs HR0_0) HC0_0.out (Cs HR0_1) HC0_1.out (Cs HR0_2) HC0_2.out (Cs HR0_3) HC0_3.out (Cs HR1) HC1.out A31.out).mono ?_); rintro e w71 ⟨rfl, hb⟩; refine ⟨_, rfl, ?_⟩; replace BK446 := Bb BK446 hb; replace HB := Bs hb; clear hb)));replace BK446 := Aside0.mk (blk_drew BK446.out);replace HB := Aside0.mk (below_drew1 HB.out);refine start_ (n := 22) (S := fun w' => True) (ds := []) #[false, false, false, false, false, false, false, false, false, false, false, false, false, false, false, false, false, false, false, false, false, false] (by kernel_rfl) rfl rfl trivial (fun hHeld => ?_); refine with_tabW marginalialaw11_PolicyPart.tab6 marginalialaw11_PolicyPart.bits6 (fun HT_ HW_ => ?_);generalize w71.drew = w72 at BK446 HB hHeld ⊢;refine one_ (i := 0) (N := some 36) (bl 22 1) rfl rfl (one_of HT_.out (by kernel_rfl)) (by decide) (fun K hK => ?_);refine goG Tryd.func10 #[] ?_
   with_reducible refine (marginalialaw11_alive.calls kj3  false _ m_ ?hmS A32.out).mono ?_
   case hmS => exact (pw_cell_below Bw HM.out)
   rintro e w73 ⟨rfl, hb⟩;refine ⟨_, rfl, ?_⟩;replace BK446 := Bb BK446 hb;replace HB := Bs hb;(try clear hb);(try clear hb2);(try clear hk);(try clear hi);refine hK.out _ _ trivial (fun hHeld => ?_);clear hK K;refine norm_ (a' := ?_) ?_ ?_
   rotate_left
   ·show Act.put _ (some 36) _ = _;simp only [Act.put, List.setIfInBounds_toArray, List.set_cons_zero, List.set_cons_succ, i64_w, i32_w];rfl
   refine pureS 1 37 (bl 22 3) ?_;refine pureU 2 38 (bl 22 7) ?_;refine pureU 3 39 (bl 22 15) ?_;refine pureU 4 40 (bl 22 31) ?_;refine pureU 5 41 (bl 22 63) ?_;refine pureU 6 42 (bl 22 127) ?_;refine pureU 7 43 (bl 22 255) ?_;refine pureU 8 44 (bl 22 511) ?_;refine pureU 9 45 (bl 22 1023) ?_;refine pureU 10 46 (bl 22 2047) ?_;refine pureU 11 47 (bl 22 4095) ?_;refine pureU 12 48 (bl 22 8191) ?_;refine pureU 13 49 (bl 22 16383) ?_;refine pureU 14 50 (bl 22 32767) ?_;refine pureU 15 51 (bl 22 65535) ?_;refine pureU 16 52 (bl 22 131071) ?_;refine pureU 17 53 (bl 22 262143) ?_;refine pureU 18 54 (bl 22 524287) ?_;refine pureU 19 55 (bl 22 1048575) ?_;refine pureS 20 56 (bl 22 2097151) ?_;refine pureS 21 6 (bl 22 4194303) ?_;refine done_ (done_of HT_.out (by kernel_rfl)) ?_;(try go_wp2);go_ret;exact ⟨Re, Bw⟩

end Go.Proofs.YtnbghhddmlohoaaDoor.PAll

end

section
namespace Go.Proofs.YtnbghhddmlohoaaDoor.RowOpen
open Go.RowKit Go.Proofs.YtnbghhddmlohoaaDoorW.PrintWords

section
variable {P : Program}
def Opens (P : Program) {α : Type} (t : TypeId) (d : Kd α) (g : α → Prop) : Prop :=
  ∀ (H : Type) (enc : TypeId × Value → H) (fuel : Nat) (w : World) (cs : List Value) (x : DataW H × List MemPlace), DataW.trod enc P w 0 (fun _ => true) true fuel t cs = some x → ∃ a, d.K w a cs ∧ g a
theorem Opens.imp {α : Type} {t : TypeId} {d : Kd α} {g g' : α → Prop} (h : Opens P t d g) (hg : ∀ a, g a → g' a) : Opens P t d g' := fun H enc fuel w cs x hx => by
  obtain ⟨a, hK, ha⟩ := h H enc fuel w cs x hx
  exact ⟨a, hK, hg a ha⟩
theorem opens_int {t : TypeId} {k : IntKind} (hu : P.underlying t = some (.int k)) : Opens P t (Kd.int k) (fun n => (Lit.int k n).wf = true) := fun H enc fuel w cs x hx => by
  cases fuel with
  | zero => simp [DataW.trod] at hx
  | succ m =>
    unfold DataW.trod at hx
    rw [hu] at hx
    split at hx <;> simp_all
    obtain ⟨⟨rfl, hw⟩, _⟩ := hx
    exact ⟨_, rfl, hw⟩
theorem opens_string {t : TypeId} (hu : P.underlying t = some .string) : Opens P t Kd.string (fun s => s.size ≤ maxLen) := fun H enc fuel w cs x hx => by
  cases fuel with
  | zero => simp [DataW.trod] at hx
  | succ m =>
    unfold DataW.trod at hx
    rw [hu] at hx
    split at hx <;> simp_all
    exact ⟨_, rfl, hx.1⟩
theorem cells_get {w : World} {a : Addr} {n : Nat} {cs : List Value} (h : w.cells? 0 a n = some cs) : cs.length = n ∧ ∀ j u, cs[j]? = some u → w.cell? (a.add j) = some u := by
  unfold World.cells? at h
  rw [if_pos (Nat.zero_le _)] at h
  have hl := mapM_some_length h
  rw [List.length_range] at hl
  refine ⟨hl, fun j u hj => ?_⟩
  have hlt : j < cs.length := (List.getElem?_eq_some_iff.1 hj).1
  have := mapM_some_get h j j (by rw [List.getElem?_range (by omega)])
  rw [this, hj]
theorem list_of {α : Type} {p : Nat → α → Prop} : ∀ n : Nat, (∀ i, i < n → ∃ a, p i a) → ∃ xs : List α, xs.length = n ∧ ∀ i a, xs[i]? = some a → p i a
  | 0, _ => ⟨[], rfl, fun i a h => by simp at h⟩
  | n + 1, h => by
    obtain ⟨xs, hl, hx⟩ := list_of n (fun i hi => h i (by omega))
    obtain ⟨a, ha⟩ := h n (by omega)
    refine ⟨xs ++ [a], by simp [hl], fun i b hb => ?_⟩
    rcases Nat.lt_trichotomy i n with hi | hi | hi
    · rw [List.getElem?_append_left (by omega)] at hb
      exact hx i b hb
    · subst hi
      rw [List.getElem?_append_right (by omega), hl, Nat.sub_self] at hb
      simp at hb
      subst hb
      exact ha
    · rw [List.getElem?_eq_none (by simp; omega)] at hb
      cases hb
theorem opens_slice {α : Type} {t e : TypeId} {d : Kd α} {g : α → Prop} (hu : P.underlying t = some (.slice e)) (hsz : P.cellsOf e = d.sz) (h : Opens P e d g) :
    Opens P t (Kd.slice e d) (fun xs => xs.length ≤ maxLen ∧ ∀ x ∈ xs, g x) := fun H enc fuel w cs x hx => by
  rcases Go.Deep.open_slice hu hx with ⟨rfl, _⟩ | ⟨a, len, cap, m, n, D, Pl, rfl, _, hl, hm, hmm, _, hel⟩
  · exact ⟨[], ⟨none, 0, rfl, Nat.le_refl _, rfl, by simp, fun h => absurd h (by simp)⟩, by simp, by simp⟩
  · rw [if_pos rfl] at hmm
    subst hmm
    obtain ⟨xs, hxl, hxs⟩ := list_of (p := fun i y => ∃ c, w.cells? 0 (a.add (i * d.sz)) d.sz = some c ∧ d.K w y c ∧ g y) len (fun i hi => by
      obtain ⟨c, hc, ht⟩ := hel i (by omega)
      rw [hsz] at hc
      obtain ⟨y, hK, hg⟩ := h H enc n w c _ ht
      exact ⟨y, c, hc, hK, hg⟩)
    subst hxl
    refine ⟨xs, ⟨some a, m, rfl, hl, rfl, ?_, fun _ => ⟨a, rfl, fun j p hp => ?_⟩⟩, by omega, fun y hy => ?_⟩
    · unfold maxLen at hm; omega
    · obtain ⟨c, hc, hK, _⟩ := hxs j p hp
      obtain ⟨hcl, hcg⟩ := cells_get hc
      exact ⟨c, hcl, hK, fun i u hu' => by rw [← Addr.add_add]; exact hcg i u hu'⟩
    · obtain ⟨j, hj⟩ := List.getElem?_of_mem hy
      obtain ⟨c, _, _, hg⟩ := hxs j y hj
      exact hg
def OpensF (P : Program) {α : Type} (fs : List Field) (d : Kd α) (g : α → Prop) (off : Nat) : Prop :=
  ∀ (H : Type) (enc : TypeId × Value → H) (fuel : Nat) (w : World) (cs : List Value) (xs : List (DataW H × List MemPlace)), cs.length = off + d.sz →
    (∀ (i : Nat) (f : Field), fs[i]? = some f → DataW.trod enc P w 0 (fun _ => true) true fuel f.type ((cs.drop f.offset).take (P.cellsOf f.type)) = xs[i]?) → xs.length = fs.length → ∃ a, d.K w a (cs.drop off) ∧ g a
theorem opensF_one {α : Type} {f : Field} {d : Kd α} {g : α → Prop} {off : Nat} (ho : f.offset = off) (hsz : P.cellsOf f.type = d.sz) (h : Opens P f.type d g) : OpensF P [f] d g off := fun H enc fuel w cs xs hl hx hn => by
  have h0 := hx 0 f rfl
  match xs, hn with
  | [x], _ =>
    rw [ho, hsz, List.take_of_length_le (by rw [List.length_drop]; omega)] at h0
    exact h H enc fuel w _ x h0
theorem opensF_cons {α β : Type} {f : Field} {fs : List Field} {d : Kd α} {d' : Kd β} {g : α → Prop} {g' : β → Prop} {off : Nat} (ho : f.offset = off) (hsz : P.cellsOf f.type = d.sz) (h : Opens P f.type d g) (hf : OpensF P fs d' g' (off + d.sz)) :
    OpensF P (f :: fs) (Kd.pair d d') (fun x => g x.1 ∧ g' x.2) off := fun H enc fuel w cs xs hl hx hn => by
  match xs, hn with
  | x :: xs, hn =>
    have h0 := hx 0 f rfl
    rw [ho, hsz] at h0
    obtain ⟨a, hK, hg⟩ := h H enc fuel w _ x h0
    have hl' : cs.length = off + (d.sz + d'.sz) := hl
    obtain ⟨b, hK', hg'⟩ := hf H enc fuel w cs xs (by omega) (fun i q hq => hx (i + 1) q hq) (by simpa using hn)
    refine ⟨(a, b), ⟨(cs.drop off).take d.sz, cs.drop (off + d.sz), ?_, hK, hK'⟩, hg, hg'⟩
    rw [← List.drop_drop, List.take_append_drop]
theorem opens_struct {α : Type} {t : TypeId} {fs : Array Field} {d : Kd α} {g : α → Prop} (hu : P.underlying t = some (.struct fs)) (hsz : P.cellsOf t = d.sz) (hf : OpensF P fs.toList d g 0) : Opens P t d g := fun H enc fuel w cs x hx => by
  obtain ⟨xs, m, rfl, _, hl, hlen, hel⟩ := DataW.trod_struct hu hx
  obtain ⟨a, hK, hg⟩ := hf H enc m w cs xs (by omega) (fun i f hi => hel i f (by rw [← Array.getElem?_toList]; exact hi)) (by simpa using hlen)
  exact ⟨a, hK, hg⟩
theorem opens_iso {α β : Type} {t : TypeId} {d : Kd α} {g : α → Prop} {f : β → α} (inv : α → β) (hi : ∀ x, f (inv x) = x) (h : Opens P t d g) : Opens P t (Kd.iso d f) (fun y => g (f y)) := fun H enc fuel w cs x hx => by
  obtain ⟨a, hK, hg⟩ := h H enc fuel w cs x hx
  refine ⟨inv a, ?_, by show g (f (inv a)); rw [hi]; exact hg⟩
  show d.K w (f (inv a)) cs
  rw [hi]
  exact hK
end
end Go.Proofs.YtnbghhddmlohoaaDoor.RowOpen

end

section
namespace Go.Proofs.YtnbghhddmlohoaaDoor.RowOpen
open Go.RowKit Go.Proofs.YtnbghhddmlohoaaDoorW.PrintWords

section
variable {P : Program}
def OpensUp (P : Program) {α : Type} (m : Nat) (t : TypeId) (d : Kd α) (g : α → Prop) : Prop :=
  ∀ (H : Type) (enc : TypeId × Value → H) (fuel : Nat) (w : World) (cs : List Value) (x : DataW H × List MemPlace), fuel ≤ m → DataW.trod enc P w 0 (fun _ => true) true fuel t cs = some x → ∃ a, d.K w a cs ∧ g a
theorem Opens.up {α : Type} {t : TypeId} {d : Kd α} {g : α → Prop} (h : Opens P t d g) (m : Nat) : OpensUp P m t d g := fun H enc fuel w cs x _ hx => h H enc fuel w cs x hx
theorem OpensUp.imp {α : Type} {m : Nat} {t : TypeId} {d : Kd α} {g g' : α → Prop} (h : OpensUp P m t d g) (hg : ∀ a, g a → g' a) : OpensUp P m t d g' := fun H enc fuel w cs x hf hx => by
  obtain ⟨a, hK, ha⟩ := h H enc fuel w cs x hf hx
  exact ⟨a, hK, hg a ha⟩
theorem opens_slice_up {α : Type} {m : Nat} {t e : TypeId} {d : Kd α} {g : α → Prop} (hu : P.underlying t = some (.slice e)) (hsz : P.cellsOf e = d.sz) (h : OpensUp P m e d g) :
    OpensUp P m t (Kd.slice e d) (fun _ => True) := fun H enc fuel w cs x hfu hx => by
  rcases DataW.trod_slice hu hx with ⟨rfl, _⟩ | ⟨a, len, cap, elems, rest, n, rfl, rfl, _, _, hl, hm, hlen, hel, _, _⟩
  · exact ⟨[], ⟨none, 0, rfl, Nat.le_refl _, rfl, by simp, fun h => absurd h (by simp)⟩, trivial⟩
  · obtain ⟨xs, hxl, hxs⟩ := list_of (p := fun i y => ∃ c, w.cells? 0 (a.add (i * d.sz)) d.sz = some c ∧ d.K w y c ∧ g y) len (fun i hi => by
      have hi' := hel i hi
      rw [List.getElem?_eq_getElem (by omega)] at hi'
      obtain ⟨c, hc, ht⟩ := Option.bind_eq_some_iff.mp hi'
      rw [hsz] at hc
      obtain ⟨y, hK, hg⟩ := h H enc n w c _ (by omega) ht
      exact ⟨y, c, hc, hK, hg⟩)
    subst hxl
    refine ⟨xs, ⟨some a, cap, rfl, hl, rfl, ?_, fun _ => ⟨a, rfl, fun j p hp => ?_⟩⟩, trivial⟩
    · unfold maxLen at hm; omega
    · obtain ⟨c, hc, hK, _⟩ := hxs j p hp
      obtain ⟨hcl, hcg⟩ := cells_get hc
      exact ⟨c, hcl, hK, fun i u hu' => by rw [← Addr.add_add]; exact hcg i u hu'⟩
def OpensFUp (P : Program) {α : Type} (m : Nat) (fs : List Field) (d : Kd α) (off : Nat) : Prop :=
  ∀ (H : Type) (enc : TypeId × Value → H) (fuel : Nat) (w : World) (cs : List Value) (xs : List (DataW H × List MemPlace)), fuel ≤ m → cs.length = off + d.sz →
    (∀ (i : Nat) (f : Field), fs[i]? = some f → DataW.trod enc P w 0 (fun _ => true) true fuel f.type ((cs.drop f.offset).take (P.cellsOf f.type)) = xs[i]?) → xs.length = fs.length → ∃ a, d.K w a (cs.drop off)
theorem opensF_one_up {α : Type} {m : Nat} {f : Field} {d : Kd α} {g : α → Prop} {off : Nat} (ho : f.offset = off) (hsz : P.cellsOf f.type = d.sz) (h : OpensUp P m f.type d g) : OpensFUp P m [f] d off := fun H enc fuel w cs xs hf hl hx hn => by
  have h0 := hx 0 f rfl
  match xs, hn with
  | [x], _ =>
    rw [ho, hsz, List.take_of_length_le (by rw [List.length_drop]; omega)] at h0
    obtain ⟨a, hK, _⟩ := h H enc fuel w _ x hf h0
    exact ⟨a, hK⟩
theorem opensF_cons_up {α β : Type} {m : Nat} {f : Field} {fs : List Field} {d : Kd α} {d' : Kd β} {g : α → Prop} {off : Nat} (ho : f.offset = off) (hsz : P.cellsOf f.type = d.sz) (h : OpensUp P m f.type d g) (hf : OpensFUp P m fs d' (off + d.sz)) :
    OpensFUp P m (f :: fs) (Kd.pair d d') off := fun H enc fuel w cs xs hfu hl hx hn => by
  match xs, hn with
  | x :: xs, hn =>
    have h0 := hx 0 f rfl
    rw [ho, hsz] at h0
    obtain ⟨a, hK, _⟩ := h H enc fuel w _ x hfu h0
    have hl' : cs.length = off + (d.sz + d'.sz) := hl
    obtain ⟨b, hK'⟩ := hf H enc fuel w cs xs hfu (by omega) (fun i q hq => hx (i + 1) q hq) (by simpa using hn)
    refine ⟨(a, b), ⟨(cs.drop off).take d.sz, cs.drop (off + d.sz), ?_, hK, hK'⟩⟩
    rw [← List.drop_drop, List.take_append_drop]
theorem opens_struct_up {α : Type} {m : Nat} {t : TypeId} {fs : Array Field} {d : Kd α} (hu : P.underlying t = some (.struct fs)) (hsz : P.cellsOf t = d.sz) (hf : OpensFUp P m fs.toList d 0) : OpensUp P (m + 1) t d (fun _ => True) := fun H enc fuel w cs x hfu hx => by
  obtain ⟨xs, n, rfl, _, hl, hlen, hel⟩ := DataW.trod_struct hu hx
  obtain ⟨a, hK⟩ := hf H enc n w cs xs (by omega) (by omega) (fun i f hi => hel i f (by rw [← Array.getElem?_toList]; exact hi)) (by simpa using hlen)
  exact ⟨a, hK, trivial⟩
theorem opens_iso_up {α β : Type} {m : Nat} {t : TypeId} {d : Kd α} {f : β → α} (inv : α → β) (hi : ∀ x, f (inv x) = x) (h : OpensUp P m t d (fun _ => True)) : OpensUp P m t (Kd.iso d f) (fun _ => True) := fun H enc fuel w cs x hf hx => by
  obtain ⟨a, hK, hg⟩ := h H enc fuel w cs x hf hx
  refine ⟨inv a, ?_, trivial⟩
  show d.K w (f (inv a)) cs
  rw [hi]
  exact hK
theorem opens_fix {α : Type} {t : TypeId} {F : Kd α → Kd α} {sz : Nat} {E : List Nat} {hs : ∀ n, (Kd.upto F sz E n).sz = sz} {hE : ∀ n q, q ∈ (Kd.upto F sz E n).E → q ∈ E}
    (h : ∀ (n m : Nat), OpensUp P m t (Kd.upto F sz E n) (fun _ => True) → OpensUp P (m + 1) t (F (Kd.upto F sz E n)) (fun _ => True)) : Opens P t (Kd.fix F sz E hs hE) (fun _ => True) := by
  have C : ∀ m, OpensUp P m t (Kd.upto F sz E m) (fun _ => True) := by
    intro m
    induction m with
    | zero =>
      intro H enc fuel w cs x hf hx
      have : fuel = 0 := by omega
      subst this
      simp [DataW.trod] at hx
    | succ m ih => exact h m m ih
  intro H enc fuel w cs x hx
  obtain ⟨a, hK, _⟩ := C fuel H enc fuel w cs x (Nat.le_refl _) hx
  exact ⟨a, ⟨fuel, hK⟩, trivial⟩
end
end Go.Proofs.YtnbghhddmlohoaaDoor.RowOpen

end

section
namespace Go.Proofs.YtnbghhddmlohoaaDoor.policyPartOp
open Go.RowKit Go.Proofs.YtnbghhddmlohoaaDoor.PAll Go.Proofs.YtnbghhddmlohoaaDoorW.PrintWords Go.Proofs.YtnbghhddmlohoaaDoor.RowOpen
def G53 (y : S53) : Prop := y.f0.size ≤ maxLen ∧ (y.f1.length ≤ maxLen ∧ ∀ y4 ∈ y.f1, y4.size ≤ maxLen)
theorem o53 : Opens Tryd.prog 53 k53 G53 := Opens.imp (opens_iso (f := fun x : S53 => (x.f0, x.f1)) (fun x => (⟨x.1, x.2⟩ : S53)) (fun _ => rfl) (opens_struct Tryd.underlying53 (by kernel_rfl) (opensF_cons rfl (by kernel_rfl) (opens_string Tryd.underlying9) (opensF_one rfl (by kernel_rfl) (opens_slice Tryd.underlying23 (by kernel_rfl) (opens_string Tryd.underlying9)))))) (fun y h => h)
def G25 (y : S25) : Prop := (y.f0.length ≤ maxLen ∧ ∀ y4 ∈ y.f0, G53 y4) ∧ (y.f1.length ≤ maxLen ∧ ∀ y4 ∈ y.f1, y4.size ≤ maxLen) ∧ (y.f2.length ≤ maxLen ∧ ∀ y4 ∈ y.f2, y4.size ≤ maxLen) ∧ (y.f3.length ≤ maxLen ∧ ∀ y4 ∈ y.f3, y4.size ≤ maxLen) ∧ (Lit.int .i64 y.f4).wf = true
theorem o25 : Opens Tryd.prog 25 k25 G25 := Opens.imp (opens_iso (f := fun x : S25 => (x.f0, x.f1, x.f2, x.f3, x.f4)) (fun x => (⟨x.1, x.2.1, x.2.2.1, x.2.2.2.1, x.2.2.2.2⟩ : S25)) (fun _ => rfl) (opens_struct Tryd.underlying25 (by kernel_rfl) (opensF_cons rfl (by kernel_rfl) (opens_slice Tryd.underlying22 (by kernel_rfl) o53) (opensF_cons rfl (by kernel_rfl) (opens_slice Tryd.underlying23 (by kernel_rfl) (opens_string Tryd.underlying9)) (opensF_cons rfl (by kernel_rfl) (opens_slice Tryd.underlying23 (by kernel_rfl) (opens_string Tryd.underlying9)) (opensF_cons rfl (by kernel_rfl) (opens_slice Tryd.underlying23 (by kernel_rfl) (opens_string Tryd.underlying9)) (opensF_one rfl (by kernel_rfl) (opens_int Tryd.underlying3)))))))) (fun y h => h)
def G35 (y : S35) : Prop := y.f0.size ≤ maxLen ∧ y.f1.size ≤ maxLen
theorem o35 : Opens Tryd.prog 35 k35 G35 := Opens.imp (opens_iso (f := fun x : S35 => (x.f0, x.f1)) (fun x => (⟨x.1, x.2⟩ : S35)) (fun _ => rfl) (opens_struct Tryd.underlying35 (by kernel_rfl) (opensF_cons rfl (by kernel_rfl) (opens_string Tryd.underlying9) (opensF_one rfl (by kernel_rfl) (opens_string Tryd.underlying9))))) (fun y h => h)
def G49 (_y : S49) : Prop := True
theorem o49 : Opens Tryd.prog 49 k49 G49 := opens_fix (fun n m ih => opens_iso_up (fun x => (⟨x.1, x.2.1, x.2.2.1, x.2.2.2.1, x.2.2.2.2.1, x.2.2.2.2.2⟩ : S49)) (fun _ => rfl) (opens_struct_up Tryd.underlying49 (by kernel_rfl) (opensF_cons_up rfl (by kernel_rfl) (Opens.up (opens_int Tryd.underlying45) m) (opensF_cons_up rfl (by kernel_rfl) (Opens.up (opens_int Tryd.underlying46) m) (opensF_cons_up rfl (by kernel_rfl) (Opens.up (opens_string Tryd.underlying9) m) (opensF_cons_up rfl (by kernel_rfl) (Opens.up (opens_slice Tryd.underlying47 (by kernel_rfl) o35) m) (opensF_cons_up rfl (by kernel_rfl) (Opens.up (opens_string Tryd.underlying9) m) (opensF_one_up rfl (by kernel_rfl) (opens_slice_up Tryd.underlying38 (by rw [sz49 n]; kernel_rfl) ih)))))))))
def Plain : Prop := ∀ (x0 : S25) (l1 : List S49) (a2 : Int), G25 x0 → (l1.length ≤ maxLen ∧ ∀ y2 ∈ l1, G49 y2) → (Lit.int .i64 a2).wf = true → ∃ k, marginalialaw11_PolicyPart.f k x0.f0 x0.f1 x0.f2 x0.f3 x0.f4 l1 a2 = some true
end Go.Proofs.YtnbghhddmlohoaaDoor.policyPartOp

end

section
namespace Go.Proofs.YtnbghhddmlohoaaDoor.Pure
open Go.RowKit Go.Proofs.YtnbghhddmlohoaaDoor.PAll Go.Proofs.YtnbghhddmlohoaaDoorW.PrintWords Go.Proofs.YtnbghhddmlohoaaDoorW.PrintLast

theorem wrap_next {i : Nat} (h : i < 9223372036854775807) : wrap64 ((i : Int) + 1) = ((i + 1 : Nat) : Int) := by
  unfold wrap64
  omega
theorem bytes_data (s : ByteArray) : s.toList = s.data.toList := ByteArray.toList_eq s
theorem data_len (s : ByteArray) : s.data.toList.length = s.size := by simp
theorem bt_get (s : ByteArray) (i : Nat) (c : UInt8) (h : s.data.toList[i]? = some c) : bt s (i : Int) = (c.toNat : Int) := by
  obtain ⟨h1, h2⟩ := List.getElem?_eq_some_iff.1 h
  have h3 : i < s.size := by simpa using h1
  unfold bt
  rw [dif_pos (by omega), ← h2]
  rfl
theorem ext_take (s : ByteArray) (a b : Nat) : (s.extract a b).data.toList = (s.data.toList.drop a).take (b - a) := by
  have e : (s.extract a b).data = s.data.extract a b := by simp
  rw [e, Array.toList_extract, List.extract_eq_take_drop]
theorem ba_ext {a b : ByteArray} (h : a.data.toList = b.data.toList) : a = b := by
  obtain ⟨⟨a⟩⟩ := a
  obtain ⟨⟨b⟩⟩ := b
  simp at h
  rw [h]
def sLet (c : UInt8) : Bool := decide (65 ≤ c.toNat ∧ c.toNat ≤ 90) || decide (97 ≤ c.toNat ∧ c.toNat ≤ 122)
def sFig (c : UInt8) : Bool := decide (48 ≤ c.toNat ∧ c.toNat ≤ 57)
def sPart (c : UInt8) : Bool := sLet c || (sFig c || (c == 43 || (c == 45 || c == 46)))
theorem u8_all {p : UInt8 → Prop} (h : ∀ n, n < 256 → p (UInt8.ofNat n)) (c : UInt8) : p c := by
  have := h c.toNat c.toNat_lt
  simpa using this
theorem letter_f (c : UInt8) : kind_Letter.f (c.toNat : Int) = some (sLet c) := by
  revert c
  apply u8_all
  decide +kernel
theorem part_f (c : UInt8) : scheme_part.f (c.toNat : Int) = some (sPart c) := by
  revert c
  apply u8_all
  decide +kernel
def schN : List UInt8 → Option (List UInt8)
  | [] => none
  | c :: r => if sLet c = true ∧ (c :: r).all sPart = true then some ((c :: r).map lowB) else none
def schL (t : List UInt8) : Option (List UInt8) :=
  if (58 : UInt8) ∈ t then schN (t.takeWhile (· != 58)) else none
def ofS (s : ByteArray) : Option (List UInt8) := schL (tidyL s.data.toList)
def ofR (o : Option (List UInt8)) : ByteArray × Bool := match o with
  | none => (⟨#[]⟩, false)
  | some l => (⟨l.toArray⟩, true)
theorem idx_none (t : List UInt8) (h : (58 : UInt8) ∉ t) : Lib.indexByte t 58 = -1 := by
  induction t with
  | nil => rfl
  | cons c r ih =>
    simp at h
    unfold Lib.indexByte
    rw [if_neg (by simp; exact fun e => h.1 e.symm), ih h.2]
    rfl
theorem idx_some (t : List UInt8) (h : (58 : UInt8) ∈ t) : Lib.indexByte t 58 = ((t.takeWhile (· != 58)).length : Int) := by
  induction t with
  | nil => simp at h
  | cons c r ih =>
    unfold Lib.indexByte
    by_cases e : c = 58
    · subst e; simp
    · have h' : (58 : UInt8) ∈ r := by
        rcases List.mem_cons.1 h with h | h
        · exact absurd h.symm e
        · exact h
      have he : ¬ ((c == 58) = true) := by rw [beq_iff_eq]; exact e
      rw [if_neg he, ih h', List.takeWhile_cons_of_pos (by simpa using e)]
      have hn : ¬ ((((List.takeWhile (· != 58) r).length : Int) == -1) = true) := by rw [beq_iff_eq]; omega
      rw [if_neg hn]
      simp only [List.length_cons]
      omega
theorem take_eq (t : List UInt8) : t.take (t.takeWhile (· != 58)).length = t.takeWhile (· != 58) := (List.prefix_iff_eq_take.1 (List.takeWhile_prefix _)).symm
theorem cut_none (t : ByteArray) (h : (58 : UInt8) ∉ t.data.toList) : strings_Cut.f t ⟨#[58]⟩ = some (t, ⟨#[]⟩, false) := by
  unfold strings_Cut.f stringslite_Cut.f stringslite_Index.f
  rw [if_pos (show (⟨#[58]⟩ : ByteArray).data.size = 1 from rfl)]
  simp only [List.headD_cons, Option.bind_some, idx_none _ h]
  rfl
theorem cut_some (t : ByteArray) (hs : t.size ≤ 1000000) (h : (58 : UInt8) ∈ t.data.toList) : ∃ x, strings_Cut.f t ⟨#[58]⟩ = some (⟨(t.data.toList.takeWhile (· != 58)).toArray⟩, x, true) := by
  have hl := (List.takeWhile_prefix (p := fun c : UInt8 => c != 58) (l := t.data.toList)).length_le
  rw [data_len] at hl
  have hlt : (t.data.toList.takeWhile (· != 58)).length < t.size := by
    have h2 := idx_some _ h
    have : (t.data.toList.takeWhile (· != 58)) ≠ t.data.toList := by
      intro e
      rw [← e] at h
      have := List.all_eq_true.1 (List.all_takeWhile (p := fun c : UInt8 => c != 58) (l := t.data.toList)) 58 h
      simp at this
    rcases Nat.lt_or_ge (t.data.toList.takeWhile (· != 58)).length t.size with h3 | h3
    · exact h3
    · refine absurd ?_ this
      rw [← take_eq]
      exact List.take_of_length_le (by rw [data_len]; exact h3)
  unfold strings_Cut.f stringslite_Cut.f stringslite_Index.f
  rw [if_pos (show (⟨#[58]⟩ : ByteArray).data.size = 1 from rfl)]
  simp only [List.headD_cons, Option.bind_some, idx_some _ h]
  have e1 : ((⟨#[58]⟩ : ByteArray).size : Int) = 1 := rfl
  rw [e1, wrap_next (by omega)]
  rw [if_pos (by omega), if_pos (by omega), if_pos (by omega), if_pos (by omega), if_pos (by omega)]
  refine ⟨t.extract (((t.data.toList.takeWhile (· != 58)).length + 1 : Nat) : Int).toNat t.size, ?_⟩
  simp only [Option.bind_some]
  congr 1
  congr 1
  apply ba_ext
  rw [ext_take]
  simp only [List.drop_zero, Int.toNat_natCast, Nat.sub_zero]
  exact take_eq _
theorem of_l0 (x : ByteArray) (hs : x.size ≤ 1000000) : ∀ (d i : Nat), i + d = x.size →
    Ev (fun k => scheme_Of.l0 k x (x.size : Int) (i : Int)) (if (x.data.toList.drop i).all sPart = true then (⟨(x.data.toList.map lowB).toArray⟩, true) else (⟨#[]⟩, false)) := by
  intro d
  induction d with
  | zero =>
    intro i hi
    refine Ev.step (f := fun _ => some (⟨(x.data.toList.map lowB).toArray⟩, true)) (fun k => ?_) ?_
    · simp only [scheme_Of.l0, kind_Lower.f]
      rw [if_neg (by omega), if_pos (by omega)]
      simp only [Option.bind_some, lowS]
      congr 2
      apply ba_ext
      simp
    · rw [List.drop_of_length_le (by rw [data_len]; omega)]
      exact Ev.now _
  | succ d ih =>
    intro i hi
    have hg : x.data.toList[i]? = some (x.data.toList[i]'(by rw [data_len]; omega)) := List.getElem?_eq_getElem _
    generalize hc : x.data.toList[i]'(by rw [data_len]; omega) = c at hg
    have hd : x.data.toList.drop i = c :: x.data.toList.drop (i + 1) := by
      rw [List.drop_eq_getElem_cons (by rw [data_len]; omega), hc]
    by_cases hp : sPart c = true
    · refine Ev.step (f := fun k => scheme_Of.l0 k x (x.size : Int) ((i + 1 : Nat) : Int)) (fun k => ?_) ?_
      · simp only [scheme_Of.l0]
        rw [if_pos (by omega), if_pos (by omega), if_pos (by omega), bt_get x i c hg, part_f, hp, wrap_next (by omega)]
        simp
      · rw [hd, List.all_cons, hp, Bool.true_and]
        exact ih (i + 1) (by omega)
    · replace hp := Bool.eq_false_iff.mpr hp
      refine Ev.step (f := fun k => some (⟨#[]⟩, false)) (fun k => ?_) ?_
      · simp only [scheme_Of.l0]
        rw [if_pos (by omega), if_pos (by omega), if_pos (by omega), bt_get x i c hg, part_f, hp]
        simp
      · rw [hd, List.all_cons, hp, Bool.false_and]
        exact Ev.now _
theorem tidyL_len (l : List UInt8) : (tidyL l).length ≤ l.length :=
  Nat.le_trans (List.length_filter_le _ _) (List.dropWhile_suffix _).length_le
theorem of_ev (s : ByteArray) (hs : s.size ≤ 1000000) : Ev (fun k => scheme_Of.f k s) (ofR (ofS s)) := by
  have ht : scheme_tidy.f s = some ⟨(tidyL s.data.toList).toArray⟩ := by
    unfold scheme_tidy.f
    rw [if_pos (by omega)]
  unfold ofS
  have hlen := tidyL_len s.data.toList
  rw [data_len] at hlen
  generalize tidyL s.data.toList = t at ht hlen
  unfold scheme_Of.f
  rw [ht]
  simp only [Option.bind_some]
  have hT : (⟨t.toArray⟩ : ByteArray).data.toList = t := rfl
  have hsz : (⟨t.toArray⟩ : ByteArray).size = t.length := rfl
  by_cases h : (58 : UInt8) ∈ t
  · obtain ⟨x, hx⟩ := cut_some ⟨t.toArray⟩ (by rw [hsz]; omega) h
    rw [hx]
    simp only [Option.bind_some, if_true]
    unfold schL
    rw [if_pos h]
    have hl := (List.takeWhile_prefix (p := fun c : UInt8 => c != 58) (l := t)).length_le
    generalize List.takeWhile (· != 58) t = nm at hl
    have hN : (⟨nm.toArray⟩ : ByteArray).data.toList = nm := rfl
    have hNs : (⟨nm.toArray⟩ : ByteArray).size = nm.length := rfl
    rw [bytes_data, hN]
    cases nm with
    | nil =>
      refine Ev.step (f := fun _ => some (⟨#[]⟩, false)) (fun k => ?_) (Ev.now _)
      rw [if_pos rfl]
      rfl
    | cons c r =>
      have hb : bt ⟨(c :: r).toArray⟩ 0 = (c.toNat : Int) := bt_get ⟨(c :: r).toArray⟩ 0 c rfl
      refine Ev.congr (f := fun k => scheme_Of.j0 k ⟨(c :: r).toArray⟩ (!sLet c)) (fun k => ?_) ?_
      · rw [if_neg (by simp), if_pos (by rw [hNs, List.length_cons]; omega), hb, letter_f]
        rfl
      · by_cases hl1 : sLet c = true
        · rw [hl1]
          refine Ev.step (f := fun k => scheme_Of.l0 k ⟨(c :: r).toArray⟩ ((⟨(c :: r).toArray⟩ : ByteArray).size : Int) ((0 : Nat) : Int)) (fun k => ?_) ?_
          · simp [scheme_Of.j0]
          · have := of_l0 ⟨(c :: r).toArray⟩ (by rw [hNs]; omega) (⟨(c :: r).toArray⟩ : ByteArray).size 0 (by omega)
            rw [List.drop_zero, hN] at this
            by_cases ha : (c :: r).all sPart = true
            · rw [if_pos ha] at this; rw [schN, if_pos ⟨hl1, ha⟩]; exact this
            · rw [if_neg ha] at this; rw [schN, if_neg (fun e => ha e.2)]; exact this
        · replace hl1 := Bool.eq_false_iff.mpr hl1
          rw [hl1]
          refine Ev.step (f := fun k => some (⟨#[]⟩, false)) (fun k => ?_) ?_
          · simp [scheme_Of.j0]
          · rw [schN, if_neg (by rw [hl1]; simp)]
            exact Ev.now _
  · rw [cut_none ⟨t.toArray⟩ h]
    simp only [Option.bind_some]
    unfold schL
    rw [if_neg h]
    refine Ev.step (f := fun _ => some (⟨#[]⟩, false)) (fun k => ?_) (Ev.now _)
    rfl
def safeS (s : ByteArray) (l : List ByteArray) : Bool := match ofS s with
  | none => true
  | some t => l.any fun x => x.data.toList == t
theorem rd_at (l : List ByteArray) (i : Nat) (h : i < l.length) : rdOf ByteArray.empty l (i : Int) = l[i] := by
  simp [rdOf, List.getD_eq_getElem?_getD, h]
theorem index_l0 (l : List ByteArray) (x : ByteArray) (hl : l.length ≤ 1000000) : ∀ (d i : Nat), i + d = l.length →
    ∃ n : Int, Ev (fun k => slices_Index_string_string.l0 k l x (l.length : Int) (i : Int)) n ∧ decide (n ≥ 0) = (l.drop i).any (fun y => y.data.toList == x.data.toList) := by
  intro d
  induction d with
  | zero =>
    intro i hi
    refine ⟨-1, Ev.step (f := fun _ => some (-1)) (fun k => ?_) (Ev.now _), ?_⟩
    · simp only [slices_Index_string_string.l0]
      rw [if_neg (by omega)]
    · rw [List.drop_of_length_le (by omega)]; rfl
  | succ d ih =>
    intro i hi
    have hlt : i < l.length := by omega
    rw [List.drop_eq_getElem_cons hlt, List.any_cons]
    by_cases h : l[i].data.toList = x.data.toList
    · refine ⟨(i : Int), Ev.step (f := fun _ => some (i : Int)) (fun k => ?_) (Ev.now _), ?_⟩
      · simp only [slices_Index_string_string.l0]
        rw [if_pos (by omega), if_pos (by omega), if_pos (by omega), rd_at l i hlt, bytes_data, bytes_data, if_pos h.symm]
      · rw [h, beq_self_eq_true, Bool.true_or, decide_eq_true (by omega)]
    · obtain ⟨n, h1, h2⟩ := ih (i + 1) (by omega)
      refine ⟨n, Ev.step (f := fun k => slices_Index_string_string.l0 k l x (l.length : Int) ((i + 1 : Nat) : Int)) (fun k => ?_) h1, ?_⟩
      · simp only [slices_Index_string_string.l0]
        rw [if_pos (by omega), if_pos (by omega), if_pos (by omega), rd_at l i hlt, bytes_data, bytes_data, if_neg (fun e => h e.symm), wrap_next (by omega)]
      · have e : (l[i].data.toList == x.data.toList) = false := beq_eq_false_iff_ne.mpr h
        rw [h2, e, Bool.false_or]
theorem contains_ev (l : List ByteArray) (x : ByteArray) (hl : l.length ≤ 1000000) : Ev (fun k => slices_Contains_string_string.f k l x) (l.any fun y => y.data.toList == x.data.toList) := by
  obtain ⟨n, h1, h2⟩ := index_l0 l x hl l.length 0 (by omega)
  rw [List.drop_zero] at h2
  rw [← h2]
  unfold slices_Contains_string_string.f
  exact Ev.bind (f := fun _ t => some (decide (t ≥ 0))) h1 (Ev.now _)
theorem safe_ev (s : ByteArray) (l : List ByteArray) (hs : s.size ≤ 1000000) (hl : l.length ≤ 1000000) : Ev (fun k => scheme_Safe.f k s l) (safeS s l) := by
  unfold scheme_Safe.f safeS
  have h := of_ev s hs
  cases ho : ofS s with
  | none =>
    rw [ho] at h
    refine Ev.bind (f := fun k bt => if bt.2 = true then ((slices_Contains_string_string.f k l bt.1).bind fun t118 => some t118) else some true) h ?_
    exact Ev.congr (f := fun _ => some true) (fun k => rfl) (Ev.now _)
  | some t =>
    rw [ho] at h
    refine Ev.bind (f := fun k bt => if bt.2 = true then ((slices_Contains_string_string.f k l bt.1).bind fun t118 => some t118) else some true) h ?_
    exact Ev.bind (f := fun _ t => some t) (contains_ev l ⟨t.toArray⟩ hl) (Ev.now _)
def w_raw : List (List UInt8) := [[105, 102, 114, 97, 109, 101], [110, 111, 101, 109, 98, 101, 100], [110, 111, 102, 114, 97, 109, 101, 115], [115, 99, 114, 105, 112, 116], [115, 116, 121, 108, 101], [120, 109, 112]]
def w_rcdata : List (List UInt8) := [[116, 101, 120, 116, 97, 114, 101, 97], [116, 105, 116, 108, 101]]
def w_table : List (List UInt8) := [[99, 97, 112, 116, 105, 111, 110], [99, 111, 108], [99, 111, 108, 103, 114, 111, 117, 112], [116, 98, 111, 100, 121], [116, 100], [116, 102, 111, 111, 116], [116, 104], [116, 104, 101, 97, 100], [116, 114]]
def w_skip : List (List UInt8) := [[98, 111, 100, 121], [102, 114, 97, 109, 101], [102, 114, 97, 109, 101, 115, 101, 116], [104, 101, 97, 100], [104, 116, 109, 108]]

def setK (k : Int) : List (List UInt8) :=
  if k = 2 then w_raw else if k = 3 then w_rcdata else if k = 12 then w_table ++ w_skip else []
def inK (k : Int) (name : ByteArray) : Bool := (setK k).contains name.data.toList

theorem among_l0 (a0 : ByteArray) (xs : List ByteArray) (hx : xs.length ≤ 1000000) : ∀ (d i k : Nat), i + d = xs.length → d < k →
    kind_among.l0 k a0 xs (xs.length : Int) (i : Int) = some ((xs.drop i).any fun s => s.toList == a0.toList) := by
  intro d
  induction d with
  | zero =>
    intro i k hi hk
    obtain ⟨k, rfl⟩ : ∃ m, k = m + 1 := ⟨k - 1, by omega⟩
    simp only [kind_among.l0]
    rw [if_neg (by omega), List.drop_of_length_le (by omega)]
    rfl
  | succ d ih =>
    intro i k hi hk
    obtain ⟨k, rfl⟩ : ∃ m, k = m + 1 := ⟨k - 1, by omega⟩
    have hlt : i < xs.length := by omega
    simp only [kind_among.l0]
    rw [if_pos (by omega), if_pos (by omega), if_pos (by omega), wrap_next (by omega), ih (i + 1) k (by omega) (by omega)]
    have e : rdOf ByteArray.empty xs (i : Int) = xs[i] := by simp [rdOf, List.getD_eq_getElem?_getD, hlt]
    rw [e, List.drop_eq_getElem_cons hlt, List.any_cons]
    by_cases h : xs[i].toList = a0.toList
    · rw [if_pos h]; simp [h]
    · rw [if_neg h]; simp [h]
theorem among_ev (a0 : ByteArray) (xs : List ByteArray) (hx : xs.length ≤ 1000000) : Ev (fun k => kind_among.f k a0 xs) ((xs.map fun s => s.data.toList).contains a0.data.toList) := by
  refine ⟨xs.length + 1, fun k hk => ?_⟩
  have h := among_l0 a0 xs hx xs.length 0 k (by omega) (by omega)
  unfold kind_among.f
  rw [List.drop_zero] at h
  refine Eq.trans h ?_
  congr 1
  rw [List.contains_eq_any_beq, List.any_map]
  apply congrArg (fun p => List.any xs p)
  funext s
  rw [bytes_data, bytes_data]
  exact Bool.beq_comm
theorem raw_ev (a0 : ByteArray) : Ev (fun k => kind_raw.f k a0) (w_raw.contains a0.data.toList) := by
  unfold kind_raw.f
  refine Ev.bind (among_ev a0 _ (by decide)) ?_
  exact ⟨0, fun _ _ => rfl⟩
theorem rcdata_ev (a0 : ByteArray) : Ev (fun k => kind_rcdata.f k a0) (w_rcdata.contains a0.data.toList) := by
  unfold kind_rcdata.f
  refine Ev.bind (among_ev a0 _ (by decide)) ?_
  exact ⟨0, fun _ _ => rfl⟩
theorem table_ev (a0 : ByteArray) : Ev (fun k => kind_table.f k a0) (w_table.contains a0.data.toList) := by
  unfold kind_table.f
  refine Ev.bind (among_ev a0 _ (by decide)) ?_
  exact ⟨0, fun _ _ => rfl⟩
theorem Ev.or {g : Nat → Option Bool} {f : Nat → Option Bool} {b c : Bool} (h : Ev g b) (h' : Ev f c) : Ev (fun n => (g n).bind fun t => if t = true then some true else f n) (b || c) := by
  refine Ev.bind h ?_
  cases b with
  | true => exact ⟨0, fun _ _ => rfl⟩
  | false => exact Ev.congr (fun _ => rfl) h'
theorem Ev.pass {g : Nat → Option Bool} {b : Bool} (h : Ev g b) : Ev (fun n => (g n).bind fun t => some t) b := by
  refine Ev.bind h ?_
  exact ⟨0, fun _ _ => rfl⟩
theorem Ev.is {b : Bool} {x : Option Bool} (h : x = some b) : Ev (fun _ => x) b := ⟨0, fun _ _ => h⟩
theorem contains_append (a b : List (List UInt8)) (x : List UInt8) : (a ++ b).contains x = (a.contains x || b.contains x) := by
  simp
theorem is_ev (k0 : Int) (a1 : ByteArray) (h : k0 = 2 ∨ k0 = 3 ∨ k0 = 12 := by decide) : Ev (fun k => kind_Is.f k k0 a1) (inK k0 a1) := by
  unfold inK
  rcases h with rfl | rfl | rfl
  · exact Ev.congr (fun _ => rfl) (Ev.pass (raw_ev a1))
  · exact Ev.congr (fun _ => rfl) (Ev.pass (rcdata_ev a1))
  · have e : setK 12 = w_table ++ w_skip := rfl
    rw [e, contains_append]
    exact Ev.congr (fun _ => rfl) (Ev.or (table_ev a1) (Ev.pass (among_ev a1 _ (by decide))))
theorem Ev.way {α : Type} {g : Nat → Option Bool} {b : Bool} {X Y : Nat → Option α} {r : α} (h : Ev g b) (hx : b = true → Ev X r) (hy : b = false → Ev Y r) :
    Ev (fun n => (g n).bind fun t => if t = true then X n else Y n) r := by
  cases b with
  | true => exact Ev.bind (f := fun n t => if t = true then X n else Y n) h (Ev.congr (fun k => if_pos rfl) (hx rfl))
  | false => exact Ev.bind (f := fun n t => if t = true then X n else Y n) h (Ev.congr (fun k => if_neg (by decide)) (hy rfl))
def memB (l : List ByteArray) (x : ByteArray) : Bool := l.any fun y => y.data.toList == x.data.toList
def nmGo : List ByteArray → List ByteArray → Bool
  | _, [] => true
  | pre, x :: r => nameB x && (!memB pre x && nmGo (pre ++ [x]) r)
def namesS (l : List ByteArray) : Bool := nmGo [] l
theorem take_next (l : List ByteArray) (i : Nat) (h : i < l.length) : l.take i ++ [l[i]] = l.take (i + 1) := by
  rw [List.take_add_one, List.getElem?_eq_getElem h]; rfl
theorem areNames_l0 (l : List ByteArray) (hl : l.length ≤ 1000000) : ∀ (d i : Nat), i + d = l.length → Ev (fun k => policy_areNames.l0 k l l (l.length : Int) (i : Int)) (nmGo (l.take i) (l.drop i)) := by
  intro d
  induction d with
  | zero =>
    intro i hi
    refine Ev.step (f := fun _ => some true) (fun k => ?_) ?_
    · simp only [policy_areNames.l0]
      rw [if_neg (by omega)]
    · rw [List.drop_of_length_le (by omega)]; exact Ev.now _
  | succ d ih =>
    intro i hi
    have hlt : i < l.length := by omega
    rw [List.drop_eq_getElem_cons hlt]
    refine Ev.step (f := fun k => (policy_isName.f l[i]).bind fun t => if t = true then ((slices_Contains_string_string.f k (l.take i) l[i]).bind fun t2 => if t2 = true then some false else policy_areNames.l0 k l l (l.length : Int) ((i + 1 : Nat) : Int)) else some false) (fun k => ?_) ?_
    · simp only [policy_areNames.l0]
      rw [if_pos (by omega), if_pos (by omega), if_pos (by omega), rd_at l i hlt, wrap_next (by omega), if_pos (show (i : Int) ≤ (l.length : Int) by omega)]
      rfl
    · unfold nmGo
      refine Ev.way (g := fun _ => policy_isName.f l[i]) (b := nameB l[i]) ⟨0, fun _ _ => rfl⟩ (fun hn => ?_) (fun hn => ?_)
      · refine Ev.way (contains_ev (l.take i) l[i] (by rw [List.length_take]; omega)) (fun hm => ?_) (fun hm => ?_)
        · rw [hn, show memB (l.take i) l[i] = true from hm]; exact Ev.now _
        · rw [hn, show memB (l.take i) l[i] = false from hm, take_next l i hlt]; exact ih (i + 1) (by omega)
      · rw [hn]; exact Ev.now _
theorem areNames_ev (l : List ByteArray) (hl : l.length ≤ 1000000) : Ev (fun k => policy_areNames.f k l) (namesS l) := by
  have h := areNames_l0 l hl l.length 0 (by omega)
  rw [List.take_zero, List.drop_zero] at h
  exact h
def hardN : List (List UInt8) := [[109, 97, 116, 104], [110, 111, 115, 99, 114, 105, 112, 116], [112, 108, 97, 105, 110, 116, 101, 120, 116], [115, 118, 103], [116, 101, 109, 112, 108, 97, 116, 101]]
def neverS (s : ByteArray) : Bool := hardN.contains s.data.toList || (inK 2 s || (inK 3 s || inK 12 s))
theorem never_j0 (s : ByteArray) (b : Bool) : Ev (fun k => policy_never.j0 k s b) (b || (inK 2 s || (inK 3 s || inK 12 s))) := by
  refine Ev.step (f := fun k => if b = true then some true else ((kind_Is.f k 2 s).bind fun t => if t = true then some true else ((kind_Is.f k 3 s).bind fun t => if t = true then some true else ((kind_Is.f k 12 s).bind fun t => some t)))) (fun k => by simp only [policy_never.j0]) ?_
  cases b with
  | true => exact Ev.congr (fun k => if_pos rfl) (Ev.now _)
  | false =>
    refine Ev.congr (fun k => if_neg (by decide)) ?_
    rw [Bool.false_or]
    exact Ev.or (is_ev 2 s) (Ev.or (is_ev 3 s) (Ev.pass (is_ev 12 s)))
theorem never_ev (s : ByteArray) : Ev (fun k => policy_never.f k s) (neverS s) := by
  have hc : ∀ L : List UInt8, (s.data.toList == L) = (s.toList == L) := fun L => by rw [bytes_data]
  have e : neverS s = (s.toList == [109, 97, 116, 104] || (s.toList == [110, 111, 115, 99, 114, 105, 112, 116] || (s.toList == [112, 108, 97, 105, 110, 116, 101, 120, 116] || (s.toList == [115, 118, 103] || (s.toList == [116, 101, 109, 112, 108, 97, 116, 101]))))
      || (inK 2 s || (inK 3 s || inK 12 s))) := by
    unfold neverS hardN
    simp only [List.contains_cons, List.contains_nil, Bool.or_false, hc]
  rw [e]
  unfold policy_never.f
  by_cases h1 : s.toList = ([109, 97, 116, 104] : List UInt8)
  · rw [h1]
    exact Ev.congr (fun k => if_pos rfl) (never_j0 s true)
  · rw [beq_eq_false_iff_ne.mpr h1, Bool.false_or]
    refine Ev.congr (fun k => if_neg h1) ?_
    by_cases h2 : s.toList = ([110, 111, 115, 99, 114, 105, 112, 116] : List UInt8)
    · rw [h2]
      exact Ev.congr (fun k => if_pos rfl) (never_j0 s true)
    · rw [beq_eq_false_iff_ne.mpr h2, Bool.false_or]
      refine Ev.congr (fun k => if_neg h2) ?_
      by_cases h3 : s.toList = ([112, 108, 97, 105, 110, 116, 101, 120, 116] : List UInt8)
      · rw [h3]
        exact Ev.congr (fun k => if_pos rfl) (never_j0 s true)
      · rw [beq_eq_false_iff_ne.mpr h3, Bool.false_or]
        refine Ev.congr (fun k => if_neg h3) ?_
        by_cases h4 : s.toList = ([115, 118, 103] : List UInt8)
        · rw [h4]
          exact Ev.congr (fun k => if_pos rfl) (never_j0 s true)
        · rw [beq_eq_false_iff_ne.mpr h4, Bool.false_or]
          exact Ev.congr (fun k => if_neg h4) (never_j0 s _)
def restB (dr : List ByteArray) (x : S53) : Bool := !neverS x.f0 && (!memB dr x.f0 && (namesS x.f1 && !x.f1.any actsB))
def chkGo (dr : List ByteArray) : List ByteArray → List S53 → Bool
  | all, [] => namesS all
  | all, x :: r => restB dr x && chkGo dr (all ++ [x.f0]) r
theorem rdT_at (l : List S53) (i : Nat) (h : i < l.length) : rd_T53 l (i : Int) = l[i] := by
  simp [rd_T53, List.getD_eq_getElem?_getD, h]
def okE (b : Bool) : Int := if b = true then 0 else 1
theorem check_l0 (l : List S53) (l1 l2 l3 : List ByteArray) (d0 : Int) (hl : l.length ≤ 1000) (h3 : l3.length ≤ 1000) (ha : ∀ x ∈ l, x.f1.length ≤ 1000) : ∀ (d i : Nat) (all : List ByteArray), i + d = l.length → all.length = i →
    Ev (fun k => policy_Check.l0 k all l (l.length : Int) (i : Int) l l1 l2 l3 d0) (okE (chkGo l3 all (l.drop i))) := by
  intro d
  induction d with
  | zero =>
    intro i all hi hall
    refine Ev.step (f := fun k => (policy_areNames.f k all).bind fun t => if t = true then some 0 else some 1) (fun k => ?_) ?_
    · simp only [policy_Check.l0]
      rw [if_neg (by omega)]
    · rw [List.drop_of_length_le (by omega)]
      show Ev _ (okE (namesS all))
      refine Ev.way (areNames_ev all (by omega)) (fun h => ?_) (fun h => ?_)
      · rw [h]; exact Ev.now _
      · rw [h]; exact Ev.now _
  | succ d ih =>
    intro i all hi hall
    have hlt : i < l.length := by omega
    rw [List.drop_eq_getElem_cons hlt]
    have hf1 : l[i].f1.length ≤ 1000 := ha _ (List.getElem_mem hlt)
    refine Ev.step (f := fun k => (policy_never.f k l[i].f0).bind fun t => if t = true then some 1 else ((slices_Contains_string_string.f k l3 l[i].f0).bind fun t => if t = true then some 1 else ((policy_areNames.f k l[i].f1).bind fun t => if t = true then ((cf_acts.f l[i].f1).bind fun t => if t = true then some 1 else policy_Check.l0 k (all ++ [l[i].f0]) l (l.length : Int) ((i + 1 : Nat) : Int) l l1 l2 l3 d0) else some 1))) (fun k => ?_) ?_
    · simp only [policy_Check.l0]
      rw [if_pos (by omega), if_pos (by omega), if_pos (by omega), rdT_at l i hlt, wrap_next (by omega), if_pos (show all.length < 8796093022208 by omega)]
    · unfold chkGo restB
      refine Ev.way (never_ev l[i].f0) (fun h => ?_) (fun h => ?_)
      · rw [h]; exact Ev.now _
      rw [h]
      refine Ev.way (contains_ev l3 l[i].f0 (by omega)) (fun h => ?_) (fun h => ?_)
      · rw [show memB l3 l[i].f0 = true from h]; exact Ev.now _
      rw [show memB l3 l[i].f0 = false from h]
      refine Ev.way (areNames_ev l[i].f1 (by omega)) (fun h => ?_) (fun h => ?_)
      · rw [h]
        refine Ev.way (g := fun _ => cf_acts.f l[i].f1) (b := l[i].f1.any actsB) ⟨0, fun _ _ => by unfold cf_acts.f; rw [if_pos hf1]⟩ (fun h => ?_) (fun h => ?_)
        · rw [h]; exact Ev.now _
        · rw [h]; exact ih (i + 1) (all ++ [l[i].f0]) (by omega) (by simp; omega)
      · rw [h]; exact Ev.now _
def headB (l1 l2 l3 : List ByteArray) (d : Int) : Bool := decide (1 ≤ d ∧ d ≤ 60) && (namesS l1 && (namesS l2 && (namesS l3 && !l2.any runsB)))
def checkS (l0 : List S53) (l1 l2 l3 : List ByteArray) (d : Int) : Int := if largeB l0 l1 l2 l3 = true then 4 else okE (headB l1 l2 l3 d && chkGo l3 [] l0)
structure SmallP (l0 : List S53) (l1 l2 l3 : List ByteArray) : Prop where
  b0 : l0.length ≤ 1000
  b1 : l1.length ≤ 1000
  b2 : l2.length ≤ 1000
  b3 : l3.length ≤ 1000
  ba : ∀ x ∈ l0, x.f1.length ≤ 1000
theorem check_ev (l0 : List S53) (l1 l2 l3 : List ByteArray) (d : Int) (hs : SmallP l0 l1 l2 l3) : Ev (fun k => policy_Check.f k l0 l1 l2 l3 d) (checkS l0 l1 l2 l3 d) := by
  obtain ⟨h0, h1, h2, h3, ha⟩ := hs
  have hj1 : Ev (fun k => policy_Check.j0 k true l0 l1 l2 l3 d) 1 := Ev.step (f := fun _ => some 1) (fun k => by simp only [policy_Check.j0]; rfl) (Ev.now _)
  have hj0 : Ev (fun k => policy_Check.j0 k false l0 l1 l2 l3 d) (okE (chkGo l3 [] l0)) := by
    refine Ev.step (f := fun k => policy_Check.l0 k [] l0 (l0.length : Int) 0 l0 l1 l2 l3 d) (fun k => by simp only [policy_Check.j0]; rfl) ?_
    have h := check_l0 l0 l1 l2 l3 d h0 h3 ha l0.length 0 [] (by omega) rfl
    rw [List.drop_zero] at h
    exact h
  unfold policy_Check.f checkS
  refine Ev.way (g := fun _ => policy_large.f l0 l1 l2 l3 d) (b := largeB l0 l1 l2 l3) ⟨0, fun _ _ => rfl⟩ (fun h => ?_) (fun h => ?_)
  · rw [if_pos h]; exact Ev.now _
  · rw [if_neg (by rw [h]; decide)]
    unfold headB
    by_cases hd1 : d < 1
    · rw [decide_eq_false (show ¬ (1 ≤ d ∧ d ≤ 60) by omega)]
      exact Ev.congr (fun k => if_pos hd1) hj1
    by_cases hd2 : d > 60
    · rw [decide_eq_false (show ¬ (1 ≤ d ∧ d ≤ 60) by omega)]
      exact Ev.congr (fun k => by rw [if_neg hd1, if_pos hd2]) hj1
    rw [decide_eq_true (show 1 ≤ d ∧ d ≤ 60 by omega)]
    refine Ev.congr (fun k => by rw [if_neg hd1, if_neg hd2]) ?_
    refine Ev.way (areNames_ev l1 (by omega)) (fun h => ?_) (fun h => ?_)
    · rw [h]
      refine Ev.way (areNames_ev l2 (by omega)) (fun h => ?_) (fun h => ?_)
      · rw [h]
        refine Ev.way (areNames_ev l3 (by omega)) (fun h => ?_) (fun h => ?_)
        · rw [h]
          refine Ev.bind (g := fun _ => cf_runs.f l2) (f := fun k t => policy_Check.j0 k t l0 l1 l2 l3 d) (a := l2.any runsB) ⟨0, fun _ _ => by unfold cf_runs.f; rw [if_pos h2]⟩ ?_
          cases h : l2.any runsB with
          | true => exact hj1
          | false => exact hj0
        · rw [h]; exact hj1
      · rw [h]; exact hj1
    · rw [h]; exact hj1
theorem nodes_nil (l0 : List S53) (l1 l2 l3 : List ByteArray) (d n : Int) : policy_nodes.f l0 l1 l2 l3 d [] n = some true := by
  first | rfl | (unfold policy_nodes.f; rw [if_pos ⟨2, rfl⟩])
theorem al_zero : marginalialaw11_alive0.f 100 = some true := by
  unfold marginalialaw11_alive0.f policy_Allowed.f
  simp only [nodes_nil]
  kernel_rfl
theorem alive_ev : Ev (fun k => marginalialaw11_alive.f k) true := by
  refine Ev.of marginalialaw11_alive.mono (k := 100) ?_
  unfold marginalialaw11_alive.f
  rw [if_pos al_zero]
def textsS (l : List ByteArray) : Bool := decide (l.length ≤ 60) && l.all fun s => decide (s.size ≤ 60)
theorem texts_l0 (l : List ByteArray) (hl : l.length ≤ 1000) : ∀ (d i : Nat), i + d = l.length → Ev (fun k => marginaliaref11_texts.l0 k l (i : Int)) ((l.drop i).all fun s => decide (s.size ≤ 60)) := by
  intro d
  induction d with
  | zero =>
    intro i hi
    refine Ev.step (f := fun _ => some true) (fun k => ?_) ?_
    · simp only [marginaliaref11_texts.l0]
      rw [if_neg (show ¬ ((i : Int) < (l.length : Int)) by omega)]
    · rw [List.drop_of_length_le (by omega)]; exact Ev.now _
  | succ d ih =>
    intro i hi
    have hlt : i < l.length := by omega
    rw [List.drop_eq_getElem_cons hlt, List.all_cons]
    by_cases h : l[i].size ≤ 60
    · refine Ev.step (f := fun k => marginaliaref11_texts.l0 k l ((i + 1 : Nat) : Int)) (fun k => ?_) ?_
      · simp only [marginaliaref11_texts.l0]
        rw [if_pos (show (i : Int) < (l.length : Int) by omega), if_pos (show (0 : Int) ≤ (i : Int) by omega), rd_at l i hlt, if_neg (show ¬ ((l[i].size : Int) > 60) by omega), wrap_next (by omega)]
      · rw [decide_eq_true h, Bool.true_and]; exact ih (i + 1) (by omega)
    · refine Ev.step (f := fun _ => some false) (fun k => ?_) ?_
      · simp only [marginaliaref11_texts.l0]
        rw [if_pos (show (i : Int) < (l.length : Int) by omega), if_pos (show (0 : Int) ≤ (i : Int) by omega), rd_at l i hlt, if_pos (show (l[i].size : Int) > 60 by omega)]
      · rw [decide_eq_false h, Bool.false_and]; exact Ev.now _
theorem texts_ev (l : List ByteArray) : Ev (fun k => marginaliaref11_texts.f k l) (textsS l) := by
  unfold marginaliaref11_texts.f textsS
  by_cases h : (l.length : Int) > 60
  · rw [decide_eq_false (show ¬ l.length ≤ 60 by omega), Bool.false_and]
    exact Ev.congr (fun k => if_pos h) (Ev.now _)
  · rw [decide_eq_true (show l.length ≤ 60 by omega), Bool.true_and]
    have h0 := texts_l0 l (by omega) l.length 0 (by omega)
    rw [List.drop_zero] at h0
    exact Ev.congr (fun k => if_neg h) h0
def smallS (l0 : List S53) (l1 l2 l3 : List ByteArray) : Bool := decide (l0.length ≤ 60) && (textsS l1 && (textsS l2 && (textsS l3 && l0.all fun x => decide (x.f0.size ≤ 60) && textsS x.f1)))
theorem small_l0 (l : List S53) (l1 l2 l3 : List ByteArray) (d0 : Int) (hl : l.length ≤ 1000) : ∀ (d i : Nat), i + d = l.length → Ev (fun k => marginaliaref11_Small.l0 k (i : Int) l l1 l2 l3 d0) ((l.drop i).all fun x => decide (x.f0.size ≤ 60) && textsS x.f1) := by
  intro d
  induction d with
  | zero =>
    intro i hi
    refine Ev.step (f := fun _ => some true) (fun k => ?_) ?_
    · simp only [marginaliaref11_Small.l0]
      rw [if_neg (show ¬ ((i : Int) < (l.length : Int)) by omega)]
    · rw [List.drop_of_length_le (by omega)]; exact Ev.now _
  | succ d ih =>
    intro i hi
    have hlt : i < l.length := by omega
    rw [List.drop_eq_getElem_cons hlt, List.all_cons]
    by_cases h : l[i].f0.size ≤ 60
    · refine Ev.step (f := fun k => (marginaliaref11_texts.f k l[i].f1).bind fun t => if t = true then marginaliaref11_Small.l0 k ((i + 1 : Nat) : Int) l l1 l2 l3 d0 else some false) (fun k => ?_) ?_
      · simp only [marginaliaref11_Small.l0]
        rw [if_pos (show (i : Int) < (l.length : Int) by omega), if_pos (show (0 : Int) ≤ (i : Int) by omega), rdT_at l i hlt, if_neg (show ¬ ((l[i].f0.size : Int) > 60) by omega), wrap_next (by omega)]
      · rw [decide_eq_true h, Bool.true_and]
        refine Ev.way (texts_ev l[i].f1) (fun h => ?_) (fun h => ?_)
        · rw [h]; exact ih (i + 1) (by omega)
        · rw [h]; exact Ev.now _
    · refine Ev.step (f := fun _ => some false) (fun k => ?_) ?_
      · simp only [marginaliaref11_Small.l0]
        rw [if_pos (show (i : Int) < (l.length : Int) by omega), if_pos (show (0 : Int) ≤ (i : Int) by omega), rdT_at l i hlt, if_pos (show (l[i].f0.size : Int) > 60 by omega)]
      · rw [decide_eq_false h, Bool.false_and, Bool.false_and]; exact Ev.now _
theorem small_ev (l0 : List S53) (l1 l2 l3 : List ByteArray) (d : Int) : Ev (fun k => marginaliaref11_Small.f k l0 l1 l2 l3 d) (smallS l0 l1 l2 l3) := by
  have hjt : Ev (fun k => marginaliaref11_Small.j0 k true l0 l1 l2 l3 d) false := Ev.step (f := fun _ => some false) (fun k => by simp only [marginaliaref11_Small.j0]; rfl) (Ev.now _)
  unfold marginaliaref11_Small.f smallS
  by_cases h : (l0.length : Int) > 60
  · rw [decide_eq_false (show ¬ l0.length ≤ 60 by omega), Bool.false_and]
    exact Ev.congr (fun k => if_pos h) hjt
  · have hjf : Ev (fun k => marginaliaref11_Small.j0 k false l0 l1 l2 l3 d) (l0.all fun x => decide (x.f0.size ≤ 60) && textsS x.f1) := by
      refine Ev.step (f := fun k => marginaliaref11_Small.l0 k 0 l0 l1 l2 l3 d) (fun k => by simp only [marginaliaref11_Small.j0]; rfl) ?_
      have h0 := small_l0 l0 l1 l2 l3 d (by omega) l0.length 0 (by omega)
      rw [List.drop_zero] at h0
      exact h0
    rw [decide_eq_true (show l0.length ≤ 60 by omega), Bool.true_and]
    refine Ev.congr (fun k => if_neg h) ?_
    refine Ev.way (texts_ev l1) (fun h => ?_) (fun h => ?_)
    · rw [h]
      refine Ev.way (texts_ev l2) (fun h => ?_) (fun h => ?_)
      · rw [h]
        refine Ev.bind (f := fun k t => marginaliaref11_Small.j0 k (!t) l0 l1 l2 l3 d) (texts_ev l3) ?_
        cases textsS l3 with
        | true => exact hjf
        | false => exact hjt
      · rw [h]; exact hjt
    · rw [h]; exact hjt
theorem small_is {l0 : List S53} {l1 l2 l3 : List ByteArray} (h : smallS l0 l1 l2 l3 = true) : SmallP l0 l1 l2 l3 := by
  unfold smallS textsS at h
  simp only [Bool.and_eq_true, decide_eq_true_eq, List.all_eq_true] at h
  obtain ⟨h0, ⟨h1, _⟩, ⟨h2, _⟩, ⟨h3, _⟩, ha⟩ := h
  exact ⟨by omega, by omega, by omega, by omega, fun x hx => by have := (ha x hx).2.1; omega⟩
end Go.Proofs.YtnbghhddmlohoaaDoor.Pure

end

section
namespace Go.Proofs.YtnbghhddmlohoaaDoor.Pure
open Go.RowKit Go.Proofs.YtnbghhddmlohoaaDoor.PAll Go.Proofs.YtnbghhddmlohoaaDoorW.PrintWords Go.Proofs.YtnbghhddmlohoaaDoorW.PrintLast
def fnd (l : List S53) (n : ByteArray) : Option S53 := l.find? fun x => x.f0.toList == n.toList
def fndR : Option S53 → ByteArray × List ByteArray × Bool
  | none => ((⟨#[]⟩ : ByteArray), [], false)
  | some x => (x.f0, x.f1, true)
theorem prule_l0 (l : List S53) (n : ByteArray) (hl : l.length ≤ 1000) : ∀ (d i : Nat), i + d = l.length → Ev (fun k => policy_rule.l0 k n l (l.length : Int) (i : Int)) (fndR (fnd (l.drop i) n)) := by
  intro d
  induction d with
  | zero =>
    intro i hi
    refine Ev.step (f := fun _ => some ((⟨#[]⟩ : ByteArray), ([] : List ByteArray), false)) (fun k => ?_) ?_
    · simp only [policy_rule.l0]
      rw [if_neg (show ¬ ((i : Int) < (l.length : Int)) by omega)]
    · rw [List.drop_of_length_le (by omega)]; exact Ev.now _
  | succ d ih =>
    intro i hi
    have hlt : i < l.length := by omega
    rw [List.drop_eq_getElem_cons hlt]
    unfold fnd
    rw [List.find?_cons]
    by_cases h : l[i].f0.toList = n.toList
    · refine Ev.step (f := fun _ => some (l[i].f0, l[i].f1, true)) (fun k => ?_) ?_
      · simp only [policy_rule.l0]
        rw [if_pos (show (i : Int) < (l.length : Int) by omega), if_pos (show (0 : Int) ≤ (i : Int) by omega), rdT_at l i hlt, if_pos (show (i : Int) < (l.length : Int) by omega), if_pos h]
      · rw [beq_iff_eq.mpr h]; exact Ev.now _
    · refine Ev.step (f := fun k => policy_rule.l0 k n l (l.length : Int) ((i + 1 : Nat) : Int)) (fun k => ?_) ?_
      · simp only [policy_rule.l0]
        rw [if_pos (show (i : Int) < (l.length : Int) by omega), if_pos (show (0 : Int) ≤ (i : Int) by omega), rdT_at l i hlt, if_pos (show (i : Int) < (l.length : Int) by omega), if_neg h, wrap_next (by omega)]
      · rw [beq_eq_false_iff_ne.mpr h]; exact ih (i + 1) (by omega)
theorem prule_ev (l : List S53) (l1 l2 l3 : List ByteArray) (d0 : Int) (n : ByteArray) (hl : l.length ≤ 1000) : Ev (fun k => policy_rule.f k l l1 l2 l3 d0 n) (fndR (fnd l n)) := by
  have h := prule_l0 l n hl l.length 0 (by omega)
  rw [List.drop_zero] at h
  exact h
theorem fnd_mem {l : List S53} {n : ByteArray} {x : S53} (h : fnd l n = some x) : x ∈ l := List.mem_of_find?_eq_some h
section
variable (l : List S53) (l1 l2 l3 : List ByteArray) (d0 : Int)
def letS (x : S53) (an av : ByteArray) : Bool := memB x.f1 an && (!memB l1 an || safeS av l2)
variable (hs : SmallP l l1 l2 l3)
include hs
theorem let_ev (nn : ByteArray) (x : S53) (an av : ByteArray) (hx : x.f1.length ≤ 1000) (hav : av.size ≤ 1000000) : Ev (fun k => policy_let.f k l l1 l2 l3 d0 nn x.f1 an av) (letS l1 l2 x an av) := by
  have b1 := hs.b1
  have b2 := hs.b2
  unfold policy_let.f letS
  refine Ev.way (contains_ev x.f1 an (by omega)) (fun h => ?_) (fun h => ?_)
  · rw [show memB x.f1 an = true from h, Bool.true_and]
    refine Ev.way (contains_ev l1 an (by omega)) (fun h => ?_) (fun h => ?_)
    · rw [show memB l1 an = true from h, Bool.not_true, Bool.false_or]
      exact Ev.pass (safe_ev av l2 hav (by omega))
    · rw [show memB l1 an = false from h]; exact Ev.now _
  · rw [show memB x.f1 an = false from h]; exact Ev.now _
end
end Go.Proofs.YtnbghhddmlohoaaDoor.Pure

end

section
namespace Go.Proofs.YtnbghhddmlohoaaDoor.Pure
open Go.RowKit Go.Proofs.YtnbghhddmlohoaaDoor.PAll Go.Proofs.YtnbghhddmlohoaaDoorW.PrintWords Go.Proofs.YtnbghhddmlohoaaDoorW.PrintLast
set_option linter.unusedSimpArgs false
set_option linter.unusedVariables false
theorem wr {n : Int} (h : -9223372036854775808 ≤ n) (h' : n ≤ 9223372036854775807) : wrap64 n = n := by unfold wrap64; omega
theorem rdN_at (l : List S49) (i : Nat) (h : i < l.length) : rd_T49 l (i : Int) = l[i] := by
  simp [rd_T49, List.getD_eq_getElem?_getD, h]
theorem rdA_at (l : List S35) (i : Nat) (h : i < l.length) : rd_T35 l (i : Int) = l[i] := by
  simp [rd_T35, List.getD_eq_getElem?_getD, h]
def NB : Nat → List S49 → Prop
  | 0, _ => False
  | e + 1, l => l.length ≤ 1000 ∧ ∀ x ∈ l, x.f3.length ≤ 1000 ∧ (∀ a ∈ x.f3, a.f1.size ≤ 1000) ∧ NB e x.f5
def WT (g : Nat → Option Int) (m : Nat) (P : Prop) : Prop := ∃ r : Nat, Ev g (r : Int) ∧ r ≤ m ∧ (r < m → P)
theorem WT.step {g f : Nat → Option Int} {m : Nat} {P : Prop} (h : ∀ k, g (k + 1) = f k) (w : WT f m P) : WT g m P := by
  obtain ⟨r, e, h1, h2⟩ := w
  exact ⟨r, Ev.step h e, h1, h2⟩
theorem WT.top {g : Nat → Option Int} {m : Nat} {P : Prop} (h : ∀ k, g (k + 1) = some (m : Int)) : WT g m P := ⟨m, Ev.step (f := fun _ => some (m : Int)) h (Ev.now _), Nat.le_refl _, fun hh => absurd hh (by omega)⟩
theorem WT.imp {g : Nat → Option Int} {m : Nat} {P Q : Prop} (h : P → Q) (w : WT g m P) : WT g m Q := by
  obtain ⟨r, e, h1, h2⟩ := w
  exact ⟨r, e, h1, fun hh => h (h2 hh)⟩
section
variable (l : List S49) (m : Nat) (deep : Int) (e : Nat) (hm : m ≤ 1000)
include hm
theorem weight_l1 (i : Nat) (hi : i < l.length) (hal : l[i].f3.length ≤ 1000) (P : Prop) (n0 : Nat) (K : ∀ n', n0 ≤ n' → n' < m → WT (fun k => (marginaliaref09_Weight.f k l[i].f5 ((m : Int) - (n' : Int)) (wrap64 (deep - 1))).bind fun t => marginaliaref09_Weight.l0 k l m deep (wrap64 ((n' : Int) + t)) (wrap64 ((i : Int) + 1))) m P) :
    ∀ (d j n : Nat), j + d = l[i].f3.length → n0 ≤ n → n ≤ 5000 → WT (fun k => marginaliaref09_Weight.l1 k l m deep (n : Int) (i : Int) (j : Int)) m ((∀ a ∈ l[i].f3.drop j, a.f1.size ≤ 1000) ∧ P) := by
  intro d
  have h4f : ∀ (n : Nat) (j : Int) (Q : Prop), n0 ≤ n → n ≤ 5000 → (n < m → Q) → WT (fun k => marginaliaref09_Weight.j4 k l m deep (n : Int) (i : Int) j false) m (Q ∧ P) := by
    intro n j Q hn h5 hQ
    by_cases hge : (n : Int) ≥ (m : Int)
    · exact WT.top fun k => by simp only [marginaliaref09_Weight.j4]; rw [if_neg (by decide), if_pos hge]
    · refine WT.step (f := fun k => (marginaliaref09_Weight.f k l[i].f5 ((m : Int) - (n : Int)) (wrap64 (deep - 1))).bind fun t => marginaliaref09_Weight.l0 k l m deep (wrap64 ((n : Int) + t)) (wrap64 ((i : Int) + 1))) (fun k => ?_) (WT.imp (fun h => ⟨hQ (by omega), h⟩) (K n hn (by omega)))
      simp only [marginaliaref09_Weight.j4]
      rw [if_neg (by decide), if_neg hge, if_pos (show (0 : Int) ≤ (i : Int) by omega), if_pos (show (i : Int) < (l.length : Int) by omega), rdN_at l i hi, wr (show (-9223372036854775808 : Int) ≤ (m : Int) - (n : Int) by omega) (by omega)]
  induction d with
  | zero =>
    intro j n hj hn h5
    refine WT.step (f := fun k => marginaliaref09_Weight.j4 k l m deep (n : Int) (i : Int) (j : Int) false) (fun k => ?_) (h4f n _ _ hn h5 (fun _ => ?_))
    · simp only [marginaliaref09_Weight.l1]
      rw [if_pos (show (0 : Int) ≤ (i : Int) by omega), if_pos (show (i : Int) < (l.length : Int) by omega), rdN_at l i hi, if_neg (show ¬ ((j : Int) < (l[i].f3.length : Int)) by omega)]
    · rw [List.drop_of_length_le (by omega)]; simp
  | succ d ih =>
    intro j n hj hn h5
    have hlt : j < l[i].f3.length := by omega
    refine WT.step (f := fun k => marginaliaref09_Weight.j4 k l m deep (n : Int) (i : Int) (j : Int) (decide ((n : Int) < (m : Int)))) (fun k => ?_) ?_
    · simp only [marginaliaref09_Weight.l1]
      rw [if_pos (show (0 : Int) ≤ (i : Int) by omega), if_pos (show (i : Int) < (l.length : Int) by omega), rdN_at l i hi, if_pos (show (j : Int) < (l[i].f3.length : Int) by omega)]
    · by_cases hlm : (n : Int) < (m : Int)
      · rw [decide_eq_true hlm]
        have hrd : rd_T35 l[i].f3 (j : Int) = l[i].f3[j] := rdA_at _ j hlt
        by_cases ha : (l[i].f3[j].f0.size : Int) ≥ (m : Int)
        · exact WT.top fun k => by
            simp only [marginaliaref09_Weight.j4]
            rw [if_pos trivial, if_pos (show (0 : Int) ≤ (i : Int) by omega), if_pos (show (i : Int) < (l.length : Int) by omega), if_pos (show (0 : Int) ≤ (j : Int) by omega), rdN_at l i hi, if_pos (show (j : Int) < (l[i].f3.length : Int) by omega), hrd, if_pos ha]
        · by_cases hb : (l[i].f3[j].f1.size : Int) ≥ (m : Int)
          · exact WT.top fun k => by
              simp only [marginaliaref09_Weight.j4]
              rw [if_pos trivial, if_pos (show (0 : Int) ≤ (i : Int) by omega), if_pos (show (i : Int) < (l.length : Int) by omega), if_pos (show (0 : Int) ≤ (j : Int) by omega), rdN_at l i hi, if_pos (show (j : Int) < (l[i].f3.length : Int) by omega), hrd, if_neg ha, if_pos hb]
          · refine WT.imp ?_ (WT.step (f := fun k => marginaliaref09_Weight.l1 k l m deep ((n + 1 + l[i].f3[j].f0.size + l[i].f3[j].f1.size : Nat) : Int) (i : Int) ((j + 1 : Nat) : Int)) (fun k => ?_) (ih (j + 1) (n + 1 + l[i].f3[j].f0.size + l[i].f3[j].f1.size) (by omega) (by omega) (by omega)))
            · rintro ⟨h1, h2⟩
              refine ⟨?_, h2⟩
              rw [List.drop_eq_getElem_cons hlt]
              intro a haa
              rcases List.mem_cons.mp haa with rfl | haa
              · omega
              · exact h1 a haa
            · simp only [marginaliaref09_Weight.j4]
              rw [if_pos trivial, if_pos (show (0 : Int) ≤ (i : Int) by omega), if_pos (show (i : Int) < (l.length : Int) by omega), if_pos (show (0 : Int) ≤ (j : Int) by omega), rdN_at l i hi, if_pos (show (j : Int) < (l[i].f3.length : Int) by omega), hrd, if_neg ha, if_neg hb,
                wr (n := (n : Int) + 1) (by omega) (by omega), wr (n := (n : Int) + 1 + (l[i].f3[j].f0.size : Int)) (by omega) (by omega), wr (n := (n : Int) + 1 + (l[i].f3[j].f0.size : Int) + (l[i].f3[j].f1.size : Int)) (by omega) (by omega), wr (n := (j : Int) + 1) (by omega) (by omega)]
              congr 1
      · rw [decide_eq_false hlm]
        obtain ⟨r, e, h1, h2⟩ := h4f n (j : Int) False hn h5 (fun h => absurd h (by omega))
        exact ⟨r, e, h1, fun hh => (h2 hh).1.elim⟩
end
theorem weight_wt : ∀ (e m : Nat) (l : List S49), m ≤ 1000 → e ≤ 1000 → WT (fun k => marginaliaref09_Weight.f k l (m : Int) (e : Int)) m (NB e l)
  | 0, m, l, hm, he => WT.top fun k => by
      simp only [marginaliaref09_Weight.f]
      rw [if_pos (by omega)]
  | e + 1, m, l, hm, he => by
    have IH := weight_wt e
    have hd : wrap64 (((e + 1 : Nat) : Int) - 1) = (e : Int) := by rw [wr (by omega) (by omega)]; omega
    have L0 : ∀ (d i n : Nat), i + d = l.length → i ≤ n → n ≤ m → WT (fun k => marginaliaref09_Weight.l0 k l m ((e + 1 : Nat) : Int) (n : Int) (i : Int)) m (l.length ≤ 1000 ∧ ∀ x ∈ l.drop i, x.f3.length ≤ 1000 ∧ (∀ a ∈ x.f3, a.f1.size ≤ 1000) ∧ NB e x.f5) := by
      intro d
      induction d with
      | zero =>
        intro i n hi hin hn
        refine WT.step (f := fun k => marginaliaref09_Weight.j1 k l m ((e + 1 : Nat) : Int) (n : Int) (i : Int) false) (fun k => ?_) ⟨n, Ev.step (f := fun _ => some (n : Int)) (fun k => ?_) (Ev.now _), hn, fun hlt => ⟨by omega, ?_⟩⟩
        · simp only [marginaliaref09_Weight.l0]
          rw [if_neg (show ¬ ((i : Int) < (l.length : Int)) by omega)]
        · simp only [marginaliaref09_Weight.j1]
          rw [if_neg (by decide)]
        · rw [List.drop_of_length_le (by omega)]; simp
      | succ d ih =>
        intro i n hi hin hn
        have hlt : i < l.length := by omega
        refine WT.step (f := fun k => marginaliaref09_Weight.j1 k l m ((e + 1 : Nat) : Int) (n : Int) (i : Int) (decide ((n : Int) < (m : Int)))) (fun k => ?_) ?_
        · simp only [marginaliaref09_Weight.l0]
          rw [if_pos (show (i : Int) < (l.length : Int) by omega)]
        by_cases hnm : (n : Int) < (m : Int)
        · rw [decide_eq_true hnm]
          have hj2t : WT (fun k => marginaliaref09_Weight.j2 k l m ((e + 1 : Nat) : Int) (wrap64 ((n : Int) + 1)) (i : Int) true) m (l.length ≤ 1000 ∧ ∀ x ∈ l.drop i, x.f3.length ≤ 1000 ∧ (∀ a ∈ x.f3, a.f1.size ≤ 1000) ∧ NB e x.f5) :=
            WT.top fun k => by simp only [marginaliaref09_Weight.j2]; rfl
          by_cases h1 : (l[i].f2.size : Int) ≥ (m : Int)
          · refine WT.step (fun k => ?_) hj2t
            simp only [marginaliaref09_Weight.j1]
            rw [if_pos trivial, if_pos (show (0 : Int) ≤ (i : Int) by omega), if_pos (show (i : Int) < (l.length : Int) by omega), rdN_at l i hlt, if_pos h1]
          by_cases h2 : (l[i].f4.size : Int) ≥ (m : Int)
          · refine WT.step (fun k => ?_) hj2t
            simp only [marginaliaref09_Weight.j1]
            rw [if_pos trivial, if_pos (show (0 : Int) ≤ (i : Int) by omega), if_pos (show (i : Int) < (l.length : Int) by omega), rdN_at l i hlt, if_neg h1, if_pos h2]
          by_cases h3 : (l[i].f3.length : Int) ≥ (m : Int)
          · refine WT.step (fun k => ?_) hj2t
            simp only [marginaliaref09_Weight.j1]
            rw [if_pos trivial, if_pos (show (0 : Int) ≤ (i : Int) by omega), if_pos (show (i : Int) < (l.length : Int) by omega), rdN_at l i hlt, if_neg h1, if_neg h2, decide_eq_true h3]
          refine WT.step (f := fun k => marginaliaref09_Weight.j2 k l m ((e + 1 : Nat) : Int) (wrap64 ((n : Int) + 1)) (i : Int) false) (fun k => ?_) ?_
          · simp only [marginaliaref09_Weight.j1]
            rw [if_pos trivial, if_pos (show (0 : Int) ≤ (i : Int) by omega), if_pos (show (i : Int) < (l.length : Int) by omega), rdN_at l i hlt, if_neg h1, if_neg h2, decide_eq_false h3]
          refine WT.step (f := fun k => marginaliaref09_Weight.l1 k l m ((e + 1 : Nat) : Int) ((n + 1 + l[i].f2.size + l[i].f4.size : Nat) : Int) (i : Int) ((0 : Nat) : Int)) (fun k => ?_) ?_
          · simp only [marginaliaref09_Weight.j2]
            rw [if_neg (by decide), if_pos (show (0 : Int) ≤ (i : Int) by omega), if_pos (show (i : Int) < (l.length : Int) by omega), rdN_at l i hlt, wr (n := (n : Int) + 1) (by omega) (by omega), wr (n := (n : Int) + 1 + (l[i].f2.size : Int)) (by omega) (by omega), wr (n := (n : Int) + 1 + (l[i].f2.size : Int) + (l[i].f4.size : Int)) (by omega) (by omega)]
            congr 1
          refine WT.imp ?_ (weight_l1 l m ((e + 1 : Nat) : Int) hm i hlt (by omega) (NB e l[i].f5 ∧ (l.length ≤ 1000 ∧ ∀ x ∈ l.drop (i + 1), x.f3.length ≤ 1000 ∧ (∀ a ∈ x.f3, a.f1.size ≤ 1000) ∧ NB e x.f5)) (n + 1 + l[i].f2.size + l[i].f4.size) (fun n' hn' hnm' => ?_) l[i].f3.length 0 _ (by omega) (Nat.le_refl _) (by omega))
          · rintro ⟨ha, hk, hl, hr⟩
            rw [List.drop_zero] at ha
            refine ⟨hl, ?_⟩
            rw [List.drop_eq_getElem_cons hlt]
            intro x hx
            rcases List.mem_cons.mp hx with rfl | hx
            · exact ⟨by omega, ha, hk⟩
            · exact hr x hx
          · obtain ⟨r, hr, hrm, hnb⟩ := IH (m - n') l[i].f5 (by omega) (by omega)
            obtain ⟨r2, hr2, hrm2, hnb2⟩ := ih (i + 1) (n' + r) (by omega) (by omega) (by omega)
            refine ⟨r2, ?_, hrm2, fun hh => ⟨?_, hnb2 hh⟩⟩
            · rw [hd, show (m : Int) - (n' : Int) = ((m - n' : Nat) : Int) by omega]
              refine Ev.bind (f := fun k t => marginaliaref09_Weight.l0 k l m ((e + 1 : Nat) : Int) (wrap64 ((n' : Int) + t)) (wrap64 ((i : Int) + 1))) hr ?_
              rw [wr (n := (n' : Int) + (r : Int)) (by omega) (by omega), wr (n := (i : Int) + 1) (by omega) (by omega)]
              exact hr2
            · refine hnb ?_
              -- a full weight of the kids is a full weight of all
              rcases Nat.lt_or_ge r (m - n') with h | h
              · exact h
              · exfalso
                have hfull : WT (fun k => marginaliaref09_Weight.l0 k l m ((e + 1 : Nat) : Int) ((n' + r : Nat) : Int) ((i + 1 : Nat) : Int)) m False := by
                  have e1 : n' + r = m := by omega
                  rw [e1]
                  have hj : WT (fun k => marginaliaref09_Weight.j1 k l m ((e + 1 : Nat) : Int) ((m : Nat) : Int) ((i + 1 : Nat) : Int) false) m False := WT.top fun k => by simp only [marginaliaref09_Weight.j1]; rw [if_neg (by decide)]
                  refine WT.step (fun k => ?_) hj
                  simp only [marginaliaref09_Weight.l0]
                  rw [decide_eq_false (show ¬ ((m : Int) < (m : Int)) by omega), ite_self]
                obtain ⟨r3, hr3, _, h3⟩ := hfull
                obtain ⟨K1, hK1⟩ := hr3
                obtain ⟨K2, hK2⟩ := hr2
                have a1 := hK1 (max K1 K2) (Nat.le_max_left _ _)
                have a2 := hK2 (max K1 K2) (Nat.le_max_right _ _)
                have : (r3 : Int) = (r2 : Int) := Option.some.inj (a1.symm.trans a2)
                exact h3 (by omega)
        · rw [decide_eq_false hnm]
          refine WT.top fun k => ?_
          simp only [marginaliaref09_Weight.j1]
          rw [if_neg (by decide)]
          congr 1
          omega
    refine WT.imp ?_ (WT.step (f := fun k => marginaliaref09_Weight.l0 k l m ((e + 1 : Nat) : Int) ((0 : Nat) : Int) ((0 : Nat) : Int)) (fun k => ?_) (L0 l.length 0 0 (by omega) (Nat.le_refl _) (by omega)))
    · rintro ⟨h1, h2⟩
      rw [List.drop_zero] at h2
      exact ⟨h1, h2⟩
    · simp only [marginaliaref09_Weight.f]
      rw [if_neg (by omega)]
      rfl
end Go.Proofs.YtnbghhddmlohoaaDoor.Pure

end

section
namespace Go.Proofs.YtnbghhddmlohoaaDoor.Pure
open Go.RowKit Go.Proofs.YtnbghhddmlohoaaDoor.PAll Go.Proofs.YtnbghhddmlohoaaDoorW.PrintWords Go.Proofs.YtnbghhddmlohoaaDoorW.PrintLast
set_option linter.unusedSimpArgs false
set_option linter.unusedVariables false
def textB (x : S49) : Bool := x.f0 == 2 && (x.f1 == 0 && (!(x.f4.toList == []) && (x.f2.toList == [] && (x.f3.length == 0 && x.f5.length == 0))))
theorem text_is (x : S49) : policy_text.f x.f0 x.f1 x.f2 x.f3 x.f4 x.f5 = some (textB x) := by
  unfold policy_text.f textB
  by_cases h0 : x.f0 = 2
  · by_cases h1 : x.f1 = 0
    · by_cases h4 : x.f4.toList = ([] : List UInt8)
      · simp [h0, h1, h4]
      · by_cases h2 : x.f2.toList = ([] : List UInt8)
        · by_cases h3 : x.f3.length = 0
          · have e3 : (x.f3.length : Int) = 0 := by omega
            have e5 : ((x.f5.length : Int) == 0) = (x.f5.length == 0) := by
              by_cases h5 : x.f5.length = 0
              · simp [h5]
              · rw [beq_eq_false_iff_ne.mpr h5, beq_eq_false_iff_ne.mpr (by omega)]
            rw [if_pos h0, if_pos h1, if_neg h4, if_pos h2, if_pos e3, e5, beq_iff_eq.mpr h0, beq_iff_eq.mpr h1, beq_eq_false_iff_ne.mpr h4, beq_iff_eq.mpr h2, beq_iff_eq.mpr h3]
            rfl
          · have e3 : ¬ (x.f3.length : Int) = 0 := by omega
            rw [if_pos h0, if_pos h1, if_neg h4, if_pos h2, if_neg e3, beq_iff_eq.mpr h0, beq_iff_eq.mpr h1, beq_eq_false_iff_ne.mpr h4, beq_iff_eq.mpr h2, beq_eq_false_iff_ne.mpr h3]
            rfl
        · rw [if_pos h0, if_pos h1, if_neg h4, if_neg h2, beq_iff_eq.mpr h0, beq_iff_eq.mpr h1, beq_eq_false_iff_ne.mpr h4, beq_eq_false_iff_ne.mpr h2]
          rfl
    · rw [if_pos h0, if_neg h1, beq_iff_eq.mpr h0, beq_eq_false_iff_ne.mpr h1]; rfl
  · rw [if_neg h0, beq_eq_false_iff_ne.mpr h0]; rfl
def nodesG (one : S49 → Bool) : Bool → List S49 → Bool
  | _, [] => true
  | p, x :: r => if x.f0 = 2 then (textB x && !p) && nodesG one true r else one x && nodesG one false r
def prevB (ls : List S49) (i : Nat) : Bool := match i with
  | 0 => false
  | j + 1 => match ls[j]? with
    | none => false
    | some x => x.f0 == 2
theorem prev_next (ls : List S49) (i : Nat) (h : i < ls.length) : prevB ls (i + 1) = (ls[i].f0 == 2) := by
  unfold prevB
  simp [h]
section
variable (l : List S53) (l1 l2 l3 : List ByteArray) (d0 : Int)
def headEl (x : S49) (deep : Int) : Bool := match fnd l x.f2 with
  | none => false
  | some r => x.f0 == 1 && (x.f1 == 0 && (x.f4.toList == [] && (!decide (deep > d0) && x.f3.all fun a => letS l1 l2 r a.f0 a.f1)))
def nodesS : Nat → List S49 → Int → Bool
  | 0, _, _ => true
  | e + 1, ls, deep => nodesG (fun x => headEl l l1 l2 d0 x deep && nodesS e x.f5 (deep + 1)) false ls
abbrev OE := List S53 → List ByteArray → List ByteArray → List ByteArray → Int → Int → Int → ByteArray → List S35 → ByteArray → List S49 → Int → Option Bool
abbrev ON := List S53 → List ByteArray → List ByteArray → List ByteArray → Int → List S49 → Int → Option Bool
theorem nodes0_l0 (oE : OE) (one : S49 → Bool) (ls : List S49) (deep : Int) (hl : ls.length ≤ 1000) (H : ∀ x ∈ ls, oE l l1 l2 l3 d0 x.f0 x.f1 x.f2 x.f3 x.f4 x.f5 deep = some (one x)) :
    ∀ (d i : Nat), i + d = ls.length → Ev (fun k => policy_nodes0.l0 oE k ls deep ls (ls.length : Int) (i : Int) l l1 l2 l3 d0) (nodesG one (prevB ls i) (ls.drop i)) := by
  intro d
  induction d with
  | zero =>
    intro i hi
    refine Ev.step (f := fun _ => some true) (fun k => ?_) ?_
    · simp only [policy_nodes0.l0]
      rw [if_neg (show ¬ ((i : Int) < (ls.length : Int)) by omega)]
    · rw [List.drop_of_length_le (by omega)]; exact Ev.now _
  | succ d ih =>
    intro i hi
    have hlt : i < ls.length := by omega
    have hnext := ih (i + 1) (by omega)
    rw [prev_next ls i hlt] at hnext
    rw [List.drop_eq_getElem_cons hlt]
    unfold nodesG
    have hrd := rdN_at ls i hlt
    have hj : ∀ b : Bool, Ev (fun k => policy_nodes0.j1 oE k ls deep ls (ls.length : Int) (i : Int) b l l1 l2 l3 d0) (!b && nodesG one (ls[i].f0 == 2) (ls.drop (i + 1))) := fun b => by
      cases b with
      | true => exact Ev.step (f := fun _ => some false) (fun k => by simp only [policy_nodes0.j1]; rfl) (Ev.now _)
      | false =>
        refine Ev.step (f := fun k => policy_nodes0.l0 oE k ls deep ls (ls.length : Int) ((i + 1 : Nat) : Int) l l1 l2 l3 d0) (fun k => ?_) hnext
        simp only [policy_nodes0.j1]
        rw [if_neg (by decide), wrap_next (by omega)]
    by_cases h2 : ls[i].f0 = 2
    · rw [if_pos h2]
      rw [h2] at hj
      cases ht : textB ls[i] with
      | false =>
        refine Ev.step (f := fun k => policy_nodes0.j1 oE k ls deep ls (ls.length : Int) (i : Int) true l l1 l2 l3 d0) (fun k => ?_) (hj true)
        simp only [policy_nodes0.l0]
        rw [if_pos (show (i : Int) < (ls.length : Int) by omega), if_pos (show (0 : Int) ≤ (i : Int) by omega), hrd, if_pos (show (i : Int) < (ls.length : Int) by omega), if_pos h2, text_is, ht]
        rfl
      | true =>
        rw [Bool.true_and]
        refine Ev.step (f := fun k => policy_nodes0.j1 oE k ls deep ls (ls.length : Int) (i : Int) (prevB ls i) l l1 l2 l3 d0) (fun k => ?_) (hj _)
        simp only [policy_nodes0.l0]
        rw [if_pos (show (i : Int) < (ls.length : Int) by omega), if_pos (show (0 : Int) ≤ (i : Int) by omega), hrd, if_pos (show (i : Int) < (ls.length : Int) by omega), if_pos h2, text_is, ht]
        simp only [Option.bind_some, ↓reduceIte]
        match i, hlt with
        | 0, _ => rw [if_neg (by decide)]; rfl
        | j + 1, hlt =>
          have e : wrap64 (((j + 1 : Nat) : Int) - 1) = (j : Int) := by rw [wr (by omega) (by omega)]; omega
          rw [if_pos (by omega), e, if_pos (show (0 : Int) ≤ (j : Int) by omega), if_pos (show (j : Int) < (ls.length : Int) by omega), rdN_at ls j (by omega), prev_next ls j (by omega)]
    · rw [if_neg h2]
      refine Ev.step (f := fun k => if one ls[i] = true then policy_nodes0.l0 oE k ls deep ls (ls.length : Int) ((i + 1 : Nat) : Int) l l1 l2 l3 d0 else some false) (fun k => ?_) ?_
      · simp only [policy_nodes0.l0]
        rw [if_pos (show (i : Int) < (ls.length : Int) by omega), if_pos (show (0 : Int) ≤ (i : Int) by omega), hrd, if_pos (show (i : Int) < (ls.length : Int) by omega), if_neg h2, H _ (List.getElem_mem hlt), wrap_next (by omega)]
        rfl
      · cases ho : one ls[i] with
        | false => exact Ev.congr (fun k => if_neg (by decide)) (Ev.now _)
        | true =>
          rw [Bool.true_and]
          refine Ev.congr (fun k => if_pos rfl) ?_
          rw [beq_eq_false_iff_ne.mpr h2] at hnext
          exact hnext
variable (hs : SmallP l l1 l2 l3)
include hs
theorem elem0_ev (oN : ON) (x : S49) (deep : Int) (b : Bool) (hd : -1000000 ≤ deep) (hd' : deep ≤ 1000000) (hx : x.f3.length ≤ 1000) (hv : ∀ a ∈ x.f3, a.f1.size ≤ 1000) (H : oN l l1 l2 l3 d0 x.f5 (deep + 1) = some b) :
    Ev (fun k => policy_element0.f oN k l l1 l2 l3 d0 x.f0 x.f1 x.f2 x.f3 x.f4 x.f5 deep) (headEl l l1 l2 d0 x deep && b) := by
  unfold policy_element0.f headEl
  have hjt : ∀ nn at_, Ev (fun k => policy_element0.j0 oN k deep true l l1 l2 l3 d0 x.f0 x.f1 x.f2 x.f3 x.f4 x.f5 nn at_) false := fun nn at_ =>
    Ev.step (f := fun _ => some false) (fun k => by simp only [policy_element0.j0]; rfl) (Ev.now _)
  refine Ev.bind (f := fun k bt269 => (if bt269.2.2 = true then (if x.f0 = 1 then (if x.f1 = 0 then (if x.f4.toList = ([] : List UInt8) then (policy_element0.j0 oN k deep (decide (deep > d0)) l l1 l2 l3 d0 x.f0 x.f1 x.f2 x.f3 x.f4 x.f5 bt269.1 bt269.2.1) else (policy_element0.j0 oN k deep true l l1 l2 l3 d0 x.f0 x.f1 x.f2 x.f3 x.f4 x.f5 bt269.1 bt269.2.1)) else (policy_element0.j0 oN k deep true l l1 l2 l3 d0 x.f0 x.f1 x.f2 x.f3 x.f4 x.f5 bt269.1 bt269.2.1)) else (policy_element0.j0 oN k deep true l l1 l2 l3 d0 x.f0 x.f1 x.f2 x.f3 x.f4 x.f5 bt269.1 bt269.2.1)) else (policy_element0.j0 oN k deep true l l1 l2 l3 d0 x.f0 x.f1 x.f2 x.f3 x.f4 x.f5 bt269.1 bt269.2.1))) (prule_ev l l1 l2 l3 d0 x.f2 hs.b0) ?_
  cases hf : fnd l x.f2 with
  | none => exact Ev.congr (fun k => if_neg (by decide)) (hjt _ _)
  | some r =>
    have hr := hs.ba r (fnd_mem hf)
    refine Ev.congr (fun k => if_pos rfl) ?_
    show Ev _ ((x.f0 == 1 && (x.f1 == 0 && (x.f4.toList == [] && (!decide (deep > d0) && x.f3.all fun a => letS l1 l2 r a.f0 a.f1)))) && b)
    by_cases h0 : x.f0 = 1
    · rw [beq_iff_eq.mpr h0, Bool.true_and]
      refine Ev.congr (fun k => if_pos h0) ?_
      by_cases h1 : x.f1 = 0
      · rw [beq_iff_eq.mpr h1, Bool.true_and]
        refine Ev.congr (fun k => if_pos h1) ?_
        by_cases h4 : x.f4.toList = ([] : List UInt8)
        · rw [beq_iff_eq.mpr h4, Bool.true_and]
          refine Ev.congr (fun k => if_pos h4) ?_
          by_cases hdp : deep > d0
          · rw [decide_eq_true hdp]; exact hjt _ _
          · rw [decide_eq_false hdp, Bool.not_false, Bool.true_and]
            have hl0 : ∀ (e i : Nat), i + e = x.f3.length → Ev (fun k => policy_element0.l0 oN k deep x.f3 (x.f3.length : Int) (i : Int) l l1 l2 l3 d0 x.f0 x.f1 x.f2 x.f3 x.f4 x.f5 r.f0 r.f1) (((x.f3.drop i).all fun a => letS l1 l2 r a.f0 a.f1) && b) := by
              intro e
              induction e with
              | zero =>
                intro i hi
                refine Ev.step (f := fun _ => some b) (fun k => ?_) ?_
                · simp only [policy_element0.l0]
                  rw [if_neg (show ¬ ((i : Int) < (x.f3.length : Int)) by omega), wr (n := deep + 1) (by omega) (by omega), H]
                  rfl
                · rw [List.drop_of_length_le (by omega)]; exact Ev.now _
              | succ e ih =>
                intro i hi
                have hlt : i < x.f3.length := by omega
                rw [List.drop_eq_getElem_cons hlt, List.all_cons]
                have hrd := rdA_at x.f3 i hlt
                refine Ev.step (f := fun k => (policy_let.f k l l1 l2 l3 d0 r.f0 r.f1 x.f3[i].f0 x.f3[i].f1).bind fun t277 => if t277 = true then policy_element0.l0 oN k deep x.f3 (x.f3.length : Int) ((i + 1 : Nat) : Int) l l1 l2 l3 d0 x.f0 x.f1 x.f2 x.f3 x.f4 x.f5 r.f0 r.f1 else some false) (fun k => ?_) ?_
                · simp only [policy_element0.l0]
                  rw [if_pos (show (i : Int) < (x.f3.length : Int) by omega), if_pos (show (0 : Int) ≤ (i : Int) by omega), hrd, wrap_next (by omega), if_pos (show (i : Int) < (x.f3.length : Int) by omega)]
                · refine Ev.way (let_ev l l1 l2 l3 d0 hs r.f0 r _ _ hr (by have := hv _ (List.getElem_mem hlt); omega)) (fun h => ?_) (fun h => ?_)
                  · rw [h, Bool.true_and]; exact ih (i + 1) (by omega)
                  · rw [h]; exact Ev.now _
            have h0' := hl0 x.f3.length 0 (by omega)
            rw [List.drop_zero] at h0'
            exact Ev.step (f := fun k => policy_element0.l0 oN k deep x.f3 (x.f3.length : Int) 0 l l1 l2 l3 d0 x.f0 x.f1 x.f2 x.f3 x.f4 x.f5 r.f0 r.f1) (fun k => by simp only [policy_element0.j0]; rfl) h0'
        · rw [beq_eq_false_iff_ne.mpr h4]
          exact Ev.congr (fun k => if_neg h4) (hjt _ _)
      · rw [beq_eq_false_iff_ne.mpr h1]
        exact Ev.congr (fun k => if_neg h1) (hjt _ _)
    · rw [beq_eq_false_iff_ne.mpr h0]
      exact Ev.congr (fun k => if_neg h0) (hjt _ _)
omit hs in
theorem leO_trans {α : Type} {a b c : Option α} (h : LeO a b) (k : LeO b c) : LeO a c := fun r hr => k r (h r hr)
omit hs in
theorem nodes0_mono_o (oE oE' : OE) (h : ∀ q0 q1 q2 q3 qd b0 b1 b2 b3 b4 b5 b6, LeO (oE q0 q1 q2 q3 qd b0 b1 b2 b3 b4 b5 b6) (oE' q0 q1 q2 q3 qd b0 b1 b2 b3 b4 b5 b6)) :
    ∀ k, (∀ y0 y1 y2 y3 y4 y5 y6 y7 y8 y9, LeO (policy_nodes0.l0 oE k y0 y1 y2 y3 y4 y5 y6 y7 y8 y9) (policy_nodes0.l0 oE' k y0 y1 y2 y3 y4 y5 y6 y7 y8 y9)) ∧ (∀ y0 y1 y2 y3 y4 y5 y6 y7 y8 y9 y10, LeO (policy_nodes0.j1 oE k y0 y1 y2 y3 y4 y5 y6 y7 y8 y9 y10) (policy_nodes0.j1 oE' k y0 y1 y2 y3 y4 y5 y6 y7 y8 y9 y10))
  | 0 => ⟨fun _ _ _ _ _ _ _ _ _ _ r h => by simp [policy_nodes0.l0] at h, fun _ _ _ _ _ _ _ _ _ _ _ r h => by simp [policy_nodes0.j1] at h⟩
  | k + 1 => by
    obtain ⟨ih0, ih1⟩ := nodes0_mono_o oE oE' h k
    refine ⟨?_, ?_⟩
    · intro y0 y1 y2 y3 y4 y5 y6 y7 y8 y9
      unfold policy_nodes0.l0
      repeat' first
      | (with_reducible exact ih0 _ _ _ _ _ _ _ _ _ _)
      | (with_reducible exact ih1 _ _ _ _ _ _ _ _ _ _ _)
      | (with_reducible exact h _ _ _ _ _ _ _ _ _ _ _ _)
      | (with_reducible exact LeO.refl _)
      | (with_reducible exact LeO.none _)
      | (with_reducible refine LeO.ite ?_ ?_)
      | (with_reducible refine LeO.bind ?_ (fun _ => ?_))
    · intro y0 y1 y2 y3 y4 y5 y6 y7 y8 y9 y10
      unfold policy_nodes0.j1
      repeat' first
      | (with_reducible exact ih0 _ _ _ _ _ _ _ _ _ _)
      | (with_reducible exact LeO.refl _)
      | (with_reducible exact LeO.none _)
      | (with_reducible refine LeO.ite ?_ ?_)
omit hs in
theorem elem0_mono_o (oN oN' : ON) (h : ∀ q0 q1 q2 q3 qd b0 b1, LeO (oN q0 q1 q2 q3 qd b0 b1) (oN' q0 q1 q2 q3 qd b0 b1)) :
    ∀ k, (∀ y0 y1 y2 y3 y4 y5 y6 y7 y8 y9 y10 y11 y12 y13 y14, LeO (policy_element0.j0 oN k y0 y1 y2 y3 y4 y5 y6 y7 y8 y9 y10 y11 y12 y13 y14) (policy_element0.j0 oN' k y0 y1 y2 y3 y4 y5 y6 y7 y8 y9 y10 y11 y12 y13 y14)) ∧ (∀ y0 y1 y2 y3 y4 y5 y6 y7 y8 y9 y10 y11 y12 y13 y14 y15 y16, LeO (policy_element0.l0 oN k y0 y1 y2 y3 y4 y5 y6 y7 y8 y9 y10 y11 y12 y13 y14 y15 y16) (policy_element0.l0 oN' k y0 y1 y2 y3 y4 y5 y6 y7 y8 y9 y10 y11 y12 y13 y14 y15 y16))
  | 0 => ⟨fun _ _ _ _ _ _ _ _ _ _ _ _ _ _ _ r h => by simp [policy_element0.j0] at h, fun _ _ _ _ _ _ _ _ _ _ _ _ _ _ _ _ _ r h => by simp [policy_element0.l0] at h⟩
  | k + 1 => by
    obtain ⟨ih0, ih1⟩ := elem0_mono_o oN oN' h k
    refine ⟨?_, ?_⟩
    · intro y0 y1 y2 y3 y4 y5 y6 y7 y8 y9 y10 y11 y12 y13 y14
      unfold policy_element0.j0
      repeat' first
      | (with_reducible exact ih1 _ _ _ _ _ _ _ _ _ _ _ _ _ _ _ _ _)
      | (with_reducible exact LeO.refl _)
      | (with_reducible refine LeO.ite ?_ ?_)
    · intro y0 y1 y2 y3 y4 y5 y6 y7 y8 y9 y10 y11 y12 y13 y14 y15 y16
      unfold policy_element0.l0
      repeat' first
      | (with_reducible exact ih1 _ _ _ _ _ _ _ _ _ _ _ _ _ _ _ _ _)
      | (with_reducible exact h _ _ _ _ _ _ _)
      | (with_reducible exact LeO.refl _)
      | (with_reducible exact LeO.none _)
      | (with_reducible refine LeO.ite ?_ ?_)
      | (with_reducible refine LeO.bind ?_ (fun _ => ?_))
def EK (K : Nat) : OE := fun q0 q1 q2 q3 qd b0 b1 b2 b3 b4 b5 b6 => policy_element0.f (policy_nodes.F K) K q0 q1 q2 q3 qd b0 b1 b2 b3 b4 b5 b6
omit hs in
theorem ek_of {K : Nat} (h : ∀ q0 q1 q2 q3 qd b0 b1, LeO (policy_nodes.F K q0 q1 q2 q3 qd b0 b1) (policy_nodes.F (K + 1) q0 q1 q2 q3 qd b0 b1)) : ∀ q0 q1 q2 q3 qd b0 b1 b2 b3 b4 b5 b6, LeO (EK K q0 q1 q2 q3 qd b0 b1 b2 b3 b4 b5 b6) (EK (K + 1) q0 q1 q2 q3 qd b0 b1 b2 b3 b4 b5 b6) := by
  intro q0 q1 q2 q3 qd b0 b1 b2 b3 b4 b5 b6
  refine leO_trans ?_ (policy_element0.mono (policy_nodes.F (K + 1)) q0 q1 q2 q3 qd b0 b1 b2 b3 b4 b5 b6 K)
  have hm := (elem0_mono_o (policy_nodes.F K) (policy_nodes.F (K + 1)) h K).1
  unfold EK policy_element0.f
  repeat' first
  | (with_reducible exact hm _ _ _ _ _ _ _ _ _ _ _ _ _ _ _)
  | (with_reducible exact LeO.refl _)
  | (with_reducible refine LeO.ite ?_ ?_)
  | (with_reducible refine LeO.bind ?_ (fun _ => ?_))
omit hs in
theorem F_le : ∀ K q0 q1 q2 q3 qd b0 b1, LeO (policy_nodes.F K q0 q1 q2 q3 qd b0 b1) (policy_nodes.F (K + 1) q0 q1 q2 q3 qd b0 b1)
  | 0, _, _, _, _, _, _, _ => fun r h => by simp [policy_nodes.F] at h
  | K + 1, q0, q1, q2, q3, qd, b0, b1 => by
    have hE := ek_of (K := K) (F_le K)
    show LeO (policy_nodes0.f (EK K) K q0 q1 q2 q3 qd b0 b1) (policy_nodes0.f (EK (K + 1)) (K + 1) q0 q1 q2 q3 qd b0 b1)
    refine leO_trans ?_ (policy_nodes0.mono (EK (K + 1)) q0 q1 q2 q3 qd b0 b1 K)
    unfold policy_nodes0.f
    exact (nodes0_mono_o (EK K) (EK (K + 1)) hE K).1 _ _ _ _ _ _ _ _ _ _
omit hs in
theorem EK_le (K : Nat) : ∀ q0 q1 q2 q3 qd b0 b1 b2 b3 b4 b5 b6, LeO (EK K q0 q1 q2 q3 qd b0 b1 b2 b3 b4 b5 b6) (EK (K + 1) q0 q1 q2 q3 qd b0 b1 b2 b3 b4 b5 b6) := ek_of (F_le K)
omit hs in
theorem all_at {α : Type} (g : Nat → α → Option Bool) (v : α → Bool) (hg : ∀ k x, LeO (g k x) (g (k + 1) x)) : ∀ ls : List α, (∀ x ∈ ls, ∃ k, g k x = some (v x)) → ∃ k, ∀ x ∈ ls, g k x = some (v x)
  | [], _ => ⟨0, fun x hx => absurd hx (by simp)⟩
  | y :: r, h => by
    obtain ⟨k1, h1⟩ := h y (List.mem_cons_self ..)
    obtain ⟨k2, h2⟩ := all_at g v hg r (fun x hx => h x (List.mem_cons_of_mem _ hx))
    refine ⟨max k1 k2, fun x hx => ?_⟩
    rcases List.mem_cons.mp hx with rfl | hx
    · exact at_rounds (fun k => hg k _) (Nat.le_max_left _ _) h1
    · exact at_rounds (fun k => hg k _) (Nat.le_max_right _ _) (h2 x hx)
theorem nodes_F : ∀ (e : Nat) (ls : List S49) (deep : Int), NB e ls → -1000 ≤ deep → deep + (e : Int) ≤ 100000 → ∃ K, policy_nodes.F K l l1 l2 l3 d0 ls deep = some (nodesS l l1 l2 d0 e ls deep)
  | 0, _, _, h, _, _ => h.elim
  | e + 1, ls, deep, hnb, h0, h1 => by
    obtain ⟨hlen, hx⟩ := hnb
    have hone : ∀ x ∈ ls, ∃ K, EK K l l1 l2 l3 d0 x.f0 x.f1 x.f2 x.f3 x.f4 x.f5 deep = some (headEl l l1 l2 d0 x deep && nodesS l l1 l2 d0 e x.f5 (deep + 1)) := fun x hxm => by
      obtain ⟨b1, b2, b3⟩ := hx x hxm
      obtain ⟨K1, hK1⟩ := nodes_F e x.f5 (deep + 1) b3 (by omega) (by omega)
      obtain ⟨K2, hK2⟩ := elem0_ev l l1 l2 l3 d0 hs (policy_nodes.F K1) x deep _ (by omega) (by omega) b1 b2 hK1
      refine ⟨max K1 K2, ?_⟩
      have h2 := hK2 (max K1 K2) (Nat.le_max_right _ _)
      have hF : ∀ q0 q1 q2 q3 qd b0 b1, LeO (policy_nodes.F K1 q0 q1 q2 q3 qd b0 b1) (policy_nodes.F (max K1 K2) q0 q1 q2 q3 qd b0 b1) := fun q0 q1 q2 q3 qd b0 b1 r hr => at_rounds (g := fun k => policy_nodes.F k q0 q1 q2 q3 qd b0 b1) (fun k => F_le k q0 q1 q2 q3 qd b0 b1) (Nat.le_max_left _ _) hr
      have hm := (elem0_mono_o _ _ hF (max K1 K2)).1
      have : LeO (policy_element0.f (policy_nodes.F K1) (max K1 K2) l l1 l2 l3 d0 x.f0 x.f1 x.f2 x.f3 x.f4 x.f5 deep) (EK (max K1 K2) l l1 l2 l3 d0 x.f0 x.f1 x.f2 x.f3 x.f4 x.f5 deep) := by
        unfold EK policy_element0.f
        repeat' first
        | (with_reducible exact hm _ _ _ _ _ _ _ _ _ _ _ _ _ _ _)
        | (with_reducible exact LeO.refl _)
        | (with_reducible refine LeO.ite ?_ ?_)
        | (with_reducible refine LeO.bind ?_ (fun _ => ?_))
      exact this _ h2
    obtain ⟨K1, hK1⟩ := all_at (fun K x => EK K l l1 l2 l3 d0 x.f0 x.f1 x.f2 x.f3 x.f4 x.f5 deep) (fun x => headEl l l1 l2 d0 x deep && nodesS l l1 l2 d0 e x.f5 (deep + 1)) (fun k x => EK_le k _ _ _ _ _ _ _ _ _ _ _ _) ls hone
    obtain ⟨K2, hK2⟩ := nodes0_l0 l l1 l2 l3 d0 (EK K1) (fun x => headEl l l1 l2 d0 x deep && nodesS l l1 l2 d0 e x.f5 (deep + 1)) ls deep hlen hK1 ls.length 0 (by omega)
    refine ⟨max K1 K2 + 1, ?_⟩
    have h2 := hK2 (max K1 K2) (Nat.le_max_right _ _)
    have hE : ∀ q0 q1 q2 q3 qd b0 b1 b2 b3 b4 b5 b6, LeO (EK K1 q0 q1 q2 q3 qd b0 b1 b2 b3 b4 b5 b6) (EK (max K1 K2) q0 q1 q2 q3 qd b0 b1 b2 b3 b4 b5 b6) := fun q0 q1 q2 q3 qd b0 b1 b2 b3 b4 b5 b6 r hr => at_rounds (g := fun k => EK k q0 q1 q2 q3 qd b0 b1 b2 b3 b4 b5 b6) (fun k => EK_le k q0 q1 q2 q3 qd b0 b1 b2 b3 b4 b5 b6) (Nat.le_max_left _ _) hr
    exact (nodes0_mono_o _ _ hE (max K1 K2)).1 _ _ _ _ _ _ _ _ _ _ _ h2
theorem nodes_is (e : Nat) (ls : List S49) (deep : Int) (hnb : NB e ls) (h0 : -1000 ≤ deep) (h1 : deep + (e : Int) ≤ 100000) : policy_nodes.f l l1 l2 l3 d0 ls deep = some (nodesS l l1 l2 d0 e ls deep) := by
  obtain ⟨K, hK⟩ := nodes_F l l1 l2 l3 d0 hs e ls deep hnb h0 h1
  have huniq : ∀ K' b, policy_nodes.F K' l l1 l2 l3 d0 ls deep = some b → b = nodesS l l1 l2 d0 e ls deep := fun K' b hb => by
    have a1 := at_rounds (g := fun k => policy_nodes.F k l l1 l2 l3 d0 ls deep) (fun k => F_le k _ _ _ _ _ _ _) (Nat.le_max_left K K') hK
    have a2 := at_rounds (g := fun k => policy_nodes.F k l l1 l2 l3 d0 ls deep) (fun k => F_le k _ _ _ _ _ _ _) (Nat.le_max_right K K') hb
    exact Option.some.inj (a2.symm.trans a1)
  unfold policy_nodes.f
  cases hb : nodesS l l1 l2 d0 e ls deep with
  | true =>
    rw [hb] at hK
    rw [if_pos ⟨K, hK⟩]
  | false =>
    rw [hb] at hK
    rw [if_neg (fun ⟨K', h'⟩ => by have := huniq K' true h'; rw [hb] at this; exact absurd this (by decide)), if_pos ⟨K, hK⟩]
end
end Go.Proofs.YtnbghhddmlohoaaDoor.Pure

end

section
namespace Go.Proofs.YtnbghhddmlohoaaDoor.Pure
open Go.RowKit Go.Proofs.YtnbghhddmlohoaaDoor.PAll Go.Proofs.YtnbghhddmlohoaaDoorW.PrintWords Go.Proofs.YtnbghhddmlohoaaDoorW.PrintLast
section
variable (l : List S53) (l1 l2 l3 : List ByteArray) (d0 : Int)
def allowS (e : Nat) (ls : List S49) : Bool := checkS l l1 l2 l3 d0 == 0 && nodesS l l1 l2 d0 e ls 1
variable (hs : SmallP l l1 l2 l3)
include hs
theorem allow_ev (e : Nat) (ls : List S49) (he : e ≤ 1000) (hnb : NB e ls) : Ev (fun k => policy_Allowed.f k l l1 l2 l3 d0 ls) (allowS l l1 l2 l3 d0 e ls) := by
  unfold policy_Allowed.f allowS
  refine Ev.bind (f := fun k t265 => (if t265 = 0 then ((policy_nodes.f l l1 l2 l3 d0 ls 1).bind fun t266 => (some t266)) else (some false))) (check_ev l l1 l2 l3 d0 hs) ?_
  by_cases hc : checkS l l1 l2 l3 d0 = 0
  · rw [beq_iff_eq.mpr hc, Bool.true_and]
    refine Ev.congr (fun k => if_pos hc) ?_
    rw [nodes_is l l1 l2 l3 d0 hs e ls 1 hnb (by omega) (by omega)]
    exact Ev.now _
  · rw [beq_eq_false_iff_ne.mpr hc]
    exact Ev.congr (fun k => if_neg hc) (Ev.now _)
theorem allow_nil : Ev (fun k => policy_Allowed.f k l l1 l2 l3 d0 []) (checkS l l1 l2 l3 d0 == 0) := by
  unfold policy_Allowed.f
  refine Ev.bind (f := fun k t265 => (if t265 = 0 then ((policy_nodes.f l l1 l2 l3 d0 [] 1).bind fun t266 => (some t266)) else (some false))) (check_ev l l1 l2 l3 d0 hs) ?_
  by_cases hc : checkS l l1 l2 l3 d0 = 0
  · rw [beq_iff_eq.mpr hc]
    refine Ev.congr (fun k => if_pos hc) ?_
    rw [nodes_nil]
    exact Ev.now _
  · rw [beq_eq_false_iff_ne.mpr hc]
    exact Ev.congr (fun k => if_neg hc) (Ev.now _)
end
theorem nodesG_take (one : S49 → Bool) : ∀ (ls : List S49) (p : Bool) (n : Nat), nodesG one p ls = true → nodesG one p (ls.take n) = true
  | [], _, _, h => by simpa using h
  | x :: r, p, 0, _ => rfl
  | x :: r, p, n + 1, h => by
    rw [List.take_succ_cons]
    unfold nodesG at h ⊢
    split at h <;> rename_i hx
    · rw [if_pos hx]
      simp only [Bool.and_eq_true] at h ⊢
      exact ⟨h.1, nodesG_take one r true n h.2⟩
    · rw [if_neg hx]
      simp only [Bool.and_eq_true] at h ⊢
      exact ⟨h.1, nodesG_take one r false n h.2⟩
theorem nodesG_at (one : S49 → Bool) : ∀ (ls : List S49) (p : Bool) (x : S49), x ∈ ls → nodesG one p ls = true → (x.f0 = 2 ∧ textB x = true) ∨ (x.f0 ≠ 2 ∧ one x = true)
  | [], _, x, hx, _ => absurd hx (by simp)
  | y :: r, p, x, hx, h => by
    unfold nodesG at h
    rcases List.mem_cons.mp hx with rfl | hx
    · split at h <;> rename_i hy
      · simp only [Bool.and_eq_true] at h
        exact .inl ⟨hy, h.1.1⟩
      · simp only [Bool.and_eq_true] at h
        exact .inr ⟨hy, h.1⟩
    · split at h
      · simp only [Bool.and_eq_true] at h
        exact nodesG_at one r _ x hx h.2
      · simp only [Bool.and_eq_true] at h
        exact nodesG_at one r _ x hx h.2
theorem nodesG_imp {one one' : S49 → Bool} (hh : ∀ x, one x = true → one' x = true) : ∀ (ls : List S49) (p : Bool), nodesG one p ls = true → nodesG one' p ls = true
  | [], _, _ => rfl
  | y :: r, p, h => by
    unfold nodesG at h ⊢
    split at h <;> rename_i hy
    · rw [if_pos hy]
      simp only [Bool.and_eq_true] at h ⊢
      exact ⟨h.1, nodesG_imp hh r _ h.2⟩
    · rw [if_neg hy]
      simp only [Bool.and_eq_true] at h ⊢
      exact ⟨hh y h.1, nodesG_imp hh r _ h.2⟩
theorem nodes_up (l : List S53) (l1 l2 : List ByteArray) (d0 : Int) : ∀ (e : Nat) (ls : List S49) (a b : Int), a ≤ b → nodesS l l1 l2 d0 e ls b = true → nodesS l l1 l2 d0 e ls a = true
  | 0, _, _, _, _, _ => rfl
  | e + 1, ls, a, b, hab, h => by
    unfold nodesS at h ⊢
    refine nodesG_imp (fun x hx => ?_) ls false h
    simp only [Bool.and_eq_true] at hx ⊢
    refine ⟨?_, nodes_up l l1 l2 d0 e x.f5 (a + 1) (b + 1) (by omega) hx.2⟩
    have hh := hx.1
    unfold headEl at hh ⊢
    cases hf : fnd l x.f2 with
    | none => rw [hf] at hh; exact absurd hh (by simp)
    | some r =>
      rw [hf] at hh
      simp only [Bool.and_eq_true, Bool.not_eq_true', decide_eq_false_iff_not] at hh ⊢
      obtain ⟨c1, c2, c3, c4, c5⟩ := hh
      exact ⟨c1, c2, c3, by omega, c5⟩
theorem nb_take (e : Nat) (ls : List S49) (n : Nat) (h : NB e ls) : NB e (ls.take n) := by
  cases e with
  | zero => exact h.elim
  | succ e =>
    obtain ⟨h1, h2⟩ := h
    exact ⟨by rw [List.length_take]; omega, fun x hx => h2 x (List.mem_of_mem_take hx)⟩
theorem allow_take (l : List S53) (l1 l2 l3 : List ByteArray) (d0 : Int) (e : Nat) (ls : List S49) (n : Nat) (h : allowS l l1 l2 l3 d0 e ls = true) : allowS l l1 l2 l3 d0 e (ls.take n) = true := by
  unfold allowS at h ⊢
  simp only [Bool.and_eq_true] at h ⊢
  refine ⟨h.1, ?_⟩
  cases e with
  | zero => rfl
  | succ e => exact nodesG_take _ ls false n h.2
theorem nodes_empty (l : List S53) (l1 l2 : List ByteArray) (d0 : Int) (e : Nat) (deep : Int) : nodesS l l1 l2 d0 e [] deep = true := by
  cases e <;> rfl
theorem allow_kids (l : List S53) (l1 l2 l3 : List ByteArray) (d0 : Int) (e : Nat) (ls : List S49) (x : S49) (hx : x ∈ ls) (h : allowS l l1 l2 l3 d0 (e + 1) ls = true) : allowS l l1 l2 l3 d0 e x.f5 = true := by
  unfold allowS at h ⊢
  simp only [Bool.and_eq_true] at h ⊢
  refine ⟨h.1, ?_⟩
  rcases nodesG_at _ ls false x hx h.2 with ⟨_, ht⟩ | ⟨_, ho⟩
  · unfold textB at ht
    simp only [Bool.and_eq_true, beq_iff_eq] at ht
    have : x.f5 = [] := List.length_eq_zero_iff.mp ht.2.2.2.2.2
    rw [this]
    exact nodes_empty l l1 l2 d0 e 1
  · simp only [Bool.and_eq_true] at ho
    exact nodes_up l l1 l2 d0 e x.f5 1 (1 + 1) (by omega) ho.2
end Go.Proofs.YtnbghhddmlohoaaDoor.Pure

end

section
namespace Go.Proofs.YtnbghhddmlohoaaDoor.Pure
open Go.RowKit Go.Proofs.YtnbghhddmlohoaaDoor.PAll Go.Proofs.YtnbghhddmlohoaaDoorW.PrintWords Go.Proofs.YtnbghhddmlohoaaDoorW.PrintLast
theorem PolicyPart : policyPartOp.Plain := by
  intro x0 ls n hg hls hn2
  apply Ev.rounds
  unfold marginalialaw11_PolicyPart.f
  have hp : Ev (fun k => marginalialaw11_PolicyPart.j0 k ls n true x0.f0 x0.f1 x0.f2 x0.f3 x0.f4) true :=
    Ev.step (f := fun k => (marginalialaw11_alive.f k).bind fun t => some t) (fun k => by simp only [marginalialaw11_PolicyPart.j0]; rfl) (Ev.bind (f := fun _ t => some t) alive_ev (Ev.now _))
  refine Ev.way (small_ev x0.f0 x0.f1 x0.f2 x0.f3 x0.f4) (fun h => ?_) (fun h => hp)
  have hs := small_is h
  obtain ⟨r, hr, hrm, hnb⟩ := weight_wt 60 1000 ls (by omega) (by omega)
  refine Ev.bind (f := fun k t534 => (if t534 ≥ 1000 then (marginalialaw11_PolicyPart.j0 k ls n true x0.f0 x0.f1 x0.f2 x0.f3 x0.f4) else (if n < 0 then (marginalialaw11_PolicyPart.j0 k ls n true x0.f0 x0.f1 x0.f2 x0.f3 x0.f4) else (marginalialaw11_PolicyPart.j0 k ls n (decide (n ≥ (ls.length : Int))) x0.f0 x0.f1 x0.f2 x0.f3 x0.f4)))) hr ?_
  by_cases hge : (r : Int) ≥ 1000
  · exact Ev.congr (fun k => if_pos hge) hp
  refine Ev.congr (fun k => if_neg hge) ?_
  by_cases h0 : n < 0
  · exact Ev.congr (fun k => if_pos h0) hp
  refine Ev.congr (fun k => if_neg h0) ?_
  by_cases h1 : n ≥ (ls.length : Int)
  · rw [decide_eq_true h1]; exact hp
  rw [decide_eq_false h1]
  have hn := hnb (by omega)
  obtain ⟨i, rfl⟩ : ∃ i : Nat, n = (i : Int) := ⟨n.toNat, by omega⟩
  have hi : i < ls.length := by omega
  obtain ⟨l, l1, l2, l3, d⟩ := x0
  simp only at hs ⊢
  refine Ev.step (f := fun k => ((policy_Allowed.f k l l1 l2 l3 d ([] : List S49)).bind fun t536 => ((policy_Check.f k l l1 l2 l3 d).bind fun t537 => (if (t536 != (t537 == 0)) = true then (some false) else ((policy_Allowed.f k l l1 l2 l3 d ls).bind fun t538 => ((marginalialaw11_alive.f k).bind fun t539 => (if t539 = true then (if t538 = true then ((policy_Allowed.f k l l1 l2 l3 d (ls.take i)).bind fun t544 => (if t544 = true then ((policy_Allowed.f k l l1 l2 l3 d ls[i].f5).bind fun t546 => (some t546)) else (some false))) else (some true)) else (some false)))))))) (fun k => ?_) ?_
  · simp only [marginalialaw11_PolicyPart.j0]
    rw [if_neg (by decide), if_pos (show (0 : Int) ≤ (i : Int) by omega), if_pos (show (i : Int) ≤ (ls.length : Int) by omega), if_pos (show (i : Int) < (ls.length : Int) by omega), rdN_at ls i hi]
    rfl
  refine Ev.bind (f := fun k t536 => ((policy_Check.f k l l1 l2 l3 d).bind fun t537 => (if (t536 != (t537 == 0)) = true then (some false) else ((policy_Allowed.f k l l1 l2 l3 d ls).bind fun t538 => ((marginalialaw11_alive.f k).bind fun t539 => (if t539 = true then (if t538 = true then ((policy_Allowed.f k l l1 l2 l3 d (ls.take i)).bind fun t544 => (if t544 = true then ((policy_Allowed.f k l l1 l2 l3 d ls[i].f5).bind fun t546 => (some t546)) else (some false))) else (some true)) else (some false))))))) (allow_nil l l1 l2 l3 d hs) ?_
  refine Ev.bind (f := fun k t537 => (if ((checkS l l1 l2 l3 d == 0) != (t537 == 0)) = true then (some false) else ((policy_Allowed.f k l l1 l2 l3 d ls).bind fun t538 => ((marginalialaw11_alive.f k).bind fun t539 => (if t539 = true then (if t538 = true then ((policy_Allowed.f k l l1 l2 l3 d (ls.take i)).bind fun t544 => (if t544 = true then ((policy_Allowed.f k l l1 l2 l3 d ls[i].f5).bind fun t546 => (some t546)) else (some false))) else (some true)) else (some false)))))) (check_ev l l1 l2 l3 d hs) ?_
  refine Ev.congr (fun k => if_neg (by simp)) ?_
  refine Ev.bind (f := fun k t538 => ((marginalialaw11_alive.f k).bind fun t539 => (if t539 = true then (if t538 = true then ((policy_Allowed.f k l l1 l2 l3 d (ls.take i)).bind fun t544 => (if t544 = true then ((policy_Allowed.f k l l1 l2 l3 d ls[i].f5).bind fun t546 => (some t546)) else (some false))) else (some true)) else (some false)))) (allow_ev l l1 l2 l3 d hs 60 ls (by omega) hn) ?_
  refine Ev.way alive_ev (fun _ => ?_) (fun h => absurd h (by decide))
  cases ha : allowS l l1 l2 l3 d 60 ls with
  | false => exact Ev.congr (fun k => if_neg (by decide)) (Ev.now _)
  | true =>
    refine Ev.congr (fun k => if_pos rfl) ?_
    refine Ev.way (b := true) ?_ (fun _ => ?_) (fun h => absurd h (by decide))
    · have h := allow_ev l l1 l2 l3 d hs 60 (ls.take i) (by omega) (nb_take 60 ls i hn)
      rw [allow_take l l1 l2 l3 d 60 ls i ha] at h
      exact h
    · have hk : NB 59 ls[i].f5 := (hn.2 _ (List.getElem_mem hi)).2.2
      have h := allow_ev l l1 l2 l3 d hs 59 ls[i].f5 (by omega) hk
      rw [allow_kids l l1 l2 l3 d 59 ls ls[i] (List.getElem_mem hi) ha] at h
      exact Ev.pass h
end Go.Proofs.YtnbghhddmlohoaaDoor.Pure

end
