-- Laid together by a program of this session (merge.py) out of its own texts and of the print's, for one law. Lean checks it.
import Derived.Test.YtnbghhddmlohoaaDoorMPr3
set_option maxHeartbeats 16000000
set_option maxRecDepth 100000
section
namespace Go.Proofs.YtnbghhddmlohoaaDoor.PAll
open Go.RowKit Go.Proofs.YtnbghhddmlohoaaDoorW.PrintWords Go.Proofs.YtnbghhddmlohoaaDoorW.PrintLast Go.Proofs.YtnbghhddmlohoaaDoorW.PrintMore
attribute [local go_sem] max2_int min2_int max_two min_two max_three min_three max_four min_four   -- for this text's walks alone
set_option linter.unusedVariables false
set_option linter.unusedSimpArgs false

def r11_Texts.l0 : Nat → List ByteArray → List ByteArray → Int → Option (Bool)
  | 0, _, _, _ => none
  | k + 1, x0, x1, x5 => if x5 < (x0.length : Int) then (if 0 ≤ x5 then (if x5 < (x1.length : Int) then (if (rdOf ByteArray.empty x0 x5).toList = (rdOf ByteArray.empty x1 x5).toList then (r11_Texts.l0 k x0 x1 (wrap64 (x5 + 1))) else (some false)) else (none)) else (none)) else (some true)
def r11_Texts.f (k : Nat) (l0 : List ByteArray) (l1 : List ByteArray) : Option (Bool) := if (l0.length : Int) = (l1.length : Int) then (r11_Texts.l0 k l0 l1 0) else (some false)
theorem r11_Texts.calls (k : Nat) (A0 : Option Addr) (c0 : Nat) (l0 : List ByteArray) (A1 : Option Addr) (c1 : Nat) (l1 : List ByteArray) (r : Bool) (w : World) (hr0 : Kd.C Kd.string w A0 l0.length l0) (hc0 : l0.length ≤ c0) (hr1 : Kd.C Kd.string w A1 l1.length l1) (hc1 : l1.length ≤ c1) (h : r11_Texts.f k l0 l1 = some r) :
  Calls Tryd.prog 39 #[.slice A0 l0.length c0, .slice A1 l1.length c1] w fun e w' => e = .returned (.bool r) ∧ Drawn0 w w' := by
 obtain ⟨HR0, HC0, HR1, HC1⟩ := as4 hr0 hc0 hr1 hc1;clear hr0 hc0 hr1 hc1;have H := h;clear h;unfold r11_Texts.f at H
 by_cases c3 : (l0.length : Int) = (l1.length : Int)
 ·rw [if_pos c3] at H;obtain ⟨c3b0, c3b1⟩ := eqb c3;have c3b2 : (l0.length == l1.length) = true := by first | simpa using c3 | (simp at c3 ⊢; omega)
  clear c3;have H' := Am H;clear H;go_enter Tryd.func39, Tryd.ntmps39;go_wp2
  repeat (go_quiet (fail); try go_wp2)
  go_loopg [5] k (fun kq v5 w' => ∃ (x5_1 : Int), v5 = .int .i64 x5_1 ∧ Aside0 (r11_Texts.l0 kq l0 l1 x5_1 = some r) ∧ Aside0 (kq ≤ k) ∧ Drawn0 w w')
  case atStart => exact ⟨(0), Rs, H', ⟨Nat.le_refl _⟩, by repeat (first | exact Drawn0.refl _ | apply Drawn0.step)⟩
  case round =>
   clear H';(try clear c1);(try clear p2);(try clear c3);(try clear c3b0);(try clear c3b1);(try clear c3b2);obtain ⟨x5_1, rfl, HA, HK1, ⟨m1, rfl⟩⟩ := hrel
   cases gk with
   | zero => exact absurd HA.out (by simp [r11_Texts.l0])
   | succ k1 =>
    have H := HA.out;clear HA;simp only [r11_Texts.l0] at H
    by_cases c4 : x5_1 < (l0.length : Int)
    ·rw [if_pos c4] at H;have c4b0 := decide_eq_true c4;clear c4
     by_cases c5 : 0 ≤ x5_1
     ·rw [if_pos c5] at H;have c5b0 := decide_eq_true c5;clear c5
      by_cases c6 : x5_1 < (l1.length : Int)
      ·rw [if_pos c6] at H;have c6b0 := decide_eq_true c6;clear c6
       by_cases c7 : (rdOf ByteArray.empty l0 x5_1).toList = (rdOf ByteArray.empty l1 x5_1).toList
       ·rw [if_pos c7] at H;obtain ⟨c7b0, c7b1⟩ := eqb c7;clear c7;have H' := Am H;clear H;have p264 : 0 ≤ (x5_1 : Int) := Od;have q264 : x5_1 < (l0.length : Int) := Od;obtain ⟨ad264, e264, hx264_0⟩ := Kd.at_string HR0.out x5_1 p264 q264;cases e264;replace p264 := eq_true p264;replace q264 := eq_true q264;have p265 : 0 ≤ (x5_1 : Int) := Od;have q265 : x5_1 < (l1.length : Int) := Od;obtain ⟨ad265, e265, hx265_0⟩ := Kd.at_string HR1.out x5_1 p265 q265;cases e265;replace p265 := eq_true p265;replace q265 := eq_true q265;go_wp2
        repeat (go_quiet (fail); try go_wp2)
        go_roundg k1
        case measure => have := HK1.out; omega
        case rel => exact ⟨(wrap64 (x5_1 + 1)), Rs, H', ⟨by have := HK1.out; omega⟩, by repeat (first | exact Drawn0.refl _ | apply Drawn0.step)⟩
       rw [if_neg c7] at H;obtain ⟨c7b0, c7b1⟩ := neb c7;obtain rfl := si H;have p264 : 0 ≤ (x5_1 : Int) := Od;have q264 : x5_1 < (l0.length : Int) := Od;obtain ⟨ad264, e264, hx264_0⟩ := Kd.at_string HR0.out x5_1 p264 q264;cases e264;replace p264 := eq_true p264;replace q264 := eq_true q264;have p265 : 0 ≤ (x5_1 : Int) := Od;have q265 : x5_1 < (l1.length : Int) := Od;obtain ⟨ad265, e265, hx265_0⟩ := Kd.at_string HR1.out x5_1 p265 q265;cases e265;replace p265 := eq_true p265;replace q265 := eq_true q265;go_wp2
       repeat (go_quiet (fail); try go_wp2)
       go_ret;exact ⟨Rs, Dw⟩
      rw [if_neg c6] at H;exact absurd H (by simp)
     rw [if_neg c5] at H;exact absurd H (by simp)
    rw [if_neg c4] at H;have c4b0 := decide_eq_false c4;clear c4;obtain rfl := si H;go_wp2
    repeat (go_quiet (fail); try go_wp2)
    go_ret;exact ⟨Rs, Dw⟩
 rw [if_neg c3] at H;obtain ⟨c3b0, c3b1⟩ := neb c3;have c3b2 : (l0.length == l1.length) = false := by first | simpa using c3 | (simp at c3 ⊢; omega)
 obtain rfl := si H;go_enter Tryd.func39, Tryd.ntmps39;go_wp2
 repeat (go_quiet (fail); try go_wp2)
 go_ret;exact ⟨Rs, Dw⟩

mutual
def r11_Same.j0 : Nat → Bool → List (S53) → List ByteArray → List ByteArray → List ByteArray → Int → List (S53) → List ByteArray → List ByteArray → List ByteArray → Int → Option (Bool)
  | 0, _, _, _, _, _, _, _, _, _, _, _ => none
  | k + 1, x43, x267000, x267001, x267002, x267003, x267004, x268000, x268001, x268002, x268003, x268004 => if x43 = true then (some false) else (r11_Same.l0 k 0 x267000 x267001 x267002 x267003 x267004 x268000 x268001 x268002 x268003 x268004)
def r11_Same.l0 : Nat → Int → List (S53) → List ByteArray → List ByteArray → List ByteArray → Int → List (S53) → List ByteArray → List ByteArray → List ByteArray → Int → Option (Bool)
  | 0, _, _, _, _, _, _, _, _, _, _, _ => none
  | k + 1, x5, x267000, x267001, x267002, x267003, x267004, x268000, x268001, x268002, x268003, x268004 => if x5 < (x267000.length : Int) then (if 0 ≤ x5 then (if x5 < (x268000.length : Int) then (if ((rd_T53 x267000 x5).f0).toList = ((rd_T53 x268000 x5).f0).toList then ((r11_Texts.f k ((rd_T53 x267000 x5).f1) ((rd_T53 x268000 x5).f1)).bind fun t275 => (if t275 = true then (r11_Same.l0 k (wrap64 (x5 + 1)) x267000 x267001 x267002 x267003 x267004 x268000 x268001 x268002 x268003 x268004) else (some false))) else (some false)) else (none)) else (none)) else (some true)
end
def r11_Same.f (k : Nat) (l0_0 : List (S53)) (l0_1 : List ByteArray) (l0_2 : List ByteArray) (l0_3 : List ByteArray) (a0_4 : Int) (l1_0 : List (S53)) (l1_1 : List ByteArray) (l1_2 : List ByteArray) (l1_3 : List ByteArray) (a1_4 : Int) : Option (Bool) := if (l0_0.length : Int) = (l1_0.length : Int) then (if a0_4 = a1_4 then ((r11_Texts.f k l0_1 l1_1).bind fun t268 => (if t268 = true then ((r11_Texts.f k l0_2 l1_2).bind fun t269 => (if t269 = true then ((r11_Texts.f k l0_3 l1_3).bind fun t270 => (r11_Same.j0 k (!t270) l0_0 l0_1 l0_2 l0_3 a0_4 l1_0 l1_1 l1_2 l1_3 a1_4)) else (r11_Same.j0 k true l0_0 l0_1 l0_2 l0_3 a0_4 l1_0 l1_1 l1_2 l1_3 a1_4))) else (r11_Same.j0 k true l0_0 l0_1 l0_2 l0_3 a0_4 l1_0 l1_1 l1_2 l1_3 a1_4))) else (r11_Same.j0 k true l0_0 l0_1 l0_2 l0_3 a0_4 l1_0 l1_1 l1_2 l1_3 a1_4)) else (r11_Same.j0 k true l0_0 l0_1 l0_2 l0_3 a0_4 l1_0 l1_1 l1_2 l1_3 a1_4)
theorem r11_Same.calls (k : Nat) (A0_0 : Option Addr) (c0_0 : Nat) (l0_0 : List (S53)) (A0_1 : Option Addr) (c0_1 : Nat) (l0_1 : List ByteArray) (A0_2 : Option Addr) (c0_2 : Nat) (l0_2 : List ByteArray) (A0_3 : Option Addr) (c0_3 : Nat) (l0_3 : List ByteArray) (a0_4 : Int) (A1_0 : Option Addr) (c1_0 : Nat) (l1_0 : List (S53)) (A1_1 : Option Addr) (c1_1 : Nat) (l1_1 : List ByteArray) (A1_2 : Option Addr) (c1_2 : Nat) (l1_2 : List ByteArray) (A1_3 : Option Addr) (c1_3 : Nat) (l1_3 : List ByteArray) (a1_4 : Int) (r : Bool) (w : World) (hr0_0 : Kd.C k53 w A0_0 l0_0.length l0_0) (hc0_0 : l0_0.length ≤ c0_0) (hr0_1 : Kd.C Kd.string w A0_1 l0_1.length l0_1) (hc0_1 : l0_1.length ≤ c0_1) (hr0_2 : Kd.C Kd.string w A0_2 l0_2.length l0_2) (hc0_2 : l0_2.length ≤ c0_2) (hr0_3 : Kd.C Kd.string w A0_3 l0_3.length l0_3) (hc0_3 : l0_3.length ≤ c0_3) (hr1_0 : Kd.C k53 w A1_0 l1_0.length l1_0) (hc1_0 : l1_0.length ≤ c1_0) (hr1_1 : Kd.C Kd.string w A1_1 l1_1.length l1_1) (hc1_1 : l1_1.length ≤ c1_1) (hr1_2 : Kd.C Kd.string w A1_2 l1_2.length l1_2) (hc1_2 : l1_2.length ≤ c1_2) (hr1_3 : Kd.C Kd.string w A1_3 l1_3.length l1_3) (hc1_3 : l1_3.length ≤ c1_3) (h : r11_Same.f k l0_0 l0_1 l0_2 l0_3 a0_4 l1_0 l1_1 l1_2 l1_3 a1_4 = some r) :
  Calls Tryd.prog 15 #[.agg #[.slice A0_0 l0_0.length c0_0, .slice A0_1 l0_1.length c0_1, .slice A0_2 l0_2.length c0_2, .slice A0_3 l0_3.length c0_3, .int .i64 a0_4], .agg #[.slice A1_0 l1_0.length c1_0, .slice A1_1 l1_1.length c1_1, .slice A1_2 l1_2.length c1_2, .slice A1_3 l1_3.length c1_3, .int .i64 a1_4]] w fun e w' => e = .returned (.bool r) ∧ Below w.heap.size w w' := by
 have hu25 := Tryd.underlying25;obtain ⟨HR0_0, HC0_0, HR0_1, HC0_1⟩ := as4 hr0_0 hc0_0 hr0_1 hc0_1;clear hr0_0 hc0_0 hr0_1 hc0_1;obtain ⟨HR0_2, HC0_2, HR0_3, HC0_3⟩ := as4 hr0_2 hc0_2 hr0_3 hc0_3;clear hr0_2 hc0_2 hr0_3 hc0_3;obtain ⟨HR1_0, HC1_0, HR1_1, HC1_1⟩ := as4 hr1_0 hc1_0 hr1_1 hc1_1;clear hr1_0 hc1_0 hr1_1 hc1_1;obtain ⟨HR1_2, HC1_2, HR1_3, HC1_3⟩ := as4 hr1_2 hc1_2 hr1_3 hc1_3;clear hr1_2 hc1_2 hr1_3 hc1_3;have HB := Am (Below.refl w.heap.size w);have H := h;clear h;unfold r11_Same.f at H;have HC3 := Am H;clear H;go_enter Tryd.func15, Tryd.ntmps15
 go_upto_region 1 with (first | ((with_reducible refine gate_dst (N := 2) rfl ?_); refine box5 25 2 (cs := #[.slice A0_0 l0_0.length c0_0, .slice A0_1 l0_1.length c0_1, .slice A0_2 l0_2.length c0_2, .slice A0_3 l0_3.length c0_3, .int .i64 a0_4]) ?_; clear HB; intro gb266 w4 HB BK266 GE266) | ((with_reducible refine gate_dst (N := 3) rfl ?_); refine boxE 25 3 (cs := #[.slice A1_0 l1_0.length c1_0, .slice A1_1 l1_1.length c1_1, .slice A1_2 l1_2.length c1_2, .slice A1_3 l1_3.length c1_3, .int .i64 a1_4]) ?_; intro gb267 hg w5 hbox hb; have n0_ := Bb BK266 hb; have n1_ := Bs hb; have n2_ := Am (hbox); have n3_ := Am (Gg hg); have n4_ := Am (Gg hg); have n5_ := Nl hg BK266; have n6_ := Ng hg BK266; clear BK266; clear HB; have BK266 := n0_; have HB := n1_; have BK267 := n2_; have GW267 := n3_; have GE267 := n4_; have NB266_267 := n5_; have NB267_266 := n6_; clear n0_ n1_ n2_ n3_ n4_ n5_ n6_; clear hb hbox hg))
 repeat (go_quiet (first | ((with_reducible refine gate_dst (N := 2) rfl ?_); refine box5 25 2 (cs := #[.slice A0_0 l0_0.length c0_0, .slice A0_1 l0_1.length c0_1, .slice A0_2 l0_2.length c0_2, .slice A0_3 l0_3.length c0_3, .int .i64 a0_4]) ?_; clear HB; intro gb266 w4 HB BK266 GE266) | ((with_reducible refine gate_dst (N := 3) rfl ?_); refine boxE 25 3 (cs := #[.slice A1_0 l1_0.length c1_0, .slice A1_1 l1_1.length c1_1, .slice A1_2 l1_2.length c1_2, .slice A1_3 l1_3.length c1_3, .int .i64 a1_4]) ?_; intro gb267 hg w5 hbox hb; have n0_ := Bb BK266 hb; have n1_ := Bs hb; have n2_ := Am (hbox); have n3_ := Am (Gg hg); have n4_ := Am (Gg hg); have n5_ := Nl hg BK266; have n6_ := Ng hg BK266; clear BK266; clear HB; have BK266 := n0_; have HB := n1_; have BK267 := n2_; have GW267 := n3_; have GE267 := n4_; have NB266_267 := n5_; have NB267_266 := n6_; clear n0_ n1_ n2_ n3_ n4_ n5_ n6_; clear hb hbox hg)); go_upto_region 1 with (first | ((with_reducible refine gate_dst (N := 2) rfl ?_); refine box5 25 2 (cs := #[.slice A0_0 l0_0.length c0_0, .slice A0_1 l0_1.length c0_1, .slice A0_2 l0_2.length c0_2, .slice A0_3 l0_3.length c0_3, .int .i64 a0_4]) ?_; clear HB; intro gb266 w4 HB BK266 GE266) | ((with_reducible refine gate_dst (N := 3) rfl ?_); refine boxE 25 3 (cs := #[.slice A1_0 l1_0.length c1_0, .slice A1_1 l1_1.length c1_1, .slice A1_2 l1_2.length c1_2, .slice A1_3 l1_3.length c1_3, .int .i64 a1_4]) ?_; intro gb267 hg w5 hbox hb; have n0_ := Bb BK266 hb; have n1_ := Bs hb; have n2_ := Am (hbox); have n3_ := Am (Gg hg); have n4_ := Am (Gg hg); have n5_ := Nl hg BK266; have n6_ := Ng hg BK266; clear BK266; clear HB; have BK266 := n0_; have HB := n1_; have BK267 := n2_; have GW267 := n3_; have GE267 := n4_; have NB266_267 := n5_; have NB267_266 := n6_; clear n0_ n1_ n2_ n3_ n4_ n5_ n6_; clear hb hbox hg)))
 (try simp only [Act.put, List.setIfInBounds_toArray, List.set_cons_zero, List.set_cons_succ])
 go_cut [43] (fun v43 wc => ∃ (kq : Nat) (x43_2 : Bool), v43 = .bool x43_2 ∧ Aside0 (r11_Same.j0 kq x43_2 l0_0 l0_1 l0_2 l0_3 a0_4 l1_0 l1_1 l1_2 l1_3 a1_4 = some r) ∧ Aside0 (kq ≤ k) ∧ Aside0 (wc.heap[gb266]? = some (.cells #[(.slice A0_0 l0_0.length c0_0), (.slice A0_1 l0_1.length c0_1), (.slice A0_2 l0_2.length c0_2), (.slice A0_3 l0_3.length c0_3), .int .i64 a0_4] 25 (0, 0))) ∧ Aside0 (wc.heap[gb267]? = some (.cells #[(.slice A1_0 l1_0.length c1_0), (.slice A1_1 l1_1.length c1_1), (.slice A1_2 l1_2.length c1_2), (.slice A1_3 l1_3.length c1_3), .int .i64 a1_4] 25 (0, 0))) ∧ Aside0 (Below w.heap.size w wc))
 case first =>
  have H := HC3.out;clear HC3
  by_cases c6 : (l0_0.length : Int) = (l1_0.length : Int)
  ·rw [if_pos c6] at H;obtain ⟨c6b0, c6b1⟩ := eqb c6;have c6b2 : (l0_0.length == l1_0.length) = true := by first | simpa using c6 | (simp at c6 ⊢; omega)
   clear c6;(first | rw [c6b0] | (simp only [i64_w, i32_w]; rw [c6b0]) | skip)
   by_cases c7 : a0_4 = a1_4
   ·rw [if_pos c7] at H;obtain ⟨c7b0, c7b1⟩ := eqb c7;clear c7;obtain ⟨t268, A8, H⟩ := bx H;(try dsimp -simprocs only at H)
    by_cases c9 : t268 = true
    ·subst c9;rw [if_pos rfl] at H;obtain ⟨t269, A10, H⟩ := bx H;(try dsimp -simprocs only at H)
     by_cases c11 : t269 = true
     ·subst c11;rw [if_pos rfl] at H;obtain ⟨t270, A12, H⟩ := bx H;(try dsimp -simprocs only at H);have H' := Am H;clear H;have hnb13 := NB266_267.out;have hnc13 := NB267_266.out;obtain ⟨Z14_0, Z14_1, Z14_2, Z14_3, Z14_4, Y14_0, Y14_1, Y14_2, Y14_3, Y14_4⟩ := cells5 BK266;obtain ⟨Z15_0, Z15_1, Z15_2, Z15_3, Z15_4, Y15_0, Y15_1, Y15_2, Y15_3, Y15_4⟩ := cells5 BK267;go_wp2_with (first | (go_at_call 39; (with_reducible refine (r11_Texts.calls k _ _ l0_1 _ _ l1_1 true _ (Cs HR0_1) HC0_1.out (Cs HR1_1) HC1_1.out A8.out).mono ?_); rintro e w' ⟨rfl, ⟨nd, rfl⟩⟩; (try first | exact ⟨rfl, _, World.drewN_drewN _ _ _⟩ | exact ⟨rfl, _, Eq.trans (World.drewN_drewN _ _ _) (congrArg (World.drewN _) (Nat.add_assoc _ _ _))⟩)) | (go_at_call 39; (with_reducible refine (r11_Texts.calls k _ _ l0_2 _ _ l1_2 true _ ?side1 HC0_2.out ?side3 HC1_2.out A10.out).mono ?_); (case side1 => exact Cd (Kd.C_below HR0_2.out Bw)); (case side3 => exact Cd (Kd.C_below HR1_2.out Bw)); rintro e w' ⟨rfl, ⟨nd, rfl⟩⟩; (try first | exact ⟨rfl, _, World.drewN_drewN _ _ _⟩ | exact ⟨rfl, _, Eq.trans (World.drewN_drewN _ _ _) (congrArg (World.drewN _) (Nat.add_assoc _ _ _))⟩)) | (go_at_call 39; (with_reducible refine (r11_Texts.calls k _ _ l0_3 _ _ l1_3 t270 _ ?side1 HC0_3.out ?side3 HC1_3.out A12.out).mono ?_); (case side1 => exact Cd (Kd.C_below HR0_3.out Bw)); (case side3 => exact Cd (Kd.C_below HR1_3.out Bw)); rintro e w' ⟨rfl, ⟨nd, rfl⟩⟩; (try first | exact ⟨rfl, _, World.drewN_drewN _ _ _⟩ | exact ⟨rfl, _, Eq.trans (World.drewN_drewN _ _ _) (congrArg (World.drewN _) (Nat.add_assoc _ _ _))⟩)))
      repeat (go_quiet (first | (go_at_call 39; (with_reducible refine (r11_Texts.calls k _ _ l0_1 _ _ l1_1 true _ (Cs HR0_1) HC0_1.out (Cs HR1_1) HC1_1.out A8.out).mono ?_); rintro e w' ⟨rfl, ⟨nd, rfl⟩⟩; (try first | exact ⟨rfl, _, World.drewN_drewN _ _ _⟩ | exact ⟨rfl, _, Eq.trans (World.drewN_drewN _ _ _) (congrArg (World.drewN _) (Nat.add_assoc _ _ _))⟩)) | (go_at_call 39; (with_reducible refine (r11_Texts.calls k _ _ l0_2 _ _ l1_2 true _ ?side1 HC0_2.out ?side3 HC1_2.out A10.out).mono ?_); (case side1 => exact Cd (Kd.C_below HR0_2.out Bw)); (case side3 => exact Cd (Kd.C_below HR1_2.out Bw)); rintro e w' ⟨rfl, ⟨nd, rfl⟩⟩; (try first | exact ⟨rfl, _, World.drewN_drewN _ _ _⟩ | exact ⟨rfl, _, Eq.trans (World.drewN_drewN _ _ _) (congrArg (World.drewN _) (Nat.add_assoc _ _ _))⟩)) | (go_at_call 39; (with_reducible refine (r11_Texts.calls k _ _ l0_3 _ _ l1_3 t270 _ ?side1 HC0_3.out ?side3 HC1_3.out A12.out).mono ?_); (case side1 => exact Cd (Kd.C_below HR0_3.out Bw)); (case side3 => exact Cd (Kd.C_below HR1_3.out Bw)); rintro e w' ⟨rfl, ⟨nd, rfl⟩⟩; (try first | exact ⟨rfl, _, World.drewN_drewN _ _ _⟩ | exact ⟨rfl, _, Eq.trans (World.drewN_drewN _ _ _) (congrArg (World.drewN _) (Nat.add_assoc _ _ _))⟩))); try go_wp2_with (first | (go_at_call 39; (with_reducible refine (r11_Texts.calls k _ _ l0_1 _ _ l1_1 true _ (Cs HR0_1) HC0_1.out (Cs HR1_1) HC1_1.out A8.out).mono ?_); rintro e w' ⟨rfl, ⟨nd, rfl⟩⟩; (try first | exact ⟨rfl, _, World.drewN_drewN _ _ _⟩ | exact ⟨rfl, _, Eq.trans (World.drewN_drewN _ _ _) (congrArg (World.drewN _) (Nat.add_assoc _ _ _))⟩)) | (go_at_call 39; (with_reducible refine (r11_Texts.calls k _ _ l0_2 _ _ l1_2 true _ ?side1 HC0_2.out ?side3 HC1_2.out A10.out).mono ?_); (case side1 => exact Cd (Kd.C_below HR0_2.out Bw)); (case side3 => exact Cd (Kd.C_below HR1_2.out Bw)); rintro e w' ⟨rfl, ⟨nd, rfl⟩⟩; (try first | exact ⟨rfl, _, World.drewN_drewN _ _ _⟩ | exact ⟨rfl, _, Eq.trans (World.drewN_drewN _ _ _) (congrArg (World.drewN _) (Nat.add_assoc _ _ _))⟩)) | (go_at_call 39; (with_reducible refine (r11_Texts.calls k _ _ l0_3 _ _ l1_3 t270 _ ?side1 HC0_3.out ?side3 HC1_3.out A12.out).mono ?_); (case side1 => exact Cd (Kd.C_below HR0_3.out Bw)); (case side3 => exact Cd (Kd.C_below HR1_3.out Bw)); rintro e w' ⟨rfl, ⟨nd, rfl⟩⟩; (try first | exact ⟨rfl, _, World.drewN_drewN _ _ _⟩ | exact ⟨rfl, _, Eq.trans (World.drewN_drewN _ _ _) (congrArg (World.drewN _) (Nat.add_assoc _ _ _))⟩))))
      go_meet
      case rel => exact ⟨_, (!t270), Rs, H', ⟨On⟩, ⟨(Bk BK266)⟩, ⟨(Bk BK267)⟩, ⟨Bw⟩⟩
     replace c11 := bf c11;subst c11;rw [if_neg (show ¬ (false = true) by decide)] at H;have H' := Am H;clear H;have hnb16 := NB266_267.out;have hnc16 := NB267_266.out;obtain ⟨Z17_0, Z17_1, Z17_2, Z17_3, Z17_4, Y17_0, Y17_1, Y17_2, Y17_3, Y17_4⟩ := cells5 BK266;obtain ⟨Z18_0, Z18_1, Z18_2, Z18_3, Z18_4, Y18_0, Y18_1, Y18_2, Y18_3, Y18_4⟩ := cells5 BK267;go_wp2_with (first | (go_at_call 39; (with_reducible refine (r11_Texts.calls k _ _ l0_1 _ _ l1_1 true _ (Cs HR0_1) HC0_1.out (Cs HR1_1) HC1_1.out A8.out).mono ?_); rintro e w' ⟨rfl, ⟨nd, rfl⟩⟩; (try first | exact ⟨rfl, _, World.drewN_drewN _ _ _⟩ | exact ⟨rfl, _, Eq.trans (World.drewN_drewN _ _ _) (congrArg (World.drewN _) (Nat.add_assoc _ _ _))⟩)) | (go_at_call 39; (with_reducible refine (r11_Texts.calls k _ _ l0_2 _ _ l1_2 false _ ?side1 HC0_2.out ?side3 HC1_2.out A10.out).mono ?_); (case side1 => exact Cd (Kd.C_below HR0_2.out Bw)); (case side3 => exact Cd (Kd.C_below HR1_2.out Bw)); rintro e w' ⟨rfl, ⟨nd, rfl⟩⟩; (try first | exact ⟨rfl, _, World.drewN_drewN _ _ _⟩ | exact ⟨rfl, _, Eq.trans (World.drewN_drewN _ _ _) (congrArg (World.drewN _) (Nat.add_assoc _ _ _))⟩)))
     repeat (go_quiet (first | (go_at_call 39; (with_reducible refine (r11_Texts.calls k _ _ l0_1 _ _ l1_1 true _ (Cs HR0_1) HC0_1.out (Cs HR1_1) HC1_1.out A8.out).mono ?_); rintro e w' ⟨rfl, ⟨nd, rfl⟩⟩; (try first | exact ⟨rfl, _, World.drewN_drewN _ _ _⟩ | exact ⟨rfl, _, Eq.trans (World.drewN_drewN _ _ _) (congrArg (World.drewN _) (Nat.add_assoc _ _ _))⟩)) | (go_at_call 39; (with_reducible refine (r11_Texts.calls k _ _ l0_2 _ _ l1_2 false _ ?side1 HC0_2.out ?side3 HC1_2.out A10.out).mono ?_); (case side1 => exact Cd (Kd.C_below HR0_2.out Bw)); (case side3 => exact Cd (Kd.C_below HR1_2.out Bw)); rintro e w' ⟨rfl, ⟨nd, rfl⟩⟩; (try first | exact ⟨rfl, _, World.drewN_drewN _ _ _⟩ | exact ⟨rfl, _, Eq.trans (World.drewN_drewN _ _ _) (congrArg (World.drewN _) (Nat.add_assoc _ _ _))⟩))); try go_wp2_with (first | (go_at_call 39; (with_reducible refine (r11_Texts.calls k _ _ l0_1 _ _ l1_1 true _ (Cs HR0_1) HC0_1.out (Cs HR1_1) HC1_1.out A8.out).mono ?_); rintro e w' ⟨rfl, ⟨nd, rfl⟩⟩; (try first | exact ⟨rfl, _, World.drewN_drewN _ _ _⟩ | exact ⟨rfl, _, Eq.trans (World.drewN_drewN _ _ _) (congrArg (World.drewN _) (Nat.add_assoc _ _ _))⟩)) | (go_at_call 39; (with_reducible refine (r11_Texts.calls k _ _ l0_2 _ _ l1_2 false _ ?side1 HC0_2.out ?side3 HC1_2.out A10.out).mono ?_); (case side1 => exact Cd (Kd.C_below HR0_2.out Bw)); (case side3 => exact Cd (Kd.C_below HR1_2.out Bw)); rintro e w' ⟨rfl, ⟨nd, rfl⟩⟩; (try first | exact ⟨rfl, _, World.drewN_drewN _ _ _⟩ | exact ⟨rfl, _, Eq.trans (World.drewN_drewN _ _ _) (congrArg (World.drewN _) (Nat.add_assoc _ _ _))⟩))))
     go_meet
     case rel => exact ⟨_, (true), Rs, H', ⟨On⟩, ⟨(Bk BK266)⟩, ⟨(Bk BK267)⟩, ⟨Bw⟩⟩
    replace c9 := bf c9;subst c9;rw [if_neg (show ¬ (false = true) by decide)] at H;have H' := Am H;clear H;have hnb19 := NB266_267.out;have hnc19 := NB267_266.out;obtain ⟨Z20_0, Z20_1, Z20_2, Z20_3, Z20_4, Y20_0, Y20_1, Y20_2, Y20_3, Y20_4⟩ := cells5 BK266;obtain ⟨Z21_0, Z21_1, Z21_2, Z21_3, Z21_4, Y21_0, Y21_1, Y21_2, Y21_3, Y21_4⟩ := cells5 BK267;go_wp2_with (first | (go_at_call 39; (with_reducible refine (r11_Texts.calls k _ _ l0_1 _ _ l1_1 false _ (Cs HR0_1) HC0_1.out (Cs HR1_1) HC1_1.out A8.out).mono ?_); rintro e w' ⟨rfl, ⟨nd, rfl⟩⟩; (try first | exact ⟨rfl, _, World.drewN_drewN _ _ _⟩ | exact ⟨rfl, _, Eq.trans (World.drewN_drewN _ _ _) (congrArg (World.drewN _) (Nat.add_assoc _ _ _))⟩)))
    repeat (go_quiet (first | (go_at_call 39; (with_reducible refine (r11_Texts.calls k _ _ l0_1 _ _ l1_1 false _ (Cs HR0_1) HC0_1.out (Cs HR1_1) HC1_1.out A8.out).mono ?_); rintro e w' ⟨rfl, ⟨nd, rfl⟩⟩; (try first | exact ⟨rfl, _, World.drewN_drewN _ _ _⟩ | exact ⟨rfl, _, Eq.trans (World.drewN_drewN _ _ _) (congrArg (World.drewN _) (Nat.add_assoc _ _ _))⟩))); try go_wp2_with (first | (go_at_call 39; (with_reducible refine (r11_Texts.calls k _ _ l0_1 _ _ l1_1 false _ (Cs HR0_1) HC0_1.out (Cs HR1_1) HC1_1.out A8.out).mono ?_); rintro e w' ⟨rfl, ⟨nd, rfl⟩⟩; (try first | exact ⟨rfl, _, World.drewN_drewN _ _ _⟩ | exact ⟨rfl, _, Eq.trans (World.drewN_drewN _ _ _) (congrArg (World.drewN _) (Nat.add_assoc _ _ _))⟩))))
    go_meet
    case rel => exact ⟨_, (true), Rs, H', ⟨On⟩, ⟨(Bk BK266)⟩, ⟨(Bk BK267)⟩, ⟨Bw⟩⟩
   rw [if_neg c7] at H;obtain ⟨c7b0, c7b1⟩ := neb c7;have H' := Am H;clear H;have hnb22 := NB266_267.out;have hnc22 := NB267_266.out;obtain ⟨Z23_0, Z23_1, Z23_2, Z23_3, Z23_4, Y23_0, Y23_1, Y23_2, Y23_3, Y23_4⟩ := cells5 BK266;obtain ⟨Z24_0, Z24_1, Z24_2, Z24_3, Z24_4, Y24_0, Y24_1, Y24_2, Y24_3, Y24_4⟩ := cells5 BK267;go_wp2
   repeat (go_quiet (fail); try go_wp2)
   go_meet
   case rel => exact ⟨_, (true), Rs, H', ⟨On⟩, ⟨(Bk BK266)⟩, ⟨(Bk BK267)⟩, ⟨Bw⟩⟩
  rw [if_neg c6] at H;obtain ⟨c6b0, c6b1⟩ := neb c6;have c6b2 : (l0_0.length == l1_0.length) = false := by first | simpa using c6 | (simp at c6 ⊢; omega)
  (first | rw [c6b0] | (simp only [i64_w, i32_w]; rw [c6b0]) | skip);have H' := Am H;clear H;have hnb25 := NB266_267.out;have hnc25 := NB267_266.out;obtain ⟨Z26_0, Z26_1, Z26_2, Z26_3, Z26_4, Y26_0, Y26_1, Y26_2, Y26_3, Y26_4⟩ := cells5 BK266;obtain ⟨Z27_0, Z27_1, Z27_2, Z27_3, Z27_4, Y27_0, Y27_1, Y27_2, Y27_3, Y27_4⟩ := cells5 BK267;go_wp2
  repeat (go_quiet (fail); try go_wp2)
  go_meet
  case rel => exact ⟨_, (true), Rs, H', ⟨On⟩, ⟨(Bk BK266)⟩, ⟨(Bk BK267)⟩, ⟨Bw⟩⟩
 case rest =>
  clear HC3;(try clear c1);(try clear c2);(try clear p2);(try clear c6);(try clear c6b0);(try clear c6b1);(try clear c6b2);(try clear c7);(try clear c7b0);(try clear c7b1);(try clear c9);(try clear c11);(try clear c13);(try clear c15);(try clear c16);(try clear c19);(try clear c22);(try clear c25);(try clear Z14_0 Z14_1 Z14_2 Z14_3 Z14_4);(try clear Z15_0 Z15_1 Z15_2 Z15_3 Z15_4);(try clear Z17_0 Z17_1 Z17_2 Z17_3 Z17_4);(try clear Z18_0 Z18_1 Z18_2 Z18_3 Z18_4);(try clear Z20_0 Z20_1 Z20_2 Z20_3 Z20_4);(try clear Z21_0 Z21_1 Z21_2 Z21_3 Z21_4);(try clear Z23_0 Z23_1 Z23_2 Z23_3 Z23_4);(try clear Z24_0 Z24_1 Z24_2 Z24_3 Z24_4);(try clear Z26_0 Z26_1 Z26_2 Z26_3 Z26_4);(try clear Z27_0 Z27_1 Z27_2 Z27_3 Z27_4);(try clear Y14_0 Y14_1 Y14_2 Y14_3 Y14_4);(try clear Y15_0 Y15_1 Y15_2 Y15_3 Y15_4);(try clear Y17_0 Y17_1 Y17_2 Y17_3 Y17_4);(try clear Y18_0 Y18_1 Y18_2 Y18_3 Y18_4);(try clear Y20_0 Y20_1 Y20_2 Y20_3 Y20_4);(try clear Y21_0 Y21_1 Y21_2 Y21_3 Y21_4);(try clear Y23_0 Y23_1 Y23_2 Y23_3 Y23_4);(try clear Y24_0 Y24_1 Y24_2 Y24_3 Y24_4);(try clear Y26_0 Y26_1 Y26_2 Y26_3 Y26_4);(try clear Y27_0 Y27_1 Y27_2 Y27_3 Y27_4);obtain ⟨kq, x43_2, rfl, HA, HJ2, BK266, BK267, HB⟩ := hcut
  cases kq with
  | zero => exact absurd HA.out (by simp [r11_Same.j0])
  | succ kj2 =>
   have H := HA.out;clear HA;simp only [r11_Same.j0] at H
   by_cases c28 : x43_2 = true
   ·subst c28;rw [if_pos rfl] at H;obtain rfl := si H;go_wp2
    repeat (go_quiet (fail); try go_wp2)
    go_ret;exact ⟨Re, Bw⟩
   replace c28 := bf c28;subst c28;rw [if_neg (show ¬ (false = true) by decide)] at H;have H' := Am H;clear H;go_wp2
   repeat (go_quiet (fail); try go_wp2)
   go_loopg [5] kj2 (fun kq v5 w' => ∃ (x5_2 : Int), v5 = .int .i64 x5_2 ∧ Aside0 (r11_Same.l0 kq x5_2 l0_0 l0_1 l0_2 l0_3 a0_4 l1_0 l1_1 l1_2 l1_3 a1_4 = some r) ∧ Aside0 (kq ≤ kj2) ∧ Aside0 (w'.heap[gb266]? = some (.cells #[(.slice A0_0 l0_0.length c0_0), (.slice A0_1 l0_1.length c0_1), (.slice A0_2 l0_2.length c0_2), (.slice A0_3 l0_3.length c0_3), .int .i64 a0_4] 25 (0, 0))) ∧ Aside0 (w'.heap[gb267]? = some (.cells #[(.slice A1_0 l1_0.length c1_0), (.slice A1_1 l1_1.length c1_1), (.slice A1_2 l1_2.length c1_2), (.slice A1_3 l1_3.length c1_3), .int .i64 a1_4] 25 (0, 0))) ∧ Aside0 (Below w.heap.size w w'))
   case atStart => exact ⟨(0), Rs, H', ⟨Nat.le_refl _⟩, ⟨(Bk BK266)⟩, ⟨(Bk BK267)⟩, ⟨Bw⟩⟩
   case round =>
    clear H';(try clear c1);(try clear c2);(try clear p2);(try clear c6);(try clear c6b0);(try clear c6b1);(try clear c6b2);(try clear c7);(try clear c7b0);(try clear c7b1);(try clear c9);(try clear c11);(try clear c13);(try clear c15);(try clear c16);(try clear c19);(try clear c22);(try clear c25);(try clear c28);(try clear Z14_0 Z14_1 Z14_2 Z14_3 Z14_4);(try clear Z15_0 Z15_1 Z15_2 Z15_3 Z15_4);(try clear Z17_0 Z17_1 Z17_2 Z17_3 Z17_4);(try clear Z18_0 Z18_1 Z18_2 Z18_3 Z18_4);(try clear Z20_0 Z20_1 Z20_2 Z20_3 Z20_4);(try clear Z21_0 Z21_1 Z21_2 Z21_3 Z21_4);(try clear Z23_0 Z23_1 Z23_2 Z23_3 Z23_4);(try clear Z24_0 Z24_1 Z24_2 Z24_3 Z24_4);(try clear Z26_0 Z26_1 Z26_2 Z26_3 Z26_4);(try clear Z27_0 Z27_1 Z27_2 Z27_3 Z27_4);(try clear Y14_0 Y14_1 Y14_2 Y14_3 Y14_4);(try clear Y15_0 Y15_1 Y15_2 Y15_3 Y15_4);(try clear Y17_0 Y17_1 Y17_2 Y17_3 Y17_4);(try clear Y18_0 Y18_1 Y18_2 Y18_3 Y18_4);(try clear Y20_0 Y20_1 Y20_2 Y20_3 Y20_4);(try clear Y21_0 Y21_1 Y21_2 Y21_3 Y21_4);(try clear Y23_0 Y23_1 Y23_2 Y23_3 Y23_4);(try clear Y24_0 Y24_1 Y24_2 Y24_3 Y24_4);(try clear Y26_0 Y26_1 Y26_2 Y26_3 Y26_4);(try clear Y27_0 Y27_1 Y27_2 Y27_3 Y27_4);(try clear p2);obtain ⟨x5_2, rfl, HA, HK2, BK266, BK267, HB⟩ := hrel
    cases gk with
    | zero => exact absurd HA.out (by simp [r11_Same.l0])
    | succ k2 =>
     have H := HA.out;clear HA;simp only [r11_Same.l0] at H
     by_cases c29 : x5_2 < (l0_0.length : Int)
     ·rw [if_pos c29] at H;have c29b0 := decide_eq_true c29;clear c29
      by_cases c30 : 0 ≤ x5_2
      ·rw [if_pos c30] at H;have c30b0 := decide_eq_true c30;clear c30
       by_cases c31 : x5_2 < (l1_0.length : Int)
       ·rw [if_pos c31] at H;have c31b0 := decide_eq_true c31;clear c31
        by_cases c32 : ((rd_T53 l0_0 x5_2).f0).toList = ((rd_T53 l1_0 x5_2).f0).toList
        ·rw [if_pos c32] at H;obtain ⟨c32b0, c32b1⟩ := eqb c32;clear c32;obtain ⟨t275, A33, H⟩ := bx H;(try dsimp -simprocs only at H)
         by_cases c34 : t275 = true
         ·subst c34;rw [if_pos rfl] at H;have H' := Am H;clear H;have hnb35 := NB266_267.out;have hnc35 := NB267_266.out;obtain ⟨Z36_0, Z36_1, Z36_2, Z36_3, Z36_4, Y36_0, Y36_1, Y36_2, Y36_3, Y36_4⟩ := cells5 BK266;have p271 : 0 ≤ (x5_2 : Int) := Od;have q271 : x5_2 < (l0_0.length : Int) := Od;obtain ⟨ad271, A271_1, c271_1, e271, hx271_0, hx271_1, HC271_1, HR271_1⟩ := at'_T53 HR0_0.out x5_2 p271 q271;cases e271;replace p271 := eq_true p271;replace q271 := eq_true q271;obtain ⟨Z37_0, Z37_1, Z37_2, Z37_3, Z37_4, Y37_0, Y37_1, Y37_2, Y37_3, Y37_4⟩ := cells5 BK267;have p272 : 0 ≤ (x5_2 : Int) := Od;have q272 : x5_2 < (l1_0.length : Int) := Od;obtain ⟨ad272, A272_1, c272_1, e272, hx272_0, hx272_1, HC272_1, HR272_1⟩ := at'_T53 HR1_0.out x5_2 p272 q272;cases e272;replace p272 := eq_true p272;replace q272 := eq_true q272;have p273 : 0 ≤ (x5_2 : Int) := Od;have q273 : x5_2 < (l0_0.length : Int) := Od;obtain ⟨ad273, A273_1, c273_1, e273, hx273_0, hx273_1, hl273_1, hi273_1⟩ := at_T53 HR0_0.out x5_2 p273 q273;obtain rfl : ad271 = ad273 := (by injection e273);replace hx273_0 := Hx hx273_0;replace hx273_1 := Hx hx273_1;have HR273_1 := Am hi273_1;have HC273_1 := Am hl273_1;clear hi273_1 hl273_1;replace p273 := eq_true p273;replace q273 := eq_true q273;have ea_ := Option.some.inj (hx271_1.symm.trans hx273_1)
          injection ea_ with ea_ en_ ec_
          subst ea_;subst ec_;clear en_;have p274 : 0 ≤ (x5_2 : Int) := Od;have q274 : x5_2 < (l1_0.length : Int) := Od;obtain ⟨ad274, A274_1, c274_1, e274, hx274_0, hx274_1, hl274_1, hi274_1⟩ := at_T53 HR1_0.out x5_2 p274 q274;obtain rfl : ad272 = ad274 := (by injection e274);replace hx274_0 := Hx hx274_0;replace hx274_1 := Hx hx274_1;have HR274_1 := Am hi274_1;have HC274_1 := Am hl274_1;clear hi274_1 hl274_1;replace p274 := eq_true p274;replace q274 := eq_true q274;have ea_ := Option.some.inj (hx272_1.symm.trans hx274_1)
          injection ea_ with ea_ en_ ec_
          subst ea_;subst ec_;clear en_;go_wp2_with (first | (go_at_call 39; (with_reducible refine (r11_Texts.calls k2 _ _ ((rd_T53 l0_0 x5_2).f1) _ _ ((rd_T53 l1_0 x5_2).f1) true _ (Cs HR273_1) HC273_1.out (Cs HR274_1) HC274_1.out A33.out).mono ?_); rintro e w' ⟨rfl, ⟨nd, rfl⟩⟩; (try first | exact ⟨rfl, _, World.drewN_drewN _ _ _⟩ | exact ⟨rfl, _, Eq.trans (World.drewN_drewN _ _ _) (congrArg (World.drewN _) (Nat.add_assoc _ _ _))⟩)))
          repeat (go_quiet (first | (go_at_call 39; (with_reducible refine (r11_Texts.calls k2 _ _ ((rd_T53 l0_0 x5_2).f1) _ _ ((rd_T53 l1_0 x5_2).f1) true _ (Cs HR273_1) HC273_1.out (Cs HR274_1) HC274_1.out A33.out).mono ?_); rintro e w' ⟨rfl, ⟨nd, rfl⟩⟩; (try first | exact ⟨rfl, _, World.drewN_drewN _ _ _⟩ | exact ⟨rfl, _, Eq.trans (World.drewN_drewN _ _ _) (congrArg (World.drewN _) (Nat.add_assoc _ _ _))⟩))); try go_wp2_with (first | (go_at_call 39; (with_reducible refine (r11_Texts.calls k2 _ _ ((rd_T53 l0_0 x5_2).f1) _ _ ((rd_T53 l1_0 x5_2).f1) true _ (Cs HR273_1) HC273_1.out (Cs HR274_1) HC274_1.out A33.out).mono ?_); rintro e w' ⟨rfl, ⟨nd, rfl⟩⟩; (try first | exact ⟨rfl, _, World.drewN_drewN _ _ _⟩ | exact ⟨rfl, _, Eq.trans (World.drewN_drewN _ _ _) (congrArg (World.drewN _) (Nat.add_assoc _ _ _))⟩))))
          go_roundg k2
          case measure => have := HJ2.out; have := HK2.out; omega
          case rel => exact ⟨(wrap64 (x5_2 + 1)), Rs, H', ⟨by have := HJ2.out; have := HK2.out; omega⟩, ⟨(Bk BK266)⟩, ⟨(Bk BK267)⟩, ⟨Bw⟩⟩
         replace c34 := bf c34;subst c34;rw [if_neg (show ¬ (false = true) by decide)] at H;obtain rfl := si H;have hnb38 := NB266_267.out;have hnc38 := NB267_266.out;obtain ⟨Z39_0, Z39_1, Z39_2, Z39_3, Z39_4, Y39_0, Y39_1, Y39_2, Y39_3, Y39_4⟩ := cells5 BK266;have p271 : 0 ≤ (x5_2 : Int) := Od;have q271 : x5_2 < (l0_0.length : Int) := Od;obtain ⟨ad271, A271_1, c271_1, e271, hx271_0, hx271_1, HC271_1, HR271_1⟩ := at'_T53 HR0_0.out x5_2 p271 q271;cases e271;replace p271 := eq_true p271;replace q271 := eq_true q271;obtain ⟨Z40_0, Z40_1, Z40_2, Z40_3, Z40_4, Y40_0, Y40_1, Y40_2, Y40_3, Y40_4⟩ := cells5 BK267;have p272 : 0 ≤ (x5_2 : Int) := Od;have q272 : x5_2 < (l1_0.length : Int) := Od;obtain ⟨ad272, A272_1, c272_1, e272, hx272_0, hx272_1, HC272_1, HR272_1⟩ := at'_T53 HR1_0.out x5_2 p272 q272;cases e272;replace p272 := eq_true p272;replace q272 := eq_true q272;have p273 : 0 ≤ (x5_2 : Int) := Od;have q273 : x5_2 < (l0_0.length : Int) := Od;obtain ⟨ad273, A273_1, c273_1, e273, hx273_0, hx273_1, hl273_1, hi273_1⟩ := at_T53 HR0_0.out x5_2 p273 q273;obtain rfl : ad271 = ad273 := (by injection e273);replace hx273_0 := Hx hx273_0;replace hx273_1 := Hx hx273_1;have HR273_1 := Am hi273_1;have HC273_1 := Am hl273_1;clear hi273_1 hl273_1;replace p273 := eq_true p273;replace q273 := eq_true q273;have ea_ := Option.some.inj (hx271_1.symm.trans hx273_1)
         injection ea_ with ea_ en_ ec_
         subst ea_;subst ec_;clear en_;have p274 : 0 ≤ (x5_2 : Int) := Od;have q274 : x5_2 < (l1_0.length : Int) := Od;obtain ⟨ad274, A274_1, c274_1, e274, hx274_0, hx274_1, hl274_1, hi274_1⟩ := at_T53 HR1_0.out x5_2 p274 q274;obtain rfl : ad272 = ad274 := (by injection e274);replace hx274_0 := Hx hx274_0;replace hx274_1 := Hx hx274_1;have HR274_1 := Am hi274_1;have HC274_1 := Am hl274_1;clear hi274_1 hl274_1;replace p274 := eq_true p274;replace q274 := eq_true q274;have ea_ := Option.some.inj (hx272_1.symm.trans hx274_1)
         injection ea_ with ea_ en_ ec_
         subst ea_;subst ec_;clear en_;go_wp2_with (first | (go_at_call 39; (with_reducible refine (r11_Texts.calls k2 _ _ ((rd_T53 l0_0 x5_2).f1) _ _ ((rd_T53 l1_0 x5_2).f1) false _ (Cs HR273_1) HC273_1.out (Cs HR274_1) HC274_1.out A33.out).mono ?_); rintro e w' ⟨rfl, ⟨nd, rfl⟩⟩; (try first | exact ⟨rfl, _, World.drewN_drewN _ _ _⟩ | exact ⟨rfl, _, Eq.trans (World.drewN_drewN _ _ _) (congrArg (World.drewN _) (Nat.add_assoc _ _ _))⟩)))
         repeat (go_quiet (first | (go_at_call 39; (with_reducible refine (r11_Texts.calls k2 _ _ ((rd_T53 l0_0 x5_2).f1) _ _ ((rd_T53 l1_0 x5_2).f1) false _ (Cs HR273_1) HC273_1.out (Cs HR274_1) HC274_1.out A33.out).mono ?_); rintro e w' ⟨rfl, ⟨nd, rfl⟩⟩; (try first | exact ⟨rfl, _, World.drewN_drewN _ _ _⟩ | exact ⟨rfl, _, Eq.trans (World.drewN_drewN _ _ _) (congrArg (World.drewN _) (Nat.add_assoc _ _ _))⟩))); try go_wp2_with (first | (go_at_call 39; (with_reducible refine (r11_Texts.calls k2 _ _ ((rd_T53 l0_0 x5_2).f1) _ _ ((rd_T53 l1_0 x5_2).f1) false _ (Cs HR273_1) HC273_1.out (Cs HR274_1) HC274_1.out A33.out).mono ?_); rintro e w' ⟨rfl, ⟨nd, rfl⟩⟩; (try first | exact ⟨rfl, _, World.drewN_drewN _ _ _⟩ | exact ⟨rfl, _, Eq.trans (World.drewN_drewN _ _ _) (congrArg (World.drewN _) (Nat.add_assoc _ _ _))⟩))))
         go_ret;exact ⟨Re, Bw⟩
        rw [if_neg c32] at H;obtain ⟨c32b0, c32b1⟩ := neb c32;obtain rfl := si H;have hnb41 := NB266_267.out;have hnc41 := NB267_266.out;obtain ⟨Z42_0, Z42_1, Z42_2, Z42_3, Z42_4, Y42_0, Y42_1, Y42_2, Y42_3, Y42_4⟩ := cells5 BK266;have p271 : 0 ≤ (x5_2 : Int) := Od;have q271 : x5_2 < (l0_0.length : Int) := Od;obtain ⟨ad271, A271_1, c271_1, e271, hx271_0, hx271_1, HC271_1, HR271_1⟩ := at'_T53 HR0_0.out x5_2 p271 q271;cases e271;replace p271 := eq_true p271;replace q271 := eq_true q271;obtain ⟨Z43_0, Z43_1, Z43_2, Z43_3, Z43_4, Y43_0, Y43_1, Y43_2, Y43_3, Y43_4⟩ := cells5 BK267;have p272 : 0 ≤ (x5_2 : Int) := Od;have q272 : x5_2 < (l1_0.length : Int) := Od;obtain ⟨ad272, A272_1, c272_1, e272, hx272_0, hx272_1, HC272_1, HR272_1⟩ := at'_T53 HR1_0.out x5_2 p272 q272;cases e272;replace p272 := eq_true p272;replace q272 := eq_true q272;go_wp2
        repeat (go_quiet (fail); try go_wp2)
        go_ret;exact ⟨Re, Bw⟩
       rw [if_neg c31] at H;exact absurd H (by simp)
      rw [if_neg c30] at H;exact absurd H (by simp)
     rw [if_neg c29] at H;have c29b0 := decide_eq_false c29;clear c29;obtain rfl := si H;have hnb44 := NB266_267.out;have hnc44 := NB267_266.out;obtain ⟨Z45_0, Z45_1, Z45_2, Z45_3, Z45_4, Y45_0, Y45_1, Y45_2, Y45_3, Y45_4⟩ := cells5 BK266;go_wp2
     repeat (go_quiet (fail); try go_wp2)
     go_ret;exact ⟨Re, Bw⟩

noncomputable def l11_PolicyParse.f (k : Nat) (a0 : ByteArray) : Option (Bool) := if (a0.size : Int) > 2100 then ((l11_alive.f k).bind fun t276 => (some t276)) else ((p_Parse.f k a0).bind fun bt277 => ((r11_Parse.f k a0).bind fun bt293 => ((l11_alive.f k).bind fun t309 => (if t309 = true then ((r11_Same.f k bt277.1 bt277.2.1 bt277.2.2.1 bt277.2.2.2.1 bt277.2.2.2.2.1 bt293.1 bt293.2.1 bt293.2.2.1 bt293.2.2.2.1 bt293.2.2.2.2.1).bind fun t310 => (if t310 = true then (if bt277.2.2.2.2.2.1 = bt293.2.2.2.2.2.1 then (some (bt277.2.2.2.2.2.2 == bt293.2.2.2.2.2.2)) else (some false)) else (some false))) else (some false)))))
theorem l11_PolicyParse.calls (k : Nat) (a0 : ByteArray) (r : Bool) (w : World) (m_ : Int) (hm_ : w.cell? ⟨0, 0, none⟩ = some (.int .i64 m_)) (h : l11_PolicyParse.f k a0 = some r) :
  Calls Tryd.prog 4 #[.string a0] w fun e w' => e = .returned (.bool r) ∧ Below w.heap.size w w' := by
 have HM := Am hm_;clear hm_;have hu25 := Tryd.underlying25;have HB := Am (Below.refl w.heap.size w);have H := h;clear h;unfold l11_PolicyParse.f at H
 by_cases c2 : (a0.size : Int) > 2100
 ·rw [if_pos c2] at H;have c2b0 : decide (2100 < (a0.size : Int)) = true := decide_eq_true c2;have c2b1 : decide (2100 < a0.size) = true := decide_eq_true (by omega);clear c2;obtain ⟨t276, A3, H⟩ := bx H;replace H : (some t276) = some r := H;obtain rfl := si H;go_enter Tryd.func4, Tryd.ntmps4;go_wp2_with (first | ((with_reducible refine gate_callee (f := 10) rfl ?_); refine goL (some 12) Tryd.func10 #[] ?_; (with_reducible refine (l11_alive.calls k  t276 _ m_ ?hmS A3.out).mono ?_); (case hmS => exact (pw_cell_below Bw HM.out)); rintro e w4 ⟨rfl, hb⟩; refine ⟨_, rfl, ?_⟩; replace HB := Bs hb; clear hb));go_ret;exact ⟨Re, Bw⟩
 rw [if_neg c2] at H;have c2b0 : decide (2100 < (a0.size : Int)) = false := decide_eq_false c2;have c2b1 : decide (2100 < a0.size) = false := decide_eq_false (by omega);clear c2;obtain ⟨⟨t277, t280, t283, t286, t289, t290, t291⟩, A5, H⟩ := bx H;(try dsimp -simprocs only at H);obtain ⟨⟨t293, t296, t299, t302, t305, t306, t307⟩, A6, H⟩ := bx H;(try dsimp -simprocs only at H);obtain ⟨t309, A7, H⟩ := bx H;(try dsimp -simprocs only at H)
 by_cases c8 : t309 = true
 ·subst c8;rw [if_pos rfl] at H;obtain ⟨t310, A9, H⟩ := bx H;(try dsimp -simprocs only at H)
  by_cases c10 : t310 = true
  ·subst c10;rw [if_pos rfl] at H
   by_cases c11 : t290 = t306
   ·rw [if_pos c11] at H;have c11b0 : (t290 == t306) = true := beq_iff_eq.mpr c11;have c11b1 : (t290 != t306) = false := bne_eq_false_iff_eq.mpr c11;clear c11;obtain rfl := si H;go_enter Tryd.func4, Tryd.ntmps4;go_wp2_with (first | ((with_reducible refine gate_callee (f := 13) rfl ?_); refine goL (some 15) Tryd.func13 #[.string a0] ?_; (with_reducible refine (p_Parse.calls k a0 t277 t280 t283 t286 t289 t290 t291 _ m_ ?hmS A5.out).mono ?_); (case hmS => exact (pw_cell_below Bw HM.out)); rintro e w12 ⟨v278, v281, v284, v287, rfl, ho0, ho1, ho2, ho3, hb⟩; refine ⟨_, rfl, ?_⟩; replace HO279 := Am (Kd.S_lower ho0 (below_size Bw)); replace HO282 := Am (Kd.R_lower ho1 (below_size Bw)); replace HO285 := Am (Kd.R_lower ho2 (below_size Bw)); replace HO288 := Am (Kd.R_lower ho3 (below_size Bw)); replace HB := Bs hb; (try clear hb); (try clear hb2); (try clear hk); (try clear hi); (try clear ho0); (try clear ho1); (try clear ho2); (try clear ho3)) | ((with_reducible refine gate_dst (N := 3) rfl ?_); refine boxE 25 3 (cs := #[.slice none 0 0, .slice none 0 0, .slice none 0 0, .slice none 0 0, .int .i64 0]) ?_; intro gb292 hg w13 hbox hb; have n0_ := Am (Kd.S_below (Sk HO279.out) hb); have n1_ := Am (Kd.R_below (Rk HO282.out) hb); have n2_ := Am (Kd.R_below (Rk HO285.out) hb); have n3_ := Am (Kd.R_below (Rk HO288.out) hb); have n4_ := Bs hb; have n5_ := Am (hbox); have n6_ := Am (Gg hg); have n7_ := Am (Gg hg); clear HO279; clear HO282; clear HO285; clear HO288; clear HB; have HO279 := n0_; have HO282 := n1_; have HO285 := n2_; have HO288 := n3_; have HB := n4_; have BK292 := n5_; have GW292 := n6_; have GE292 := n7_; clear n0_ n1_ n2_ n3_ n4_ n5_ n6_ n7_; clear hb hbox hg; obtain ⟨Ao14, co14, eo14⟩ := Kd.S_slice HO279.out; subst eo14; obtain ⟨Z15_0, Z15_1, Z15_2, Z15_3, Z15_4, Y15_0, Y15_1, Y15_2, Y15_3, Y15_4⟩ := cells5 BK292; obtain ⟨Ao16, co16, eo16⟩ := Kd.R_slice HO282.out; subst eo16; obtain ⟨Ao17, co17, eo17⟩ := Kd.R_slice HO285.out; subst eo17; obtain ⟨Ao18, co18, eo18⟩ := Kd.R_slice HO288.out; subst eo18) | ((with_reducible refine gate_callee (f := 14) rfl ?_); refine goL (some 21) Tryd.func14 #[.string a0] ?_; (with_reducible refine (r11_Parse.calls k a0 t293 t296 t299 t302 t305 t306 t307 _ A6.out).mono ?_); rintro e w19 ⟨v294, v297, v300, v303, rfl, ho0, ho1, ho2, ho3, hb⟩; refine ⟨_, rfl, ?_⟩; have n0_ := Am (Kd.S_mono (Kd.S_told (Kd.S_told (Kd.S_told (Kd.S_old (Sk (Kd.S_mono (Kd.S_far (p := ⟨gb292, 4, none⟩) (Kd.S_far (p := ⟨gb292, 3, none⟩) (Kd.S_far (p := ⟨gb292, 2, none⟩) (Kd.S_far (p := ⟨gb292, 1, none⟩) (Kd.S_far (p := ⟨gb292, 0, none⟩) (Kd.S_types HO279.out BK292.out (by decide)) (fun _ hk => hk.2) (.slice Ao14 t277.length co14)) (fun _ hk => hk.2) (.slice Ao16 t280.length co16)) (fun _ hk => hk.2) (.slice Ao17 t283.length co17)) (fun _ hk => hk.2) (.slice Ao18 t286.length co18)) (fun _ hk => hk.2) (.int .i64 t289)) (fun _ h_ => h_.1))) hb) (Kd.R_base ho1)) (Kd.R_base ho2)) (Kd.R_base ho3)) (fun _ h_ => h_.1)); have n1_ := Am (Kd.R_mono (Kd.R_told (Kd.R_told (Kd.R_told (Kd.R_old (Rk (Kd.R_mono (Kd.R_far (p := ⟨gb292, 4, none⟩) (Kd.R_far (p := ⟨gb292, 3, none⟩) (Kd.R_far (p := ⟨gb292, 2, none⟩) (Kd.R_far (p := ⟨gb292, 1, none⟩) (Kd.R_far (p := ⟨gb292, 0, none⟩) (Kd.R_types HO282.out BK292.out (by decide)) (fun _ hk => hk.2) (.slice Ao14 t277.length co14)) (fun _ hk => hk.2) (.slice Ao16 t280.length co16)) (fun _ hk => hk.2) (.slice Ao17 t283.length co17)) (fun _ hk => hk.2) (.slice Ao18 t286.length co18)) (fun _ hk => hk.2) (.int .i64 t289)) (fun _ h_ => h_.1))) hb) (Kd.R_base ho1)) (Kd.R_base ho2)) (Kd.R_base ho3)) (fun _ h_ => h_.1)); have n2_ := Am (Kd.R_mono (Kd.R_told (Kd.R_told (Kd.R_told (Kd.R_old (Rk (Kd.R_mono (Kd.R_far (p := ⟨gb292, 4, none⟩) (Kd.R_far (p := ⟨gb292, 3, none⟩) (Kd.R_far (p := ⟨gb292, 2, none⟩) (Kd.R_far (p := ⟨gb292, 1, none⟩) (Kd.R_far (p := ⟨gb292, 0, none⟩) (Kd.R_types HO285.out BK292.out (by decide)) (fun _ hk => hk.2) (.slice Ao14 t277.length co14)) (fun _ hk => hk.2) (.slice Ao16 t280.length co16)) (fun _ hk => hk.2) (.slice Ao17 t283.length co17)) (fun _ hk => hk.2) (.slice Ao18 t286.length co18)) (fun _ hk => hk.2) (.int .i64 t289)) (fun _ h_ => h_.1))) hb) (Kd.R_base ho1)) (Kd.R_base ho2)) (Kd.R_base ho3)) (fun _ h_ => h_.1)); have n3_ := Am (Kd.R_mono (Kd.R_told (Kd.R_told (Kd.R_told (Kd.R_old (Rk (Kd.R_mono (Kd.R_far (p := ⟨gb292, 4, none⟩) (Kd.R_far (p := ⟨gb292, 3, none⟩) (Kd.R_far (p := ⟨gb292, 2, none⟩) (Kd.R_far (p := ⟨gb292, 1, none⟩) (Kd.R_far (p := ⟨gb292, 0, none⟩) (Kd.R_types HO288.out BK292.out (by decide)) (fun _ hk => hk.2) (.slice Ao14 t277.length co14)) (fun _ hk => hk.2) (.slice Ao16 t280.length co16)) (fun _ hk => hk.2) (.slice Ao17 t283.length co17)) (fun _ hk => hk.2) (.slice Ao18 t286.length co18)) (fun _ hk => hk.2) (.int .i64 t289)) (fun _ h_ => h_.1))) hb) (Kd.R_base ho1)) (Kd.R_base ho2)) (Kd.R_base ho3)) (fun _ h_ => h_.1)); have n4_ := Am (Kd.V_lower (Kd.V_mono (ok' := fun k_ => some k_ ≠ (v297 : Value).ownBlock ∧ some k_ ≠ (v300 : Value).ownBlock ∧ some k_ ≠ (v303 : Value).ownBlock ∧ some k_ ≠ (.slice Ao14 t277.length co14 : Value).ownBlock ∧ some k_ ≠ (.slice Ao16 t280.length co16 : Value).ownBlock ∧ some k_ ≠ (.slice Ao17 t283.length co17 : Value).ownBlock ∧ some k_ ≠ (.slice Ao18 t286.length co18 : Value).ownBlock ∧ k_ ≠ gb292) ho0 (fun k_ hk_ => ⟨hk_.2.1, hk_.2.2.1, hk_.2.2.2, (Kd.fresh' (Kd.S_lt (Sk (Kd.S_mono (Kd.S_far (p := ⟨gb292, 4, none⟩) (Kd.S_far (p := ⟨gb292, 3, none⟩) (Kd.S_far (p := ⟨gb292, 2, none⟩) (Kd.S_far (p := ⟨gb292, 1, none⟩) (Kd.S_far (p := ⟨gb292, 0, none⟩) (Kd.S_types HO279.out BK292.out (by decide)) (fun _ hk => hk.2) (.slice Ao14 t277.length co14)) (fun _ hk => hk.2) (.slice Ao16 t280.length co16)) (fun _ hk => hk.2) (.slice Ao17 t283.length co17)) (fun _ hk => hk.2) (.slice Ao18 t286.length co18)) (fun _ hk => hk.2) (.int .i64 t289)) (fun _ h_ => h_.1)))) k_ hk_.1), (Kd.fresh' (Kd.R_lt (Rk (Kd.R_mono (Kd.R_far (p := ⟨gb292, 4, none⟩) (Kd.R_far (p := ⟨gb292, 3, none⟩) (Kd.R_far (p := ⟨gb292, 2, none⟩) (Kd.R_far (p := ⟨gb292, 1, none⟩) (Kd.R_far (p := ⟨gb292, 0, none⟩) (Kd.R_types HO282.out BK292.out (by decide)) (fun _ hk => hk.2) (.slice Ao14 t277.length co14)) (fun _ hk => hk.2) (.slice Ao16 t280.length co16)) (fun _ hk => hk.2) (.slice Ao17 t283.length co17)) (fun _ hk => hk.2) (.slice Ao18 t286.length co18)) (fun _ hk => hk.2) (.int .i64 t289)) (fun _ h_ => h_.1)))) k_ hk_.1), (Kd.fresh' (Kd.R_lt (Rk (Kd.R_mono (Kd.R_far (p := ⟨gb292, 4, none⟩) (Kd.R_far (p := ⟨gb292, 3, none⟩) (Kd.R_far (p := ⟨gb292, 2, none⟩) (Kd.R_far (p := ⟨gb292, 1, none⟩) (Kd.R_far (p := ⟨gb292, 0, none⟩) (Kd.R_types HO285.out BK292.out (by decide)) (fun _ hk => hk.2) (.slice Ao14 t277.length co14)) (fun _ hk => hk.2) (.slice Ao16 t280.length co16)) (fun _ hk => hk.2) (.slice Ao17 t283.length co17)) (fun _ hk => hk.2) (.slice Ao18 t286.length co18)) (fun _ hk => hk.2) (.int .i64 t289)) (fun _ h_ => h_.1)))) k_ hk_.1), (Kd.fresh' (Kd.R_lt (Rk (Kd.R_mono (Kd.R_far (p := ⟨gb292, 4, none⟩) (Kd.R_far (p := ⟨gb292, 3, none⟩) (Kd.R_far (p := ⟨gb292, 2, none⟩) (Kd.R_far (p := ⟨gb292, 1, none⟩) (Kd.R_far (p := ⟨gb292, 0, none⟩) (Kd.R_types HO288.out BK292.out (by decide)) (fun _ hk => hk.2) (.slice Ao14 t277.length co14)) (fun _ hk => hk.2) (.slice Ao16 t280.length co16)) (fun _ hk => hk.2) (.slice Ao17 t283.length co17)) (fun _ hk => hk.2) (.slice Ao18 t286.length co18)) (fun _ hk => hk.2) (.int .i64 t289)) (fun _ h_ => h_.1)))) k_ hk_.1), (Kd.freshB (g := gb292) (o := .cells #[.slice Ao14 t277.length co14, .slice Ao16 t280.length co16, .slice Ao17 t283.length co17, .slice Ao18 t286.length co18, .int .i64 t289] 25 (0, 0)) (Bp BK292) k_ hk_.1)⟩)) (below_size Bw)); have n5_ := Am (Kd.R_lower (Kd.R_new' (Kd.R_new' (Kd.R_new' (Kd.R_mono (ok' := fun k_ => some k_ ≠ (v300 : Value).ownBlock ∧ some k_ ≠ (v303 : Value).ownBlock) ho1 (fun _ hk_ => hk_.2)) (Kd.R_lt (Rk (Kd.R_mono (Kd.R_far (p := ⟨gb292, 4, none⟩) (Kd.R_far (p := ⟨gb292, 3, none⟩) (Kd.R_far (p := ⟨gb292, 2, none⟩) (Kd.R_far (p := ⟨gb292, 1, none⟩) (Kd.R_far (p := ⟨gb292, 0, none⟩) (Kd.R_types HO282.out BK292.out (by decide)) (fun _ hk => hk.2) (.slice Ao14 t277.length co14)) (fun _ hk => hk.2) (.slice Ao16 t280.length co16)) (fun _ hk => hk.2) (.slice Ao17 t283.length co17)) (fun _ hk => hk.2) (.slice Ao18 t286.length co18)) (fun _ hk => hk.2) (.int .i64 t289)) (fun _ h_ => h_.1))))) (Kd.R_lt (Rk (Kd.R_mono (Kd.R_far (p := ⟨gb292, 4, none⟩) (Kd.R_far (p := ⟨gb292, 3, none⟩) (Kd.R_far (p := ⟨gb292, 2, none⟩) (Kd.R_far (p := ⟨gb292, 1, none⟩) (Kd.R_far (p := ⟨gb292, 0, none⟩) (Kd.R_types HO285.out BK292.out (by decide)) (fun _ hk => hk.2) (.slice Ao14 t277.length co14)) (fun _ hk => hk.2) (.slice Ao16 t280.length co16)) (fun _ hk => hk.2) (.slice Ao17 t283.length co17)) (fun _ hk => hk.2) (.slice Ao18 t286.length co18)) (fun _ hk => hk.2) (.int .i64 t289)) (fun _ h_ => h_.1))))) (Kd.R_lt (Rk (Kd.R_mono (Kd.R_far (p := ⟨gb292, 4, none⟩) (Kd.R_far (p := ⟨gb292, 3, none⟩) (Kd.R_far (p := ⟨gb292, 2, none⟩) (Kd.R_far (p := ⟨gb292, 1, none⟩) (Kd.R_far (p := ⟨gb292, 0, none⟩) (Kd.R_types HO288.out BK292.out (by decide)) (fun _ hk => hk.2) (.slice Ao14 t277.length co14)) (fun _ hk => hk.2) (.slice Ao16 t280.length co16)) (fun _ hk => hk.2) (.slice Ao17 t283.length co17)) (fun _ hk => hk.2) (.slice Ao18 t286.length co18)) (fun _ hk => hk.2) (.int .i64 t289)) (fun _ h_ => h_.1))))) (below_size Bw)); have n6_ := Am (Kd.R_lower (Kd.R_new' (Kd.R_new' (Kd.R_new' (Kd.R_mono (ok' := fun k_ => some k_ ≠ (v297 : Value).ownBlock ∧ some k_ ≠ (v303 : Value).ownBlock) ho2 (fun _ hk_ => hk_.2)) (Kd.R_lt (Rk (Kd.R_mono (Kd.R_far (p := ⟨gb292, 4, none⟩) (Kd.R_far (p := ⟨gb292, 3, none⟩) (Kd.R_far (p := ⟨gb292, 2, none⟩) (Kd.R_far (p := ⟨gb292, 1, none⟩) (Kd.R_far (p := ⟨gb292, 0, none⟩) (Kd.R_types HO282.out BK292.out (by decide)) (fun _ hk => hk.2) (.slice Ao14 t277.length co14)) (fun _ hk => hk.2) (.slice Ao16 t280.length co16)) (fun _ hk => hk.2) (.slice Ao17 t283.length co17)) (fun _ hk => hk.2) (.slice Ao18 t286.length co18)) (fun _ hk => hk.2) (.int .i64 t289)) (fun _ h_ => h_.1))))) (Kd.R_lt (Rk (Kd.R_mono (Kd.R_far (p := ⟨gb292, 4, none⟩) (Kd.R_far (p := ⟨gb292, 3, none⟩) (Kd.R_far (p := ⟨gb292, 2, none⟩) (Kd.R_far (p := ⟨gb292, 1, none⟩) (Kd.R_far (p := ⟨gb292, 0, none⟩) (Kd.R_types HO285.out BK292.out (by decide)) (fun _ hk => hk.2) (.slice Ao14 t277.length co14)) (fun _ hk => hk.2) (.slice Ao16 t280.length co16)) (fun _ hk => hk.2) (.slice Ao17 t283.length co17)) (fun _ hk => hk.2) (.slice Ao18 t286.length co18)) (fun _ hk => hk.2) (.int .i64 t289)) (fun _ h_ => h_.1))))) (Kd.R_lt (Rk (Kd.R_mono (Kd.R_far (p := ⟨gb292, 4, none⟩) (Kd.R_far (p := ⟨gb292, 3, none⟩) (Kd.R_far (p := ⟨gb292, 2, none⟩) (Kd.R_far (p := ⟨gb292, 1, none⟩) (Kd.R_far (p := ⟨gb292, 0, none⟩) (Kd.R_types HO288.out BK292.out (by decide)) (fun _ hk => hk.2) (.slice Ao14 t277.length co14)) (fun _ hk => hk.2) (.slice Ao16 t280.length co16)) (fun _ hk => hk.2) (.slice Ao17 t283.length co17)) (fun _ hk => hk.2) (.slice Ao18 t286.length co18)) (fun _ hk => hk.2) (.int .i64 t289)) (fun _ h_ => h_.1))))) (below_size Bw)); have n7_ := Am (Kd.R_lower (Kd.R_new' (Kd.R_new' (Kd.R_new' (Kd.R_mono (ok' := fun k_ => some k_ ≠ (v297 : Value).ownBlock ∧ some k_ ≠ (v300 : Value).ownBlock) ho3 (fun _ hk_ => hk_.2)) (Kd.R_lt (Rk (Kd.R_mono (Kd.R_far (p := ⟨gb292, 4, none⟩) (Kd.R_far (p := ⟨gb292, 3, none⟩) (Kd.R_far (p := ⟨gb292, 2, none⟩) (Kd.R_far (p := ⟨gb292, 1, none⟩) (Kd.R_far (p := ⟨gb292, 0, none⟩) (Kd.R_types HO282.out BK292.out (by decide)) (fun _ hk => hk.2) (.slice Ao14 t277.length co14)) (fun _ hk => hk.2) (.slice Ao16 t280.length co16)) (fun _ hk => hk.2) (.slice Ao17 t283.length co17)) (fun _ hk => hk.2) (.slice Ao18 t286.length co18)) (fun _ hk => hk.2) (.int .i64 t289)) (fun _ h_ => h_.1))))) (Kd.R_lt (Rk (Kd.R_mono (Kd.R_far (p := ⟨gb292, 4, none⟩) (Kd.R_far (p := ⟨gb292, 3, none⟩) (Kd.R_far (p := ⟨gb292, 2, none⟩) (Kd.R_far (p := ⟨gb292, 1, none⟩) (Kd.R_far (p := ⟨gb292, 0, none⟩) (Kd.R_types HO285.out BK292.out (by decide)) (fun _ hk => hk.2) (.slice Ao14 t277.length co14)) (fun _ hk => hk.2) (.slice Ao16 t280.length co16)) (fun _ hk => hk.2) (.slice Ao17 t283.length co17)) (fun _ hk => hk.2) (.slice Ao18 t286.length co18)) (fun _ hk => hk.2) (.int .i64 t289)) (fun _ h_ => h_.1))))) (Kd.R_lt (Rk (Kd.R_mono (Kd.R_far (p := ⟨gb292, 4, none⟩) (Kd.R_far (p := ⟨gb292, 3, none⟩) (Kd.R_far (p := ⟨gb292, 2, none⟩) (Kd.R_far (p := ⟨gb292, 1, none⟩) (Kd.R_far (p := ⟨gb292, 0, none⟩) (Kd.R_types HO288.out BK292.out (by decide)) (fun _ hk => hk.2) (.slice Ao14 t277.length co14)) (fun _ hk => hk.2) (.slice Ao16 t280.length co16)) (fun _ hk => hk.2) (.slice Ao17 t283.length co17)) (fun _ hk => hk.2) (.slice Ao18 t286.length co18)) (fun _ hk => hk.2) (.int .i64 t289)) (fun _ h_ => h_.1))))) (below_size Bw)); have n8_ := Am (blk_below (g := gb292) (o := .cells #[.slice Ao14 t277.length co14, .slice Ao16 t280.length co16, .slice Ao17 t283.length co17, .slice Ao18 t286.length co18, .int .i64 t289] 25 (0, 0)) (Bp BK292) hb); have n9_ := Bs hb; clear HO279; clear HO282; clear HO285; clear HO288; clear BK292; clear HB; have HO279 := n0_; have HO282 := n1_; have HO285 := n2_; have HO288 := n3_; have HO295 := n4_; have HO298 := n5_; have HO301 := n6_; have HO304 := n7_; have BK292 := n8_; have HB := n9_; clear n0_ n1_ n2_ n3_ n4_ n5_ n6_ n7_ n8_ n9_; (try clear hb); (try clear hb2); (try clear hk); (try clear hi); (try clear ho0); (try clear ho1); (try clear ho2); (try clear ho3)) | ((with_reducible refine gate_dst (N := 6) rfl ?_); refine boxE 25 6 (cs := #[.slice none 0 0, .slice none 0 0, .slice none 0 0, .slice none 0 0, .int .i64 0]) ?_; intro gb308 hg w20 hbox hb; have n0_ := Am (Kd.S_below (Sk HO279.out) hb); have n1_ := Am (Kd.R_below (Rk HO282.out) hb); have n2_ := Am (Kd.R_below (Rk HO285.out) hb); have n3_ := Am (Kd.R_below (Rk HO288.out) hb); have n4_ := Am (Kd.V_below (Kd.V_elderB (Vk HO295.out) gb308 (Nat.le_of_eq hg.symm)) hb); have n5_ := Am (Kd.R_below (Rk HO298.out) hb); have n6_ := Am (Kd.R_below (Rk HO301.out) hb); have n7_ := Am (Kd.R_below (Rk HO304.out) hb); have n8_ := Bb BK292 hb; have n9_ := Bs hb; have n10_ := Am (hbox); have n11_ := Am (Gg hg); have n12_ := Am (Gg hg); have n13_ := Nl hg BK292; have n14_ := Ng hg BK292; clear HO279; clear HO282; clear HO285; clear HO288; clear HO295; clear HO298; clear HO301; clear HO304; clear BK292; clear HB; have HO279 := n0_; have HO282 := n1_; have HO285 := n2_; have HO288 := n3_; have HO295 := n4_; have HO298 := n5_; have HO301 := n6_; have HO304 := n7_; have BK292 := n8_; have HB := n9_; have BK308 := n10_; have GW308 := n11_; have GE308 := n12_; have NB292_308 := n13_; have NB308_292 := n14_; clear n0_ n1_ n2_ n3_ n4_ n5_ n6_ n7_ n8_ n9_ n10_ n11_ n12_ n13_ n14_; clear hb hbox hg; obtain ⟨Ao21, co21, eo21⟩ := Kd.V_slice HO295.out; subst eo21; have hnb22 := NB308_292.out; have hnc22 := NB292_308.out; obtain ⟨Z23_0, Z23_1, Z23_2, Z23_3, Z23_4, Y23_0, Y23_1, Y23_2, Y23_3, Y23_4⟩ := cells5 BK308; obtain ⟨Ao24, co24, eo24⟩ := Kd.R_slice HO298.out; subst eo24; obtain ⟨Ao25, co25, eo25⟩ := Kd.R_slice HO301.out; subst eo25; obtain ⟨Ao26, co26, eo26⟩ := Kd.R_slice HO304.out; subst eo26) | ((with_reducible refine gate_callee (f := 10) rfl ?_); refine goL (some 25) Tryd.func10 #[] ?_; (with_reducible refine (l11_alive.calls k  true _ m_ ?hmS A7.out).mono ?_); (case hmS => exact (pw_cell_below Bw HM.out)); rintro e w27 ⟨rfl, hb⟩; refine ⟨_, rfl, ?_⟩; have n0_ := Am (Kd.S_below (Sk (Kd.S_mono (Kd.S_far (p := ⟨gb308, 4, none⟩) (Kd.S_far (p := ⟨gb308, 3, none⟩) (Kd.S_far (p := ⟨gb308, 2, none⟩) (Kd.S_far (p := ⟨gb308, 1, none⟩) (Kd.S_far (p := ⟨gb308, 0, none⟩) (Kd.S_types HO279.out BK308.out (by decide)) (fun _ hk => hk.2) (.slice Ao21 t293.length co21)) (fun _ hk => hk.2) (.slice Ao24 t296.length co24)) (fun _ hk => hk.2) (.slice Ao25 t299.length co25)) (fun _ hk => hk.2) (.slice Ao26 t302.length co26)) (fun _ hk => hk.2) (.int .i64 t305)) (fun _ h_ => h_.1))) hb); have n1_ := Am (Kd.R_below (Rk (Kd.R_mono (Kd.R_far (p := ⟨gb308, 4, none⟩) (Kd.R_far (p := ⟨gb308, 3, none⟩) (Kd.R_far (p := ⟨gb308, 2, none⟩) (Kd.R_far (p := ⟨gb308, 1, none⟩) (Kd.R_far (p := ⟨gb308, 0, none⟩) (Kd.R_types HO282.out BK308.out (by decide)) (fun _ hk => hk.2) (.slice Ao21 t293.length co21)) (fun _ hk => hk.2) (.slice Ao24 t296.length co24)) (fun _ hk => hk.2) (.slice Ao25 t299.length co25)) (fun _ hk => hk.2) (.slice Ao26 t302.length co26)) (fun _ hk => hk.2) (.int .i64 t305)) (fun _ h_ => h_.1))) hb); have n2_ := Am (Kd.R_below (Rk (Kd.R_mono (Kd.R_far (p := ⟨gb308, 4, none⟩) (Kd.R_far (p := ⟨gb308, 3, none⟩) (Kd.R_far (p := ⟨gb308, 2, none⟩) (Kd.R_far (p := ⟨gb308, 1, none⟩) (Kd.R_far (p := ⟨gb308, 0, none⟩) (Kd.R_types HO285.out BK308.out (by decide)) (fun _ hk => hk.2) (.slice Ao21 t293.length co21)) (fun _ hk => hk.2) (.slice Ao24 t296.length co24)) (fun _ hk => hk.2) (.slice Ao25 t299.length co25)) (fun _ hk => hk.2) (.slice Ao26 t302.length co26)) (fun _ hk => hk.2) (.int .i64 t305)) (fun _ h_ => h_.1))) hb); have n3_ := Am (Kd.R_below (Rk (Kd.R_mono (Kd.R_far (p := ⟨gb308, 4, none⟩) (Kd.R_far (p := ⟨gb308, 3, none⟩) (Kd.R_far (p := ⟨gb308, 2, none⟩) (Kd.R_far (p := ⟨gb308, 1, none⟩) (Kd.R_far (p := ⟨gb308, 0, none⟩) (Kd.R_types HO288.out BK308.out (by decide)) (fun _ hk => hk.2) (.slice Ao21 t293.length co21)) (fun _ hk => hk.2) (.slice Ao24 t296.length co24)) (fun _ hk => hk.2) (.slice Ao25 t299.length co25)) (fun _ hk => hk.2) (.slice Ao26 t302.length co26)) (fun _ hk => hk.2) (.int .i64 t305)) (fun _ h_ => h_.1))) hb); have n4_ := Am (Kd.V_below (Vk (Kd.V_mono (Kd.V_far (p := ⟨gb308, 4, none⟩) (Kd.V_far (p := ⟨gb308, 3, none⟩) (Kd.V_far (p := ⟨gb308, 2, none⟩) (Kd.V_far (p := ⟨gb308, 1, none⟩) (Kd.V_far (p := ⟨gb308, 0, none⟩) (Kd.V_mono HO295.out (fun k_ hk => (⟨hk, hk.2⟩ : _ ∧ k_ ≠ gb308))) (fun _ hk => hk.2) (.slice Ao21 t293.length co21)) (fun _ hk => hk.2) (.slice Ao24 t296.length co24)) (fun _ hk => hk.2) (.slice Ao25 t299.length co25)) (fun _ hk => hk.2) (.slice Ao26 t302.length co26)) (fun _ hk => hk.2) (.int .i64 t305)) (fun _ h_ => h_.1))) hb); have n5_ := Am (Kd.R_below (Rk (Kd.R_mono (Kd.R_far (p := ⟨gb308, 4, none⟩) (Kd.R_far (p := ⟨gb308, 3, none⟩) (Kd.R_far (p := ⟨gb308, 2, none⟩) (Kd.R_far (p := ⟨gb308, 1, none⟩) (Kd.R_far (p := ⟨gb308, 0, none⟩) (Kd.R_types HO298.out BK308.out (by decide)) (fun _ hk => hk.2) (.slice Ao21 t293.length co21)) (fun _ hk => hk.2) (.slice Ao24 t296.length co24)) (fun _ hk => hk.2) (.slice Ao25 t299.length co25)) (fun _ hk => hk.2) (.slice Ao26 t302.length co26)) (fun _ hk => hk.2) (.int .i64 t305)) (fun _ h_ => h_.1))) hb); have n6_ := Am (Kd.R_below (Rk (Kd.R_mono (Kd.R_far (p := ⟨gb308, 4, none⟩) (Kd.R_far (p := ⟨gb308, 3, none⟩) (Kd.R_far (p := ⟨gb308, 2, none⟩) (Kd.R_far (p := ⟨gb308, 1, none⟩) (Kd.R_far (p := ⟨gb308, 0, none⟩) (Kd.R_types HO301.out BK308.out (by decide)) (fun _ hk => hk.2) (.slice Ao21 t293.length co21)) (fun _ hk => hk.2) (.slice Ao24 t296.length co24)) (fun _ hk => hk.2) (.slice Ao25 t299.length co25)) (fun _ hk => hk.2) (.slice Ao26 t302.length co26)) (fun _ hk => hk.2) (.int .i64 t305)) (fun _ h_ => h_.1))) hb); have n7_ := Am (Kd.R_below (Rk (Kd.R_mono (Kd.R_far (p := ⟨gb308, 4, none⟩) (Kd.R_far (p := ⟨gb308, 3, none⟩) (Kd.R_far (p := ⟨gb308, 2, none⟩) (Kd.R_far (p := ⟨gb308, 1, none⟩) (Kd.R_far (p := ⟨gb308, 0, none⟩) (Kd.R_types HO304.out BK308.out (by decide)) (fun _ hk => hk.2) (.slice Ao21 t293.length co21)) (fun _ hk => hk.2) (.slice Ao24 t296.length co24)) (fun _ hk => hk.2) (.slice Ao25 t299.length co25)) (fun _ hk => hk.2) (.slice Ao26 t302.length co26)) (fun _ hk => hk.2) (.int .i64 t305)) (fun _ h_ => h_.1))) hb); have n8_ := Am (blk_below (g := gb292) (o := .cells #[.slice Ao14 t277.length co14, .slice Ao16 t280.length co16, .slice Ao17 t283.length co17, .slice Ao18 t286.length co18, .int .i64 t289] 25 (0, 0)) (Bf BK292) hb); have n9_ := Am (blk_below (g := gb308) (o := .cells #[.slice Ao21 t293.length co21, .slice Ao24 t296.length co24, .slice Ao25 t299.length co25, .slice Ao26 t302.length co26, .int .i64 t305] 25 (0, 0)) (Bp BK308) hb); have n10_ := Bs hb; clear HO279; clear HO282; clear HO285; clear HO288; clear HO295; clear HO298; clear HO301; clear HO304; clear BK292; clear BK308; clear HB; have HO279 := n0_; have HO282 := n1_; have HO285 := n2_; have HO288 := n3_; have HO295 := n4_; have HO298 := n5_; have HO301 := n6_; have HO304 := n7_; have BK292 := n8_; have BK308 := n9_; have HB := n10_; clear n0_ n1_ n2_ n3_ n4_ n5_ n6_ n7_ n8_ n9_ n10_; (try clear hb); (try clear hb2); (try clear hk); (try clear hi); obtain ⟨Z28_0, Z28_1, Z28_2, Z28_3, Z28_4, Y28_0, Y28_1, Y28_2, Y28_3, Y28_4⟩ := cells5 BK292; obtain ⟨Z29_0, Z29_1, Z29_2, Z29_3, Z29_4, Y29_0, Y29_1, Y29_2, Y29_3, Y29_4⟩ := cells5 BK308) | (go_at_call 15; (with_reducible refine (r11_Same.calls k _ _ t277 _ _ t280 _ _ t283 _ _ t286 t289 _ _ t293 _ _ t296 _ _ t299 _ _ t302 t305 true _ ?side1 ?side2 ?side3 ?side4 ?side5 ?side6 ?side7 ?side8 ?side9 ?side10 ?side11 ?side12 ?side13 ?side14 ?side15 ?side16 A9.out).mono ?_); (case side1 => repeat (first | exact (Kd.S_reads' HO279.out).2.2 | (with_reducible refine Kd.C_alloc ?_ _) | (with_reducible refine Kd.C_drewN ?_ _) | (with_reducible refine Kd.C_drew ?_))); (case side2 => exact (Kd.S_reads' HO279.out).2.1); (case side3 => repeat (first | exact (Kd.R_reads' HO282.out).2.2 | (with_reducible refine Kd.C_alloc ?_ _) | (with_reducible refine Kd.C_drewN ?_ _) | (with_reducible refine Kd.C_drew ?_))); (case side4 => exact (Kd.R_reads' HO282.out).2.1); (case side5 => repeat (first | exact (Kd.R_reads' HO285.out).2.2 | (with_reducible refine Kd.C_alloc ?_ _) | (with_reducible refine Kd.C_drewN ?_ _) | (with_reducible refine Kd.C_drew ?_))); (case side6 => exact (Kd.R_reads' HO285.out).2.1); (case side7 => repeat (first | exact (Kd.R_reads' HO288.out).2.2 | (with_reducible refine Kd.C_alloc ?_ _) | (with_reducible refine Kd.C_drewN ?_ _) | (with_reducible refine Kd.C_drew ?_))); (case side8 => exact (Kd.R_reads' HO288.out).2.1); (case side9 => repeat (first | exact (Kd.V_reads' HO295.out).2.2 | (with_reducible refine Kd.C_alloc ?_ _) | (with_reducible refine Kd.C_drewN ?_ _) | (with_reducible refine Kd.C_drew ?_))); (case side10 => exact (Kd.V_reads' HO295.out).2.1); (case side11 => repeat (first | exact (Kd.R_reads' HO298.out).2.2 | (with_reducible refine Kd.C_alloc ?_ _) | (with_reducible refine Kd.C_drewN ?_ _) | (with_reducible refine Kd.C_drew ?_))); (case side12 => exact (Kd.R_reads' HO298.out).2.1); (case side13 => repeat (first | exact (Kd.R_reads' HO301.out).2.2 | (with_reducible refine Kd.C_alloc ?_ _) | (with_reducible refine Kd.C_drewN ?_ _) | (with_reducible refine Kd.C_drew ?_))); (case side14 => exact (Kd.R_reads' HO301.out).2.1); (case side15 => repeat (first | exact (Kd.R_reads' HO304.out).2.2 | (with_reducible refine Kd.C_alloc ?_ _) | (with_reducible refine Kd.C_drewN ?_ _) | (with_reducible refine Kd.C_drew ?_))); (case side16 => exact (Kd.R_reads' HO304.out).2.1); rintro e w30 ⟨rfl, hb⟩; have n0_ := Am (Kd.S_below (Sk HO279.out) hb); have n1_ := Am (Kd.R_below (Rk HO282.out) hb); have n2_ := Am (Kd.R_below (Rk HO285.out) hb); have n3_ := Am (Kd.R_below (Rk HO288.out) hb); have n4_ := Am (Kd.V_below (Vk HO295.out) hb); have n5_ := Am (Kd.R_below (Rk HO298.out) hb); have n6_ := Am (Kd.R_below (Rk HO301.out) hb); have n7_ := Am (Kd.R_below (Rk HO304.out) hb); have n8_ := Bb BK292 hb; have n9_ := Bb BK308 hb; have n10_ := Bs hb; clear HO279; clear HO282; clear HO285; clear HO288; clear HO295; clear HO298; clear HO301; clear HO304; clear BK292; clear BK308; clear HB; have HO279 := n0_; have HO282 := n1_; have HO285 := n2_; have HO288 := n3_; have HO295 := n4_; have HO298 := n5_; have HO301 := n6_; have HO304 := n7_; have BK292 := n8_; have BK308 := n9_; have HB := n10_; clear n0_ n1_ n2_ n3_ n4_ n5_ n6_ n7_ n8_ n9_ n10_; (try clear hb); (try clear hb2); (try clear hk); (try clear hi)))
    go_ret;exact ⟨Re, Bw⟩
   rw [if_neg c11] at H;have c11b0 : (t290 == t306) = false := beq_eq_false_iff_ne.mpr c11;have c11b1 : (t290 != t306) = true := bne_iff_ne.mpr c11;obtain rfl := si H;go_enter Tryd.func4, Tryd.ntmps4;go_wp2_with (first | ((with_reducible refine gate_callee (f := 13) rfl ?_); refine goL (some 15) Tryd.func13 #[.string a0] ?_; (with_reducible refine (p_Parse.calls k a0 t277 t280 t283 t286 t289 t290 t291 _ m_ ?hmS A5.out).mono ?_); (case hmS => exact (pw_cell_below Bw HM.out)); rintro e w31 ⟨v278, v281, v284, v287, rfl, ho0, ho1, ho2, ho3, hb⟩; refine ⟨_, rfl, ?_⟩; replace HO279 := Am (Kd.S_lower ho0 (below_size Bw)); replace HO282 := Am (Kd.R_lower ho1 (below_size Bw)); replace HO285 := Am (Kd.R_lower ho2 (below_size Bw)); replace HO288 := Am (Kd.R_lower ho3 (below_size Bw)); replace HB := Bs hb; (try clear hb); (try clear hb2); (try clear hk); (try clear hi); (try clear ho0); (try clear ho1); (try clear ho2); (try clear ho3)) | ((with_reducible refine gate_dst (N := 3) rfl ?_); refine boxE 25 3 (cs := #[.slice none 0 0, .slice none 0 0, .slice none 0 0, .slice none 0 0, .int .i64 0]) ?_; intro gb292 hg w32 hbox hb; have n0_ := Am (Kd.S_below (Sk HO279.out) hb); have n1_ := Am (Kd.R_below (Rk HO282.out) hb); have n2_ := Am (Kd.R_below (Rk HO285.out) hb); have n3_ := Am (Kd.R_below (Rk HO288.out) hb); have n4_ := Bs hb; have n5_ := Am (hbox); have n6_ := Am (Gg hg); have n7_ := Am (Gg hg); clear HO279; clear HO282; clear HO285; clear HO288; clear HB; have HO279 := n0_; have HO282 := n1_; have HO285 := n2_; have HO288 := n3_; have HB := n4_; have BK292 := n5_; have GW292 := n6_; have GE292 := n7_; clear n0_ n1_ n2_ n3_ n4_ n5_ n6_ n7_; clear hb hbox hg; obtain ⟨Ao33, co33, eo33⟩ := Kd.S_slice HO279.out; subst eo33; obtain ⟨Z34_0, Z34_1, Z34_2, Z34_3, Z34_4, Y34_0, Y34_1, Y34_2, Y34_3, Y34_4⟩ := cells5 BK292; obtain ⟨Ao35, co35, eo35⟩ := Kd.R_slice HO282.out; subst eo35; obtain ⟨Ao36, co36, eo36⟩ := Kd.R_slice HO285.out; subst eo36; obtain ⟨Ao37, co37, eo37⟩ := Kd.R_slice HO288.out; subst eo37) | ((with_reducible refine gate_callee (f := 14) rfl ?_); refine goL (some 21) Tryd.func14 #[.string a0] ?_; (with_reducible refine (r11_Parse.calls k a0 t293 t296 t299 t302 t305 t306 t307 _ A6.out).mono ?_); rintro e w38 ⟨v294, v297, v300, v303, rfl, ho0, ho1, ho2, ho3, hb⟩; refine ⟨_, rfl, ?_⟩; have n0_ := Am (Kd.S_mono (Kd.S_told (Kd.S_told (Kd.S_told (Kd.S_old (Sk (Kd.S_mono (Kd.S_far (p := ⟨gb292, 4, none⟩) (Kd.S_far (p := ⟨gb292, 3, none⟩) (Kd.S_far (p := ⟨gb292, 2, none⟩) (Kd.S_far (p := ⟨gb292, 1, none⟩) (Kd.S_far (p := ⟨gb292, 0, none⟩) (Kd.S_types HO279.out BK292.out (by decide)) (fun _ hk => hk.2) (.slice Ao33 t277.length co33)) (fun _ hk => hk.2) (.slice Ao35 t280.length co35)) (fun _ hk => hk.2) (.slice Ao36 t283.length co36)) (fun _ hk => hk.2) (.slice Ao37 t286.length co37)) (fun _ hk => hk.2) (.int .i64 t289)) (fun _ h_ => h_.1))) hb) (Kd.R_base ho1)) (Kd.R_base ho2)) (Kd.R_base ho3)) (fun _ h_ => h_.1)); have n1_ := Am (Kd.R_mono (Kd.R_told (Kd.R_told (Kd.R_told (Kd.R_old (Rk (Kd.R_mono (Kd.R_far (p := ⟨gb292, 4, none⟩) (Kd.R_far (p := ⟨gb292, 3, none⟩) (Kd.R_far (p := ⟨gb292, 2, none⟩) (Kd.R_far (p := ⟨gb292, 1, none⟩) (Kd.R_far (p := ⟨gb292, 0, none⟩) (Kd.R_types HO282.out BK292.out (by decide)) (fun _ hk => hk.2) (.slice Ao33 t277.length co33)) (fun _ hk => hk.2) (.slice Ao35 t280.length co35)) (fun _ hk => hk.2) (.slice Ao36 t283.length co36)) (fun _ hk => hk.2) (.slice Ao37 t286.length co37)) (fun _ hk => hk.2) (.int .i64 t289)) (fun _ h_ => h_.1))) hb) (Kd.R_base ho1)) (Kd.R_base ho2)) (Kd.R_base ho3)) (fun _ h_ => h_.1)); have n2_ := Am (Kd.R_mono (Kd.R_told (Kd.R_told (Kd.R_told (Kd.R_old (Rk (Kd.R_mono (Kd.R_far (p := ⟨gb292, 4, none⟩) (Kd.R_far (p := ⟨gb292, 3, none⟩) (Kd.R_far (p := ⟨gb292, 2, none⟩) (Kd.R_far (p := ⟨gb292, 1, none⟩) (Kd.R_far (p := ⟨gb292, 0, none⟩) (Kd.R_types HO285.out BK292.out (by decide)) (fun _ hk => hk.2) (.slice Ao33 t277.length co33)) (fun _ hk => hk.2) (.slice Ao35 t280.length co35)) (fun _ hk => hk.2) (.slice Ao36 t283.length co36)) (fun _ hk => hk.2) (.slice Ao37 t286.length co37)) (fun _ hk => hk.2) (.int .i64 t289)) (fun _ h_ => h_.1))) hb) (Kd.R_base ho1)) (Kd.R_base ho2)) (Kd.R_base ho3)) (fun _ h_ => h_.1)); have n3_ := Am (Kd.R_mono (Kd.R_told (Kd.R_told (Kd.R_told (Kd.R_old (Rk (Kd.R_mono (Kd.R_far (p := ⟨gb292, 4, none⟩) (Kd.R_far (p := ⟨gb292, 3, none⟩) (Kd.R_far (p := ⟨gb292, 2, none⟩) (Kd.R_far (p := ⟨gb292, 1, none⟩) (Kd.R_far (p := ⟨gb292, 0, none⟩) (Kd.R_types HO288.out BK292.out (by decide)) (fun _ hk => hk.2) (.slice Ao33 t277.length co33)) (fun _ hk => hk.2) (.slice Ao35 t280.length co35)) (fun _ hk => hk.2) (.slice Ao36 t283.length co36)) (fun _ hk => hk.2) (.slice Ao37 t286.length co37)) (fun _ hk => hk.2) (.int .i64 t289)) (fun _ h_ => h_.1))) hb) (Kd.R_base ho1)) (Kd.R_base ho2)) (Kd.R_base ho3)) (fun _ h_ => h_.1)); have n4_ := Am (Kd.V_lower (Kd.V_mono (ok' := fun k_ => some k_ ≠ (v297 : Value).ownBlock ∧ some k_ ≠ (v300 : Value).ownBlock ∧ some k_ ≠ (v303 : Value).ownBlock ∧ some k_ ≠ (.slice Ao33 t277.length co33 : Value).ownBlock ∧ some k_ ≠ (.slice Ao35 t280.length co35 : Value).ownBlock ∧ some k_ ≠ (.slice Ao36 t283.length co36 : Value).ownBlock ∧ some k_ ≠ (.slice Ao37 t286.length co37 : Value).ownBlock ∧ k_ ≠ gb292) ho0 (fun k_ hk_ => ⟨hk_.2.1, hk_.2.2.1, hk_.2.2.2, (Kd.fresh' (Kd.S_lt (Sk (Kd.S_mono (Kd.S_far (p := ⟨gb292, 4, none⟩) (Kd.S_far (p := ⟨gb292, 3, none⟩) (Kd.S_far (p := ⟨gb292, 2, none⟩) (Kd.S_far (p := ⟨gb292, 1, none⟩) (Kd.S_far (p := ⟨gb292, 0, none⟩) (Kd.S_types HO279.out BK292.out (by decide)) (fun _ hk => hk.2) (.slice Ao33 t277.length co33)) (fun _ hk => hk.2) (.slice Ao35 t280.length co35)) (fun _ hk => hk.2) (.slice Ao36 t283.length co36)) (fun _ hk => hk.2) (.slice Ao37 t286.length co37)) (fun _ hk => hk.2) (.int .i64 t289)) (fun _ h_ => h_.1)))) k_ hk_.1), (Kd.fresh' (Kd.R_lt (Rk (Kd.R_mono (Kd.R_far (p := ⟨gb292, 4, none⟩) (Kd.R_far (p := ⟨gb292, 3, none⟩) (Kd.R_far (p := ⟨gb292, 2, none⟩) (Kd.R_far (p := ⟨gb292, 1, none⟩) (Kd.R_far (p := ⟨gb292, 0, none⟩) (Kd.R_types HO282.out BK292.out (by decide)) (fun _ hk => hk.2) (.slice Ao33 t277.length co33)) (fun _ hk => hk.2) (.slice Ao35 t280.length co35)) (fun _ hk => hk.2) (.slice Ao36 t283.length co36)) (fun _ hk => hk.2) (.slice Ao37 t286.length co37)) (fun _ hk => hk.2) (.int .i64 t289)) (fun _ h_ => h_.1)))) k_ hk_.1), (Kd.fresh' (Kd.R_lt (Rk (Kd.R_mono (Kd.R_far (p := ⟨gb292, 4, none⟩) (Kd.R_far (p := ⟨gb292, 3, none⟩) (Kd.R_far (p := ⟨gb292, 2, none⟩) (Kd.R_far (p := ⟨gb292, 1, none⟩) (Kd.R_far (p := ⟨gb292, 0, none⟩) (Kd.R_types HO285.out BK292.out (by decide)) (fun _ hk => hk.2) (.slice Ao33 t277.length co33)) (fun _ hk => hk.2) (.slice Ao35 t280.length co35)) (fun _ hk => hk.2) (.slice Ao36 t283.length co36)) (fun _ hk => hk.2) (.slice Ao37 t286.length co37)) (fun _ hk => hk.2) (.int .i64 t289)) (fun _ h_ => h_.1)))) k_ hk_.1), (Kd.fresh' (Kd.R_lt (Rk (Kd.R_mono (Kd.R_far (p := ⟨gb292, 4, none⟩) (Kd.R_far (p := ⟨gb292, 3, none⟩) (Kd.R_far (p := ⟨gb292, 2, none⟩) (Kd.R_far (p := ⟨gb292, 1, none⟩) (Kd.R_far (p := ⟨gb292, 0, none⟩) (Kd.R_types HO288.out BK292.out (by decide)) (fun _ hk => hk.2) (.slice Ao33 t277.length co33)) (fun _ hk => hk.2) (.slice Ao35 t280.length co35)) (fun _ hk => hk.2) (.slice Ao36 t283.length co36)) (fun _ hk => hk.2) (.slice Ao37 t286.length co37)) (fun _ hk => hk.2) (.int .i64 t289)) (fun _ h_ => h_.1)))) k_ hk_.1), (Kd.freshB (g := gb292) (o := .cells #[.slice Ao33 t277.length co33, .slice Ao35 t280.length co35, .slice Ao36 t283.length co36, .slice Ao37 t286.length co37, .int .i64 t289] 25 (0, 0)) (Bp BK292) k_ hk_.1)⟩)) (below_size Bw)); have n5_ := Am (Kd.R_lower (Kd.R_new' (Kd.R_new' (Kd.R_new' (Kd.R_mono (ok' := fun k_ => some k_ ≠ (v300 : Value).ownBlock ∧ some k_ ≠ (v303 : Value).ownBlock) ho1 (fun _ hk_ => hk_.2)) (Kd.R_lt (Rk (Kd.R_mono (Kd.R_far (p := ⟨gb292, 4, none⟩) (Kd.R_far (p := ⟨gb292, 3, none⟩) (Kd.R_far (p := ⟨gb292, 2, none⟩) (Kd.R_far (p := ⟨gb292, 1, none⟩) (Kd.R_far (p := ⟨gb292, 0, none⟩) (Kd.R_types HO282.out BK292.out (by decide)) (fun _ hk => hk.2) (.slice Ao33 t277.length co33)) (fun _ hk => hk.2) (.slice Ao35 t280.length co35)) (fun _ hk => hk.2) (.slice Ao36 t283.length co36)) (fun _ hk => hk.2) (.slice Ao37 t286.length co37)) (fun _ hk => hk.2) (.int .i64 t289)) (fun _ h_ => h_.1))))) (Kd.R_lt (Rk (Kd.R_mono (Kd.R_far (p := ⟨gb292, 4, none⟩) (Kd.R_far (p := ⟨gb292, 3, none⟩) (Kd.R_far (p := ⟨gb292, 2, none⟩) (Kd.R_far (p := ⟨gb292, 1, none⟩) (Kd.R_far (p := ⟨gb292, 0, none⟩) (Kd.R_types HO285.out BK292.out (by decide)) (fun _ hk => hk.2) (.slice Ao33 t277.length co33)) (fun _ hk => hk.2) (.slice Ao35 t280.length co35)) (fun _ hk => hk.2) (.slice Ao36 t283.length co36)) (fun _ hk => hk.2) (.slice Ao37 t286.length co37)) (fun _ hk => hk.2) (.int .i64 t289)) (fun _ h_ => h_.1))))) (Kd.R_lt (Rk (Kd.R_mono (Kd.R_far (p := ⟨gb292, 4, none⟩) (Kd.R_far (p := ⟨gb292, 3, none⟩) (Kd.R_far (p := ⟨gb292, 2, none⟩) (Kd.R_far (p := ⟨gb292, 1, none⟩) (Kd.R_far (p := ⟨gb292, 0, none⟩) (Kd.R_types HO288.out BK292.out (by decide)) (fun _ hk => hk.2) (.slice Ao33 t277.length co33)) (fun _ hk => hk.2) (.slice Ao35 t280.length co35)) (fun _ hk => hk.2) (.slice Ao36 t283.length co36)) (fun _ hk => hk.2) (.slice Ao37 t286.length co37)) (fun _ hk => hk.2) (.int .i64 t289)) (fun _ h_ => h_.1))))) (below_size Bw)); have n6_ := Am (Kd.R_lower (Kd.R_new' (Kd.R_new' (Kd.R_new' (Kd.R_mono (ok' := fun k_ => some k_ ≠ (v297 : Value).ownBlock ∧ some k_ ≠ (v303 : Value).ownBlock) ho2 (fun _ hk_ => hk_.2)) (Kd.R_lt (Rk (Kd.R_mono (Kd.R_far (p := ⟨gb292, 4, none⟩) (Kd.R_far (p := ⟨gb292, 3, none⟩) (Kd.R_far (p := ⟨gb292, 2, none⟩) (Kd.R_far (p := ⟨gb292, 1, none⟩) (Kd.R_far (p := ⟨gb292, 0, none⟩) (Kd.R_types HO282.out BK292.out (by decide)) (fun _ hk => hk.2) (.slice Ao33 t277.length co33)) (fun _ hk => hk.2) (.slice Ao35 t280.length co35)) (fun _ hk => hk.2) (.slice Ao36 t283.length co36)) (fun _ hk => hk.2) (.slice Ao37 t286.length co37)) (fun _ hk => hk.2) (.int .i64 t289)) (fun _ h_ => h_.1))))) (Kd.R_lt (Rk (Kd.R_mono (Kd.R_far (p := ⟨gb292, 4, none⟩) (Kd.R_far (p := ⟨gb292, 3, none⟩) (Kd.R_far (p := ⟨gb292, 2, none⟩) (Kd.R_far (p := ⟨gb292, 1, none⟩) (Kd.R_far (p := ⟨gb292, 0, none⟩) (Kd.R_types HO285.out BK292.out (by decide)) (fun _ hk => hk.2) (.slice Ao33 t277.length co33)) (fun _ hk => hk.2) (.slice Ao35 t280.length co35)) (fun _ hk => hk.2) (.slice Ao36 t283.length co36)) (fun _ hk => hk.2) (.slice Ao37 t286.length co37)) (fun _ hk => hk.2) (.int .i64 t289)) (fun _ h_ => h_.1))))) (Kd.R_lt (Rk (Kd.R_mono (Kd.R_far (p := ⟨gb292, 4, none⟩) (Kd.R_far (p := ⟨gb292, 3, none⟩) (Kd.R_far (p := ⟨gb292, 2, none⟩) (Kd.R_far (p := ⟨gb292, 1, none⟩) (Kd.R_far (p := ⟨gb292, 0, none⟩) (Kd.R_types HO288.out BK292.out (by decide)) (fun _ hk => hk.2) (.slice Ao33 t277.length co33)) (fun _ hk => hk.2) (.slice Ao35 t280.length co35)) (fun _ hk => hk.2) (.slice Ao36 t283.length co36)) (fun _ hk => hk.2) (.slice Ao37 t286.length co37)) (fun _ hk => hk.2) (.int .i64 t289)) (fun _ h_ => h_.1))))) (below_size Bw)); have n7_ := Am (Kd.R_lower (Kd.R_new' (Kd.R_new' (Kd.R_new' (Kd.R_mono (ok' := fun k_ => some k_ ≠ (v297 : Value).ownBlock ∧ some k_ ≠ (v300 : Value).ownBlock) ho3 (fun _ hk_ => hk_.2)) (Kd.R_lt (Rk (Kd.R_mono (Kd.R_far (p := ⟨gb292, 4, none⟩) (Kd.R_far (p := ⟨gb292, 3, none⟩) (Kd.R_far (p := ⟨gb292, 2, none⟩) (Kd.R_far (p := ⟨gb292, 1, none⟩) (Kd.R_far (p := ⟨gb292, 0, none⟩) (Kd.R_types HO282.out BK292.out (by decide)) (fun _ hk => hk.2) (.slice Ao33 t277.length co33)) (fun _ hk => hk.2) (.slice Ao35 t280.length co35)) (fun _ hk => hk.2) (.slice Ao36 t283.length co36)) (fun _ hk => hk.2) (.slice Ao37 t286.length co37)) (fun _ hk => hk.2) (.int .i64 t289)) (fun _ h_ => h_.1))))) (Kd.R_lt (Rk (Kd.R_mono (Kd.R_far (p := ⟨gb292, 4, none⟩) (Kd.R_far (p := ⟨gb292, 3, none⟩) (Kd.R_far (p := ⟨gb292, 2, none⟩) (Kd.R_far (p := ⟨gb292, 1, none⟩) (Kd.R_far (p := ⟨gb292, 0, none⟩) (Kd.R_types HO285.out BK292.out (by decide)) (fun _ hk => hk.2) (.slice Ao33 t277.length co33)) (fun _ hk => hk.2) (.slice Ao35 t280.length co35)) (fun _ hk => hk.2) (.slice Ao36 t283.length co36)) (fun _ hk => hk.2) (.slice Ao37 t286.length co37)) (fun _ hk => hk.2) (.int .i64 t289)) (fun _ h_ => h_.1))))) (Kd.R_lt (Rk (Kd.R_mono (Kd.R_far (p := ⟨gb292, 4, none⟩) (Kd.R_far (p := ⟨gb292, 3, none⟩) (Kd.R_far (p := ⟨gb292, 2, none⟩) (Kd.R_far (p := ⟨gb292, 1, none⟩) (Kd.R_far (p := ⟨gb292, 0, none⟩) (Kd.R_types HO288.out BK292.out (by decide)) (fun _ hk => hk.2) (.slice Ao33 t277.length co33)) (fun _ hk => hk.2) (.slice Ao35 t280.length co35)) (fun _ hk => hk.2) (.slice Ao36 t283.length co36)) (fun _ hk => hk.2) (.slice Ao37 t286.length co37)) (fun _ hk => hk.2) (.int .i64 t289)) (fun _ h_ => h_.1))))) (below_size Bw)); have n8_ := Am (blk_below (g := gb292) (o := .cells #[.slice Ao33 t277.length co33, .slice Ao35 t280.length co35, .slice Ao36 t283.length co36, .slice Ao37 t286.length co37, .int .i64 t289] 25 (0, 0)) (Bp BK292) hb); have n9_ := Bs hb; clear HO279; clear HO282; clear HO285; clear HO288; clear BK292; clear HB; have HO279 := n0_; have HO282 := n1_; have HO285 := n2_; have HO288 := n3_; have HO295 := n4_; have HO298 := n5_; have HO301 := n6_; have HO304 := n7_; have BK292 := n8_; have HB := n9_; clear n0_ n1_ n2_ n3_ n4_ n5_ n6_ n7_ n8_ n9_; (try clear hb); (try clear hb2); (try clear hk); (try clear hi); (try clear ho0); (try clear ho1); (try clear ho2); (try clear ho3)) | ((with_reducible refine gate_dst (N := 6) rfl ?_); refine boxE 25 6 (cs := #[.slice none 0 0, .slice none 0 0, .slice none 0 0, .slice none 0 0, .int .i64 0]) ?_; intro gb308 hg w39 hbox hb; have n0_ := Am (Kd.S_below (Sk HO279.out) hb); have n1_ := Am (Kd.R_below (Rk HO282.out) hb); have n2_ := Am (Kd.R_below (Rk HO285.out) hb); have n3_ := Am (Kd.R_below (Rk HO288.out) hb); have n4_ := Am (Kd.V_below (Kd.V_elderB (Vk HO295.out) gb308 (Nat.le_of_eq hg.symm)) hb); have n5_ := Am (Kd.R_below (Rk HO298.out) hb); have n6_ := Am (Kd.R_below (Rk HO301.out) hb); have n7_ := Am (Kd.R_below (Rk HO304.out) hb); have n8_ := Bb BK292 hb; have n9_ := Bs hb; have n10_ := Am (hbox); have n11_ := Am (Gg hg); have n12_ := Am (Gg hg); have n13_ := Nl hg BK292; have n14_ := Ng hg BK292; clear HO279; clear HO282; clear HO285; clear HO288; clear HO295; clear HO298; clear HO301; clear HO304; clear BK292; clear HB; have HO279 := n0_; have HO282 := n1_; have HO285 := n2_; have HO288 := n3_; have HO295 := n4_; have HO298 := n5_; have HO301 := n6_; have HO304 := n7_; have BK292 := n8_; have HB := n9_; have BK308 := n10_; have GW308 := n11_; have GE308 := n12_; have NB292_308 := n13_; have NB308_292 := n14_; clear n0_ n1_ n2_ n3_ n4_ n5_ n6_ n7_ n8_ n9_ n10_ n11_ n12_ n13_ n14_; clear hb hbox hg; obtain ⟨Ao40, co40, eo40⟩ := Kd.V_slice HO295.out; subst eo40; have hnb41 := NB308_292.out; have hnc41 := NB292_308.out; obtain ⟨Z42_0, Z42_1, Z42_2, Z42_3, Z42_4, Y42_0, Y42_1, Y42_2, Y42_3, Y42_4⟩ := cells5 BK308; obtain ⟨Ao43, co43, eo43⟩ := Kd.R_slice HO298.out; subst eo43; obtain ⟨Ao44, co44, eo44⟩ := Kd.R_slice HO301.out; subst eo44; obtain ⟨Ao45, co45, eo45⟩ := Kd.R_slice HO304.out; subst eo45) | ((with_reducible refine gate_callee (f := 10) rfl ?_); refine goL (some 25) Tryd.func10 #[] ?_; (with_reducible refine (l11_alive.calls k  true _ m_ ?hmS A7.out).mono ?_); (case hmS => exact (pw_cell_below Bw HM.out)); rintro e w46 ⟨rfl, hb⟩; refine ⟨_, rfl, ?_⟩; have n0_ := Am (Kd.S_below (Sk (Kd.S_mono (Kd.S_far (p := ⟨gb308, 4, none⟩) (Kd.S_far (p := ⟨gb308, 3, none⟩) (Kd.S_far (p := ⟨gb308, 2, none⟩) (Kd.S_far (p := ⟨gb308, 1, none⟩) (Kd.S_far (p := ⟨gb308, 0, none⟩) (Kd.S_types HO279.out BK308.out (by decide)) (fun _ hk => hk.2) (.slice Ao40 t293.length co40)) (fun _ hk => hk.2) (.slice Ao43 t296.length co43)) (fun _ hk => hk.2) (.slice Ao44 t299.length co44)) (fun _ hk => hk.2) (.slice Ao45 t302.length co45)) (fun _ hk => hk.2) (.int .i64 t305)) (fun _ h_ => h_.1))) hb); have n1_ := Am (Kd.R_below (Rk (Kd.R_mono (Kd.R_far (p := ⟨gb308, 4, none⟩) (Kd.R_far (p := ⟨gb308, 3, none⟩) (Kd.R_far (p := ⟨gb308, 2, none⟩) (Kd.R_far (p := ⟨gb308, 1, none⟩) (Kd.R_far (p := ⟨gb308, 0, none⟩) (Kd.R_types HO282.out BK308.out (by decide)) (fun _ hk => hk.2) (.slice Ao40 t293.length co40)) (fun _ hk => hk.2) (.slice Ao43 t296.length co43)) (fun _ hk => hk.2) (.slice Ao44 t299.length co44)) (fun _ hk => hk.2) (.slice Ao45 t302.length co45)) (fun _ hk => hk.2) (.int .i64 t305)) (fun _ h_ => h_.1))) hb); have n2_ := Am (Kd.R_below (Rk (Kd.R_mono (Kd.R_far (p := ⟨gb308, 4, none⟩) (Kd.R_far (p := ⟨gb308, 3, none⟩) (Kd.R_far (p := ⟨gb308, 2, none⟩) (Kd.R_far (p := ⟨gb308, 1, none⟩) (Kd.R_far (p := ⟨gb308, 0, none⟩) (Kd.R_types HO285.out BK308.out (by decide)) (fun _ hk => hk.2) (.slice Ao40 t293.length co40)) (fun _ hk => hk.2) (.slice Ao43 t296.length co43)) (fun _ hk => hk.2) (.slice Ao44 t299.length co44)) (fun _ hk => hk.2) (.slice Ao45 t302.length co45)) (fun _ hk => hk.2) (.int .i64 t305)) (fun _ h_ => h_.1))) hb); have n3_ := Am (Kd.R_below (Rk (Kd.R_mono (Kd.R_far (p := ⟨gb308, 4, none⟩) (Kd.R_far (p := ⟨gb308, 3, none⟩) (Kd.R_far (p := ⟨gb308, 2, none⟩) (Kd.R_far (p := ⟨gb308, 1, none⟩) (Kd.R_far (p := ⟨gb308, 0, none⟩) (Kd.R_types HO288.out BK308.out (by decide)) (fun _ hk => hk.2) (.slice Ao40 t293.length co40)) (fun _ hk => hk.2) (.slice Ao43 t296.length co43)) (fun _ hk => hk.2) (.slice Ao44 t299.length co44)) (fun _ hk => hk.2) (.slice Ao45 t302.length co45)) (fun _ hk => hk.2) (.int .i64 t305)) (fun _ h_ => h_.1))) hb); have n4_ := Am (Kd.V_below (Vk (Kd.V_mono (Kd.V_far (p := ⟨gb308, 4, none⟩) (Kd.V_far (p := ⟨gb308, 3, none⟩) (Kd.V_far (p := ⟨gb308, 2, none⟩) (Kd.V_far (p := ⟨gb308, 1, none⟩) (Kd.V_far (p := ⟨gb308, 0, none⟩) (Kd.V_mono HO295.out (fun k_ hk => (⟨hk, hk.2⟩ : _ ∧ k_ ≠ gb308))) (fun _ hk => hk.2) (.slice Ao40 t293.length co40)) (fun _ hk => hk.2) (.slice Ao43 t296.length co43)) (fun _ hk => hk.2) (.slice Ao44 t299.length co44)) (fun _ hk => hk.2) (.slice Ao45 t302.length co45)) (fun _ hk => hk.2) (.int .i64 t305)) (fun _ h_ => h_.1))) hb); have n5_ := Am (Kd.R_below (Rk (Kd.R_mono (Kd.R_far (p := ⟨gb308, 4, none⟩) (Kd.R_far (p := ⟨gb308, 3, none⟩) (Kd.R_far (p := ⟨gb308, 2, none⟩) (Kd.R_far (p := ⟨gb308, 1, none⟩) (Kd.R_far (p := ⟨gb308, 0, none⟩) (Kd.R_types HO298.out BK308.out (by decide)) (fun _ hk => hk.2) (.slice Ao40 t293.length co40)) (fun _ hk => hk.2) (.slice Ao43 t296.length co43)) (fun _ hk => hk.2) (.slice Ao44 t299.length co44)) (fun _ hk => hk.2) (.slice Ao45 t302.length co45)) (fun _ hk => hk.2) (.int .i64 t305)) (fun _ h_ => h_.1))) hb); have n6_ := Am (Kd.R_below (Rk (Kd.R_mono (Kd.R_far (p := ⟨gb308, 4, none⟩) (Kd.R_far (p := ⟨gb308, 3, none⟩) (Kd.R_far (p := ⟨gb308, 2, none⟩) (Kd.R_far (p := ⟨gb308, 1, none⟩) (Kd.R_far (p := ⟨gb308, 0, none⟩) (Kd.R_types HO301.out BK308.out (by decide)) (fun _ hk => hk.2) (.slice Ao40 t293.length co40)) (fun _ hk => hk.2) (.slice Ao43 t296.length co43)) (fun _ hk => hk.2) (.slice Ao44 t299.length co44)) (fun _ hk => hk.2) (.slice Ao45 t302.length co45)) (fun _ hk => hk.2) (.int .i64 t305)) (fun _ h_ => h_.1))) hb); have n7_ := Am (Kd.R_below (Rk (Kd.R_mono (Kd.R_far (p := ⟨gb308, 4, none⟩) (Kd.R_far (p := ⟨gb308, 3, none⟩) (Kd.R_far (p := ⟨gb308, 2, none⟩) (Kd.R_far (p := ⟨gb308, 1, none⟩) (Kd.R_far (p := ⟨gb308, 0, none⟩) (Kd.R_types HO304.out BK308.out (by decide)) (fun _ hk => hk.2) (.slice Ao40 t293.length co40)) (fun _ hk => hk.2) (.slice Ao43 t296.length co43)) (fun _ hk => hk.2) (.slice Ao44 t299.length co44)) (fun _ hk => hk.2) (.slice Ao45 t302.length co45)) (fun _ hk => hk.2) (.int .i64 t305)) (fun _ h_ => h_.1))) hb); have n8_ := Am (blk_below (g := gb292) (o := .cells #[.slice Ao33 t277.length co33, .slice Ao35 t280.length co35, .slice Ao36 t283.length co36, .slice Ao37 t286.length co37, .int .i64 t289] 25 (0, 0)) (Bf BK292) hb); have n9_ := Am (blk_below (g := gb308) (o := .cells #[.slice Ao40 t293.length co40, .slice Ao43 t296.length co43, .slice Ao44 t299.length co44, .slice Ao45 t302.length co45, .int .i64 t305] 25 (0, 0)) (Bp BK308) hb); have n10_ := Bs hb; clear HO279; clear HO282; clear HO285; clear HO288; clear HO295; clear HO298; clear HO301; clear HO304; clear BK292; clear BK308; clear HB; have HO279 := n0_; have HO282 := n1_; have HO285 := n2_; have HO288 := n3_; have HO295 := n4_; have HO298 := n5_; have HO301 := n6_; have HO304 := n7_; have BK292 := n8_; have BK308 := n9_; have HB := n10_; clear n0_ n1_ n2_ n3_ n4_ n5_ n6_ n7_ n8_ n9_ n10_; (try clear hb); (try clear hb2); (try clear hk); (try clear hi); obtain ⟨Z47_0, Z47_1, Z47_2, Z47_3, Z47_4, Y47_0, Y47_1, Y47_2, Y47_3, Y47_4⟩ := cells5 BK292; obtain ⟨Z48_0, Z48_1, Z48_2, Z48_3, Z48_4, Y48_0, Y48_1, Y48_2, Y48_3, Y48_4⟩ := cells5 BK308) | (go_at_call 15; (with_reducible refine (r11_Same.calls k _ _ t277 _ _ t280 _ _ t283 _ _ t286 t289 _ _ t293 _ _ t296 _ _ t299 _ _ t302 t305 true _ ?side1 ?side2 ?side3 ?side4 ?side5 ?side6 ?side7 ?side8 ?side9 ?side10 ?side11 ?side12 ?side13 ?side14 ?side15 ?side16 A9.out).mono ?_); (case side1 => repeat (first | exact (Kd.S_reads' HO279.out).2.2 | (with_reducible refine Kd.C_alloc ?_ _) | (with_reducible refine Kd.C_drewN ?_ _) | (with_reducible refine Kd.C_drew ?_))); (case side2 => exact (Kd.S_reads' HO279.out).2.1); (case side3 => repeat (first | exact (Kd.R_reads' HO282.out).2.2 | (with_reducible refine Kd.C_alloc ?_ _) | (with_reducible refine Kd.C_drewN ?_ _) | (with_reducible refine Kd.C_drew ?_))); (case side4 => exact (Kd.R_reads' HO282.out).2.1); (case side5 => repeat (first | exact (Kd.R_reads' HO285.out).2.2 | (with_reducible refine Kd.C_alloc ?_ _) | (with_reducible refine Kd.C_drewN ?_ _) | (with_reducible refine Kd.C_drew ?_))); (case side6 => exact (Kd.R_reads' HO285.out).2.1); (case side7 => repeat (first | exact (Kd.R_reads' HO288.out).2.2 | (with_reducible refine Kd.C_alloc ?_ _) | (with_reducible refine Kd.C_drewN ?_ _) | (with_reducible refine Kd.C_drew ?_))); (case side8 => exact (Kd.R_reads' HO288.out).2.1); (case side9 => repeat (first | exact (Kd.V_reads' HO295.out).2.2 | (with_reducible refine Kd.C_alloc ?_ _) | (with_reducible refine Kd.C_drewN ?_ _) | (with_reducible refine Kd.C_drew ?_))); (case side10 => exact (Kd.V_reads' HO295.out).2.1); (case side11 => repeat (first | exact (Kd.R_reads' HO298.out).2.2 | (with_reducible refine Kd.C_alloc ?_ _) | (with_reducible refine Kd.C_drewN ?_ _) | (with_reducible refine Kd.C_drew ?_))); (case side12 => exact (Kd.R_reads' HO298.out).2.1); (case side13 => repeat (first | exact (Kd.R_reads' HO301.out).2.2 | (with_reducible refine Kd.C_alloc ?_ _) | (with_reducible refine Kd.C_drewN ?_ _) | (with_reducible refine Kd.C_drew ?_))); (case side14 => exact (Kd.R_reads' HO301.out).2.1); (case side15 => repeat (first | exact (Kd.R_reads' HO304.out).2.2 | (with_reducible refine Kd.C_alloc ?_ _) | (with_reducible refine Kd.C_drewN ?_ _) | (with_reducible refine Kd.C_drew ?_))); (case side16 => exact (Kd.R_reads' HO304.out).2.1); rintro e w49 ⟨rfl, hb⟩; have n0_ := Am (Kd.S_below (Sk HO279.out) hb); have n1_ := Am (Kd.R_below (Rk HO282.out) hb); have n2_ := Am (Kd.R_below (Rk HO285.out) hb); have n3_ := Am (Kd.R_below (Rk HO288.out) hb); have n4_ := Am (Kd.V_below (Vk HO295.out) hb); have n5_ := Am (Kd.R_below (Rk HO298.out) hb); have n6_ := Am (Kd.R_below (Rk HO301.out) hb); have n7_ := Am (Kd.R_below (Rk HO304.out) hb); have n8_ := Bb BK292 hb; have n9_ := Bb BK308 hb; have n10_ := Bs hb; clear HO279; clear HO282; clear HO285; clear HO288; clear HO295; clear HO298; clear HO301; clear HO304; clear BK292; clear BK308; clear HB; have HO279 := n0_; have HO282 := n1_; have HO285 := n2_; have HO288 := n3_; have HO295 := n4_; have HO298 := n5_; have HO301 := n6_; have HO304 := n7_; have BK292 := n8_; have BK308 := n9_; have HB := n10_; clear n0_ n1_ n2_ n3_ n4_ n5_ n6_ n7_ n8_ n9_ n10_; (try clear hb); (try clear hb2); (try clear hk); (try clear hi)))
   go_ret;exact ⟨Re, Bw⟩
  replace c10 := bf c10;subst c10;rw [if_neg (show ¬ (false = true) by decide)] at H;obtain rfl := si H;go_enter Tryd.func4, Tryd.ntmps4;go_wp2_with (first | ((with_reducible refine gate_callee (f := 13) rfl ?_); refine goL (some 15) Tryd.func13 #[.string a0] ?_; (with_reducible refine (p_Parse.calls k a0 t277 t280 t283 t286 t289 t290 t291 _ m_ ?hmS A5.out).mono ?_); (case hmS => exact (pw_cell_below Bw HM.out)); rintro e w50 ⟨v278, v281, v284, v287, rfl, ho0, ho1, ho2, ho3, hb⟩; refine ⟨_, rfl, ?_⟩; replace HO279 := Am (Kd.S_lower ho0 (below_size Bw)); replace HO282 := Am (Kd.R_lower ho1 (below_size Bw)); replace HO285 := Am (Kd.R_lower ho2 (below_size Bw)); replace HO288 := Am (Kd.R_lower ho3 (below_size Bw)); replace HB := Bs hb; (try clear hb); (try clear hb2); (try clear hk); (try clear hi); (try clear ho0); (try clear ho1); (try clear ho2); (try clear ho3)) | ((with_reducible refine gate_dst (N := 3) rfl ?_); refine boxE 25 3 (cs := #[.slice none 0 0, .slice none 0 0, .slice none 0 0, .slice none 0 0, .int .i64 0]) ?_; intro gb292 hg w51 hbox hb; have n0_ := Am (Kd.S_below (Sk HO279.out) hb); have n1_ := Am (Kd.R_below (Rk HO282.out) hb); have n2_ := Am (Kd.R_below (Rk HO285.out) hb); have n3_ := Am (Kd.R_below (Rk HO288.out) hb); have n4_ := Bs hb; have n5_ := Am (hbox); have n6_ := Am (Gg hg); have n7_ := Am (Gg hg); clear HO279; clear HO282; clear HO285; clear HO288; clear HB; have HO279 := n0_; have HO282 := n1_; have HO285 := n2_; have HO288 := n3_; have HB := n4_; have BK292 := n5_; have GW292 := n6_; have GE292 := n7_; clear n0_ n1_ n2_ n3_ n4_ n5_ n6_ n7_; clear hb hbox hg; obtain ⟨Ao52, co52, eo52⟩ := Kd.S_slice HO279.out; subst eo52; obtain ⟨Z53_0, Z53_1, Z53_2, Z53_3, Z53_4, Y53_0, Y53_1, Y53_2, Y53_3, Y53_4⟩ := cells5 BK292; obtain ⟨Ao54, co54, eo54⟩ := Kd.R_slice HO282.out; subst eo54; obtain ⟨Ao55, co55, eo55⟩ := Kd.R_slice HO285.out; subst eo55; obtain ⟨Ao56, co56, eo56⟩ := Kd.R_slice HO288.out; subst eo56) | ((with_reducible refine gate_callee (f := 14) rfl ?_); refine goL (some 21) Tryd.func14 #[.string a0] ?_; (with_reducible refine (r11_Parse.calls k a0 t293 t296 t299 t302 t305 t306 t307 _ A6.out).mono ?_); rintro e w57 ⟨v294, v297, v300, v303, rfl, ho0, ho1, ho2, ho3, hb⟩; refine ⟨_, rfl, ?_⟩; have n0_ := Am (Kd.S_mono (Kd.S_told (Kd.S_told (Kd.S_told (Kd.S_old (Sk (Kd.S_mono (Kd.S_far (p := ⟨gb292, 4, none⟩) (Kd.S_far (p := ⟨gb292, 3, none⟩) (Kd.S_far (p := ⟨gb292, 2, none⟩) (Kd.S_far (p := ⟨gb292, 1, none⟩) (Kd.S_far (p := ⟨gb292, 0, none⟩) (Kd.S_types HO279.out BK292.out (by decide)) (fun _ hk => hk.2) (.slice Ao52 t277.length co52)) (fun _ hk => hk.2) (.slice Ao54 t280.length co54)) (fun _ hk => hk.2) (.slice Ao55 t283.length co55)) (fun _ hk => hk.2) (.slice Ao56 t286.length co56)) (fun _ hk => hk.2) (.int .i64 t289)) (fun _ h_ => h_.1))) hb) (Kd.R_base ho1)) (Kd.R_base ho2)) (Kd.R_base ho3)) (fun _ h_ => h_.1)); have n1_ := Am (Kd.R_mono (Kd.R_told (Kd.R_told (Kd.R_told (Kd.R_old (Rk (Kd.R_mono (Kd.R_far (p := ⟨gb292, 4, none⟩) (Kd.R_far (p := ⟨gb292, 3, none⟩) (Kd.R_far (p := ⟨gb292, 2, none⟩) (Kd.R_far (p := ⟨gb292, 1, none⟩) (Kd.R_far (p := ⟨gb292, 0, none⟩) (Kd.R_types HO282.out BK292.out (by decide)) (fun _ hk => hk.2) (.slice Ao52 t277.length co52)) (fun _ hk => hk.2) (.slice Ao54 t280.length co54)) (fun _ hk => hk.2) (.slice Ao55 t283.length co55)) (fun _ hk => hk.2) (.slice Ao56 t286.length co56)) (fun _ hk => hk.2) (.int .i64 t289)) (fun _ h_ => h_.1))) hb) (Kd.R_base ho1)) (Kd.R_base ho2)) (Kd.R_base ho3)) (fun _ h_ => h_.1)); have n2_ := Am (Kd.R_mono (Kd.R_told (Kd.R_told (Kd.R_told (Kd.R_old (Rk (Kd.R_mono (Kd.R_far (p := ⟨gb292, 4, none⟩) (Kd.R_far (p := ⟨gb292, 3, none⟩) (Kd.R_far (p := ⟨gb292, 2, none⟩) (Kd.R_far (p := ⟨gb292, 1, none⟩) (Kd.R_far (p := ⟨gb292, 0, none⟩) (Kd.R_types HO285.out BK292.out (by decide)) (fun _ hk => hk.2) (.slice Ao52 t277.length co52)) (fun _ hk => hk.2) (.slice Ao54 t280.length co54)) (fun _ hk => hk.2) (.slice Ao55 t283.length co55)) (fun _ hk => hk.2) (.slice Ao56 t286.length co56)) (fun _ hk => hk.2) (.int .i64 t289)) (fun _ h_ => h_.1))) hb) (Kd.R_base ho1)) (Kd.R_base ho2)) (Kd.R_base ho3)) (fun _ h_ => h_.1)); have n3_ := Am (Kd.R_mono (Kd.R_told (Kd.R_told (Kd.R_told (Kd.R_old (Rk (Kd.R_mono (Kd.R_far (p := ⟨gb292, 4, none⟩) (Kd.R_far (p := ⟨gb292, 3, none⟩) (Kd.R_far (p := ⟨gb292, 2, none⟩) (Kd.R_far (p := ⟨gb292, 1, none⟩) (Kd.R_far (p := ⟨gb292, 0, none⟩) (Kd.R_types HO288.out BK292.out (by decide)) (fun _ hk => hk.2) (.slice Ao52 t277.length co52)) (fun _ hk => hk.2) (.slice Ao54 t280.length co54)) (fun _ hk => hk.2) (.slice Ao55 t283.length co55)) (fun _ hk => hk.2) (.slice Ao56 t286.length co56)) (fun _ hk => hk.2) (.int .i64 t289)) (fun _ h_ => h_.1))) hb) (Kd.R_base ho1)) (Kd.R_base ho2)) (Kd.R_base ho3)) (fun _ h_ => h_.1)); have n4_ := Am (Kd.V_lower (Kd.V_mono (ok' := fun k_ => some k_ ≠ (v297 : Value).ownBlock ∧ some k_ ≠ (v300 : Value).ownBlock ∧ some k_ ≠ (v303 : Value).ownBlock ∧ some k_ ≠ (.slice Ao52 t277.length co52 : Value).ownBlock ∧ some k_ ≠ (.slice Ao54 t280.length co54 : Value).ownBlock ∧ some k_ ≠ (.slice Ao55 t283.length co55 : Value).ownBlock ∧ some k_ ≠ (.slice Ao56 t286.length co56 : Value).ownBlock ∧ k_ ≠ gb292) ho0 (fun k_ hk_ => ⟨hk_.2.1, hk_.2.2.1, hk_.2.2.2, (Kd.fresh' (Kd.S_lt (Sk (Kd.S_mono (Kd.S_far (p := ⟨gb292, 4, none⟩) (Kd.S_far (p := ⟨gb292, 3, none⟩) (Kd.S_far (p := ⟨gb292, 2, none⟩) (Kd.S_far (p := ⟨gb292, 1, none⟩) (Kd.S_far (p := ⟨gb292, 0, none⟩) (Kd.S_types HO279.out BK292.out (by decide)) (fun _ hk => hk.2) (.slice Ao52 t277.length co52)) (fun _ hk => hk.2) (.slice Ao54 t280.length co54)) (fun _ hk => hk.2) (.slice Ao55 t283.length co55)) (fun _ hk => hk.2) (.slice Ao56 t286.length co56)) (fun _ hk => hk.2) (.int .i64 t289)) (fun _ h_ => h_.1)))) k_ hk_.1), (Kd.fresh' (Kd.R_lt (Rk (Kd.R_mono (Kd.R_far (p := ⟨gb292, 4, none⟩) (Kd.R_far (p := ⟨gb292, 3, none⟩) (Kd.R_far (p := ⟨gb292, 2, none⟩) (Kd.R_far (p := ⟨gb292, 1, none⟩) (Kd.R_far (p := ⟨gb292, 0, none⟩) (Kd.R_types HO282.out BK292.out (by decide)) (fun _ hk => hk.2) (.slice Ao52 t277.length co52)) (fun _ hk => hk.2) (.slice Ao54 t280.length co54)) (fun _ hk => hk.2) (.slice Ao55 t283.length co55)) (fun _ hk => hk.2) (.slice Ao56 t286.length co56)) (fun _ hk => hk.2) (.int .i64 t289)) (fun _ h_ => h_.1)))) k_ hk_.1), (Kd.fresh' (Kd.R_lt (Rk (Kd.R_mono (Kd.R_far (p := ⟨gb292, 4, none⟩) (Kd.R_far (p := ⟨gb292, 3, none⟩) (Kd.R_far (p := ⟨gb292, 2, none⟩) (Kd.R_far (p := ⟨gb292, 1, none⟩) (Kd.R_far (p := ⟨gb292, 0, none⟩) (Kd.R_types HO285.out BK292.out (by decide)) (fun _ hk => hk.2) (.slice Ao52 t277.length co52)) (fun _ hk => hk.2) (.slice Ao54 t280.length co54)) (fun _ hk => hk.2) (.slice Ao55 t283.length co55)) (fun _ hk => hk.2) (.slice Ao56 t286.length co56)) (fun _ hk => hk.2) (.int .i64 t289)) (fun _ h_ => h_.1)))) k_ hk_.1), (Kd.fresh' (Kd.R_lt (Rk (Kd.R_mono (Kd.R_far (p := ⟨gb292, 4, none⟩) (Kd.R_far (p := ⟨gb292, 3, none⟩) (Kd.R_far (p := ⟨gb292, 2, none⟩) (Kd.R_far (p := ⟨gb292, 1, none⟩) (Kd.R_far (p := ⟨gb292, 0, none⟩) (Kd.R_types HO288.out BK292.out (by decide)) (fun _ hk => hk.2) (.slice Ao52 t277.length co52)) (fun _ hk => hk.2) (.slice Ao54 t280.length co54)) (fun _ hk => hk.2) (.slice Ao55 t283.length co55)) (fun _ hk => hk.2) (.slice Ao56 t286.length co56)) (fun _ hk => hk.2) (.int .i64 t289)) (fun _ h_ => h_.1)))) k_ hk_.1), (Kd.freshB (g := gb292) (o := .cells #[.slice Ao52 t277.length co52, .slice Ao54 t280.length co54, .slice Ao55 t283.length co55, .slice Ao56 t286.length co56, .int .i64 t289] 25 (0, 0)) (Bp BK292) k_ hk_.1)⟩)) (below_size Bw)); have n5_ := Am (Kd.R_lower (Kd.R_new' (Kd.R_new' (Kd.R_new' (Kd.R_mono (ok' := fun k_ => some k_ ≠ (v300 : Value).ownBlock ∧ some k_ ≠ (v303 : Value).ownBlock) ho1 (fun _ hk_ => hk_.2)) (Kd.R_lt (Rk (Kd.R_mono (Kd.R_far (p := ⟨gb292, 4, none⟩) (Kd.R_far (p := ⟨gb292, 3, none⟩) (Kd.R_far (p := ⟨gb292, 2, none⟩) (Kd.R_far (p := ⟨gb292, 1, none⟩) (Kd.R_far (p := ⟨gb292, 0, none⟩) (Kd.R_types HO282.out BK292.out (by decide)) (fun _ hk => hk.2) (.slice Ao52 t277.length co52)) (fun _ hk => hk.2) (.slice Ao54 t280.length co54)) (fun _ hk => hk.2) (.slice Ao55 t283.length co55)) (fun _ hk => hk.2) (.slice Ao56 t286.length co56)) (fun _ hk => hk.2) (.int .i64 t289)) (fun _ h_ => h_.1))))) (Kd.R_lt (Rk (Kd.R_mono (Kd.R_far (p := ⟨gb292, 4, none⟩) (Kd.R_far (p := ⟨gb292, 3, none⟩) (Kd.R_far (p := ⟨gb292, 2, none⟩) (Kd.R_far (p := ⟨gb292, 1, none⟩) (Kd.R_far (p := ⟨gb292, 0, none⟩) (Kd.R_types HO285.out BK292.out (by decide)) (fun _ hk => hk.2) (.slice Ao52 t277.length co52)) (fun _ hk => hk.2) (.slice Ao54 t280.length co54)) (fun _ hk => hk.2) (.slice Ao55 t283.length co55)) (fun _ hk => hk.2) (.slice Ao56 t286.length co56)) (fun _ hk => hk.2) (.int .i64 t289)) (fun _ h_ => h_.1))))) (Kd.R_lt (Rk (Kd.R_mono (Kd.R_far (p := ⟨gb292, 4, none⟩) (Kd.R_far (p := ⟨gb292, 3, none⟩) (Kd.R_far (p := ⟨gb292, 2, none⟩) (Kd.R_far (p := ⟨gb292, 1, none⟩) (Kd.R_far (p := ⟨gb292, 0, none⟩) (Kd.R_types HO288.out BK292.out (by decide)) (fun _ hk => hk.2) (.slice Ao52 t277.length co52)) (fun _ hk => hk.2) (.slice Ao54 t280.length co54)) (fun _ hk => hk.2) (.slice Ao55 t283.length co55)) (fun _ hk => hk.2) (.slice Ao56 t286.length co56)) (fun _ hk => hk.2) (.int .i64 t289)) (fun _ h_ => h_.1))))) (below_size Bw)); have n6_ := Am (Kd.R_lower (Kd.R_new' (Kd.R_new' (Kd.R_new' (Kd.R_mono (ok' := fun k_ => some k_ ≠ (v297 : Value).ownBlock ∧ some k_ ≠ (v303 : Value).ownBlock) ho2 (fun _ hk_ => hk_.2)) (Kd.R_lt (Rk (Kd.R_mono (Kd.R_far (p := ⟨gb292, 4, none⟩) (Kd.R_far (p := ⟨gb292, 3, none⟩) (Kd.R_far (p := ⟨gb292, 2, none⟩) (Kd.R_far (p := ⟨gb292, 1, none⟩) (Kd.R_far (p := ⟨gb292, 0, none⟩) (Kd.R_types HO282.out BK292.out (by decide)) (fun _ hk => hk.2) (.slice Ao52 t277.length co52)) (fun _ hk => hk.2) (.slice Ao54 t280.length co54)) (fun _ hk => hk.2) (.slice Ao55 t283.length co55)) (fun _ hk => hk.2) (.slice Ao56 t286.length co56)) (fun _ hk => hk.2) (.int .i64 t289)) (fun _ h_ => h_.1))))) (Kd.R_lt (Rk (Kd.R_mono (Kd.R_far (p := ⟨gb292, 4, none⟩) (Kd.R_far (p := ⟨gb292, 3, none⟩) (Kd.R_far (p := ⟨gb292, 2, none⟩) (Kd.R_far (p := ⟨gb292, 1, none⟩) (Kd.R_far (p := ⟨gb292, 0, none⟩) (Kd.R_types HO285.out BK292.out (by decide)) (fun _ hk => hk.2) (.slice Ao52 t277.length co52)) (fun _ hk => hk.2) (.slice Ao54 t280.length co54)) (fun _ hk => hk.2) (.slice Ao55 t283.length co55)) (fun _ hk => hk.2) (.slice Ao56 t286.length co56)) (fun _ hk => hk.2) (.int .i64 t289)) (fun _ h_ => h_.1))))) (Kd.R_lt (Rk (Kd.R_mono (Kd.R_far (p := ⟨gb292, 4, none⟩) (Kd.R_far (p := ⟨gb292, 3, none⟩) (Kd.R_far (p := ⟨gb292, 2, none⟩) (Kd.R_far (p := ⟨gb292, 1, none⟩) (Kd.R_far (p := ⟨gb292, 0, none⟩) (Kd.R_types HO288.out BK292.out (by decide)) (fun _ hk => hk.2) (.slice Ao52 t277.length co52)) (fun _ hk => hk.2) (.slice Ao54 t280.length co54)) (fun _ hk => hk.2) (.slice Ao55 t283.length co55)) (fun _ hk => hk.2) (.slice Ao56 t286.length co56)) (fun _ hk => hk.2) (.int .i64 t289)) (fun _ h_ => h_.1))))) (below_size Bw)); have n7_ := Am (Kd.R_lower (Kd.R_new' (Kd.R_new' (Kd.R_new' (Kd.R_mono (ok' := fun k_ => some k_ ≠ (v297 : Value).ownBlock ∧ some k_ ≠ (v300 : Value).ownBlock) ho3 (fun _ hk_ => hk_.2)) (Kd.R_lt (Rk (Kd.R_mono (Kd.R_far (p := ⟨gb292, 4, none⟩) (Kd.R_far (p := ⟨gb292, 3, none⟩) (Kd.R_far (p := ⟨gb292, 2, none⟩) (Kd.R_far (p := ⟨gb292, 1, none⟩) (Kd.R_far (p := ⟨gb292, 0, none⟩) (Kd.R_types HO282.out BK292.out (by decide)) (fun _ hk => hk.2) (.slice Ao52 t277.length co52)) (fun _ hk => hk.2) (.slice Ao54 t280.length co54)) (fun _ hk => hk.2) (.slice Ao55 t283.length co55)) (fun _ hk => hk.2) (.slice Ao56 t286.length co56)) (fun _ hk => hk.2) (.int .i64 t289)) (fun _ h_ => h_.1))))) (Kd.R_lt (Rk (Kd.R_mono (Kd.R_far (p := ⟨gb292, 4, none⟩) (Kd.R_far (p := ⟨gb292, 3, none⟩) (Kd.R_far (p := ⟨gb292, 2, none⟩) (Kd.R_far (p := ⟨gb292, 1, none⟩) (Kd.R_far (p := ⟨gb292, 0, none⟩) (Kd.R_types HO285.out BK292.out (by decide)) (fun _ hk => hk.2) (.slice Ao52 t277.length co52)) (fun _ hk => hk.2) (.slice Ao54 t280.length co54)) (fun _ hk => hk.2) (.slice Ao55 t283.length co55)) (fun _ hk => hk.2) (.slice Ao56 t286.length co56)) (fun _ hk => hk.2) (.int .i64 t289)) (fun _ h_ => h_.1))))) (Kd.R_lt (Rk (Kd.R_mono (Kd.R_far (p := ⟨gb292, 4, none⟩) (Kd.R_far (p := ⟨gb292, 3, none⟩) (Kd.R_far (p := ⟨gb292, 2, none⟩) (Kd.R_far (p := ⟨gb292, 1, none⟩) (Kd.R_far (p := ⟨gb292, 0, none⟩) (Kd.R_types HO288.out BK292.out (by decide)) (fun _ hk => hk.2) (.slice Ao52 t277.length co52)) (fun _ hk => hk.2) (.slice Ao54 t280.length co54)) (fun _ hk => hk.2) (.slice Ao55 t283.length co55)) (fun _ hk => hk.2) (.slice Ao56 t286.length co56)) (fun _ hk => hk.2) (.int .i64 t289)) (fun _ h_ => h_.1))))) (below_size Bw)); have n8_ := Am (blk_below (g := gb292) (o := .cells #[.slice Ao52 t277.length co52, .slice Ao54 t280.length co54, .slice Ao55 t283.length co55, .slice Ao56 t286.length co56, .int .i64 t289] 25 (0, 0)) (Bp BK292) hb); have n9_ := Bs hb; clear HO279; clear HO282; clear HO285; clear HO288; clear BK292; clear HB; have HO279 := n0_; have HO282 := n1_; have HO285 := n2_; have HO288 := n3_; have HO295 := n4_; have HO298 := n5_; have HO301 := n6_; have HO304 := n7_; have BK292 := n8_; have HB := n9_; clear n0_ n1_ n2_ n3_ n4_ n5_ n6_ n7_ n8_ n9_; (try clear hb); (try clear hb2); (try clear hk); (try clear hi); (try clear ho0); (try clear ho1); (try clear ho2); (try clear ho3)) | ((with_reducible refine gate_dst (N := 6) rfl ?_); refine boxE 25 6 (cs := #[.slice none 0 0, .slice none 0 0, .slice none 0 0, .slice none 0 0, .int .i64 0]) ?_; intro gb308 hg w58 hbox hb; have n0_ := Am (Kd.S_below (Sk HO279.out) hb); have n1_ := Am (Kd.R_below (Rk HO282.out) hb); have n2_ := Am (Kd.R_below (Rk HO285.out) hb); have n3_ := Am (Kd.R_below (Rk HO288.out) hb); have n4_ := Am (Kd.V_below (Kd.V_elderB (Vk HO295.out) gb308 (Nat.le_of_eq hg.symm)) hb); have n5_ := Am (Kd.R_below (Rk HO298.out) hb); have n6_ := Am (Kd.R_below (Rk HO301.out) hb); have n7_ := Am (Kd.R_below (Rk HO304.out) hb); have n8_ := Bb BK292 hb; have n9_ := Bs hb; have n10_ := Am (hbox); have n11_ := Am (Gg hg); have n12_ := Am (Gg hg); have n13_ := Nl hg BK292; have n14_ := Ng hg BK292; clear HO279; clear HO282; clear HO285; clear HO288; clear HO295; clear HO298; clear HO301; clear HO304; clear BK292; clear HB; have HO279 := n0_; have HO282 := n1_; have HO285 := n2_; have HO288 := n3_; have HO295 := n4_; have HO298 := n5_; have HO301 := n6_; have HO304 := n7_; have BK292 := n8_; have HB := n9_; have BK308 := n10_; have GW308 := n11_; have GE308 := n12_; have NB292_308 := n13_; have NB308_292 := n14_; clear n0_ n1_ n2_ n3_ n4_ n5_ n6_ n7_ n8_ n9_ n10_ n11_ n12_ n13_ n14_; clear hb hbox hg; obtain ⟨Ao59, co59, eo59⟩ := Kd.V_slice HO295.out; subst eo59; have hnb60 := NB308_292.out; have hnc60 := NB292_308.out; obtain ⟨Z61_0, Z61_1, Z61_2, Z61_3, Z61_4, Y61_0, Y61_1, Y61_2, Y61_3, Y61_4⟩ := cells5 BK308; obtain ⟨Ao62, co62, eo62⟩ := Kd.R_slice HO298.out; subst eo62; obtain ⟨Ao63, co63, eo63⟩ := Kd.R_slice HO301.out; subst eo63; obtain ⟨Ao64, co64, eo64⟩ := Kd.R_slice HO304.out; subst eo64) | ((with_reducible refine gate_callee (f := 10) rfl ?_); refine goL (some 25) Tryd.func10 #[] ?_; (with_reducible refine (l11_alive.calls k  true _ m_ ?hmS A7.out).mono ?_); (case hmS => exact (pw_cell_below Bw HM.out)); rintro e w65 ⟨rfl, hb⟩; refine ⟨_, rfl, ?_⟩; have n0_ := Am (Kd.S_below (Sk (Kd.S_mono (Kd.S_far (p := ⟨gb308, 4, none⟩) (Kd.S_far (p := ⟨gb308, 3, none⟩) (Kd.S_far (p := ⟨gb308, 2, none⟩) (Kd.S_far (p := ⟨gb308, 1, none⟩) (Kd.S_far (p := ⟨gb308, 0, none⟩) (Kd.S_types HO279.out BK308.out (by decide)) (fun _ hk => hk.2) (.slice Ao59 t293.length co59)) (fun _ hk => hk.2) (.slice Ao62 t296.length co62)) (fun _ hk => hk.2) (.slice Ao63 t299.length co63)) (fun _ hk => hk.2) (.slice Ao64 t302.length co64)) (fun _ hk => hk.2) (.int .i64 t305)) (fun _ h_ => h_.1))) hb); have n1_ := Am (Kd.R_below (Rk (Kd.R_mono (Kd.R_far (p := ⟨gb308, 4, none⟩) (Kd.R_far (p := ⟨gb308, 3, none⟩) (Kd.R_far (p := ⟨gb308, 2, none⟩) (Kd.R_far (p := ⟨gb308, 1, none⟩) (Kd.R_far (p := ⟨gb308, 0, none⟩) (Kd.R_types HO282.out BK308.out (by decide)) (fun _ hk => hk.2) (.slice Ao59 t293.length co59)) (fun _ hk => hk.2) (.slice Ao62 t296.length co62)) (fun _ hk => hk.2) (.slice Ao63 t299.length co63)) (fun _ hk => hk.2) (.slice Ao64 t302.length co64)) (fun _ hk => hk.2) (.int .i64 t305)) (fun _ h_ => h_.1))) hb); have n2_ := Am (Kd.R_below (Rk (Kd.R_mono (Kd.R_far (p := ⟨gb308, 4, none⟩) (Kd.R_far (p := ⟨gb308, 3, none⟩) (Kd.R_far (p := ⟨gb308, 2, none⟩) (Kd.R_far (p := ⟨gb308, 1, none⟩) (Kd.R_far (p := ⟨gb308, 0, none⟩) (Kd.R_types HO285.out BK308.out (by decide)) (fun _ hk => hk.2) (.slice Ao59 t293.length co59)) (fun _ hk => hk.2) (.slice Ao62 t296.length co62)) (fun _ hk => hk.2) (.slice Ao63 t299.length co63)) (fun _ hk => hk.2) (.slice Ao64 t302.length co64)) (fun _ hk => hk.2) (.int .i64 t305)) (fun _ h_ => h_.1))) hb); have n3_ := Am (Kd.R_below (Rk (Kd.R_mono (Kd.R_far (p := ⟨gb308, 4, none⟩) (Kd.R_far (p := ⟨gb308, 3, none⟩) (Kd.R_far (p := ⟨gb308, 2, none⟩) (Kd.R_far (p := ⟨gb308, 1, none⟩) (Kd.R_far (p := ⟨gb308, 0, none⟩) (Kd.R_types HO288.out BK308.out (by decide)) (fun _ hk => hk.2) (.slice Ao59 t293.length co59)) (fun _ hk => hk.2) (.slice Ao62 t296.length co62)) (fun _ hk => hk.2) (.slice Ao63 t299.length co63)) (fun _ hk => hk.2) (.slice Ao64 t302.length co64)) (fun _ hk => hk.2) (.int .i64 t305)) (fun _ h_ => h_.1))) hb); have n4_ := Am (Kd.V_below (Vk (Kd.V_mono (Kd.V_far (p := ⟨gb308, 4, none⟩) (Kd.V_far (p := ⟨gb308, 3, none⟩) (Kd.V_far (p := ⟨gb308, 2, none⟩) (Kd.V_far (p := ⟨gb308, 1, none⟩) (Kd.V_far (p := ⟨gb308, 0, none⟩) (Kd.V_mono HO295.out (fun k_ hk => (⟨hk, hk.2⟩ : _ ∧ k_ ≠ gb308))) (fun _ hk => hk.2) (.slice Ao59 t293.length co59)) (fun _ hk => hk.2) (.slice Ao62 t296.length co62)) (fun _ hk => hk.2) (.slice Ao63 t299.length co63)) (fun _ hk => hk.2) (.slice Ao64 t302.length co64)) (fun _ hk => hk.2) (.int .i64 t305)) (fun _ h_ => h_.1))) hb); have n5_ := Am (Kd.R_below (Rk (Kd.R_mono (Kd.R_far (p := ⟨gb308, 4, none⟩) (Kd.R_far (p := ⟨gb308, 3, none⟩) (Kd.R_far (p := ⟨gb308, 2, none⟩) (Kd.R_far (p := ⟨gb308, 1, none⟩) (Kd.R_far (p := ⟨gb308, 0, none⟩) (Kd.R_types HO298.out BK308.out (by decide)) (fun _ hk => hk.2) (.slice Ao59 t293.length co59)) (fun _ hk => hk.2) (.slice Ao62 t296.length co62)) (fun _ hk => hk.2) (.slice Ao63 t299.length co63)) (fun _ hk => hk.2) (.slice Ao64 t302.length co64)) (fun _ hk => hk.2) (.int .i64 t305)) (fun _ h_ => h_.1))) hb); have n6_ := Am (Kd.R_below (Rk (Kd.R_mono (Kd.R_far (p := ⟨gb308, 4, none⟩) (Kd.R_far (p := ⟨gb308, 3, none⟩) (Kd.R_far (p := ⟨gb308, 2, none⟩) (Kd.R_far (p := ⟨gb308, 1, none⟩) (Kd.R_far (p := ⟨gb308, 0, none⟩) (Kd.R_types HO301.out BK308.out (by decide)) (fun _ hk => hk.2) (.slice Ao59 t293.length co59)) (fun _ hk => hk.2) (.slice Ao62 t296.length co62)) (fun _ hk => hk.2) (.slice Ao63 t299.length co63)) (fun _ hk => hk.2) (.slice Ao64 t302.length co64)) (fun _ hk => hk.2) (.int .i64 t305)) (fun _ h_ => h_.1))) hb); have n7_ := Am (Kd.R_below (Rk (Kd.R_mono (Kd.R_far (p := ⟨gb308, 4, none⟩) (Kd.R_far (p := ⟨gb308, 3, none⟩) (Kd.R_far (p := ⟨gb308, 2, none⟩) (Kd.R_far (p := ⟨gb308, 1, none⟩) (Kd.R_far (p := ⟨gb308, 0, none⟩) (Kd.R_types HO304.out BK308.out (by decide)) (fun _ hk => hk.2) (.slice Ao59 t293.length co59)) (fun _ hk => hk.2) (.slice Ao62 t296.length co62)) (fun _ hk => hk.2) (.slice Ao63 t299.length co63)) (fun _ hk => hk.2) (.slice Ao64 t302.length co64)) (fun _ hk => hk.2) (.int .i64 t305)) (fun _ h_ => h_.1))) hb); have n8_ := Am (blk_below (g := gb292) (o := .cells #[.slice Ao52 t277.length co52, .slice Ao54 t280.length co54, .slice Ao55 t283.length co55, .slice Ao56 t286.length co56, .int .i64 t289] 25 (0, 0)) (Bf BK292) hb); have n9_ := Am (blk_below (g := gb308) (o := .cells #[.slice Ao59 t293.length co59, .slice Ao62 t296.length co62, .slice Ao63 t299.length co63, .slice Ao64 t302.length co64, .int .i64 t305] 25 (0, 0)) (Bp BK308) hb); have n10_ := Bs hb; clear HO279; clear HO282; clear HO285; clear HO288; clear HO295; clear HO298; clear HO301; clear HO304; clear BK292; clear BK308; clear HB; have HO279 := n0_; have HO282 := n1_; have HO285 := n2_; have HO288 := n3_; have HO295 := n4_; have HO298 := n5_; have HO301 := n6_; have HO304 := n7_; have BK292 := n8_; have BK308 := n9_; have HB := n10_; clear n0_ n1_ n2_ n3_ n4_ n5_ n6_ n7_ n8_ n9_ n10_; (try clear hb); (try clear hb2); (try clear hk); (try clear hi); obtain ⟨Z66_0, Z66_1, Z66_2, Z66_3, Z66_4, Y66_0, Y66_1, Y66_2, Y66_3, Y66_4⟩ := cells5 BK292; obtain ⟨Z67_0, Z67_1, Z67_2, Z67_3, Z67_4, Y67_0, Y67_1, Y67_2, Y67_3, Y67_4⟩ := cells5 BK308) | (go_at_call 15; (with_reducible refine (r11_Same.calls k _ _ t277 _ _ t280 _ _ t283 _ _ t286 t289 _ _ t293 _ _ t296 _ _ t299 _ _ t302 t305 false _ ?side1 ?side2 ?side3 ?side4 ?side5 ?side6 ?side7 ?side8 ?side9 ?side10 ?side11 ?side12 ?side13 ?side14 ?side15 ?side16 A9.out).mono ?_); (case side1 => repeat (first | exact (Kd.S_reads' HO279.out).2.2 | (with_reducible refine Kd.C_alloc ?_ _) | (with_reducible refine Kd.C_drewN ?_ _) | (with_reducible refine Kd.C_drew ?_))); (case side2 => exact (Kd.S_reads' HO279.out).2.1); (case side3 => repeat (first | exact (Kd.R_reads' HO282.out).2.2 | (with_reducible refine Kd.C_alloc ?_ _) | (with_reducible refine Kd.C_drewN ?_ _) | (with_reducible refine Kd.C_drew ?_))); (case side4 => exact (Kd.R_reads' HO282.out).2.1); (case side5 => repeat (first | exact (Kd.R_reads' HO285.out).2.2 | (with_reducible refine Kd.C_alloc ?_ _) | (with_reducible refine Kd.C_drewN ?_ _) | (with_reducible refine Kd.C_drew ?_))); (case side6 => exact (Kd.R_reads' HO285.out).2.1); (case side7 => repeat (first | exact (Kd.R_reads' HO288.out).2.2 | (with_reducible refine Kd.C_alloc ?_ _) | (with_reducible refine Kd.C_drewN ?_ _) | (with_reducible refine Kd.C_drew ?_))); (case side8 => exact (Kd.R_reads' HO288.out).2.1); (case side9 => repeat (first | exact (Kd.V_reads' HO295.out).2.2 | (with_reducible refine Kd.C_alloc ?_ _) | (with_reducible refine Kd.C_drewN ?_ _) | (with_reducible refine Kd.C_drew ?_))); (case side10 => exact (Kd.V_reads' HO295.out).2.1); (case side11 => repeat (first | exact (Kd.R_reads' HO298.out).2.2 | (with_reducible refine Kd.C_alloc ?_ _) | (with_reducible refine Kd.C_drewN ?_ _) | (with_reducible refine Kd.C_drew ?_))); (case side12 => exact (Kd.R_reads' HO298.out).2.1); (case side13 => repeat (first | exact (Kd.R_reads' HO301.out).2.2 | (with_reducible refine Kd.C_alloc ?_ _) | (with_reducible refine Kd.C_drewN ?_ _) | (with_reducible refine Kd.C_drew ?_))); (case side14 => exact (Kd.R_reads' HO301.out).2.1); (case side15 => repeat (first | exact (Kd.R_reads' HO304.out).2.2 | (with_reducible refine Kd.C_alloc ?_ _) | (with_reducible refine Kd.C_drewN ?_ _) | (with_reducible refine Kd.C_drew ?_))); (case side16 => exact (Kd.R_reads' HO304.out).2.1); rintro e w68 ⟨rfl, hb⟩; have n0_ := Am (Kd.S_below (Sk HO279.out) hb); have n1_ := Am (Kd.R_below (Rk HO282.out) hb); have n2_ := Am (Kd.R_below (Rk HO285.out) hb); have n3_ := Am (Kd.R_below (Rk HO288.out) hb); have n4_ := Am (Kd.V_below (Vk HO295.out) hb); have n5_ := Am (Kd.R_below (Rk HO298.out) hb); have n6_ := Am (Kd.R_below (Rk HO301.out) hb); have n7_ := Am (Kd.R_below (Rk HO304.out) hb); have n8_ := Bb BK292 hb; have n9_ := Bb BK308 hb; have n10_ := Bs hb; clear HO279; clear HO282; clear HO285; clear HO288; clear HO295; clear HO298; clear HO301; clear HO304; clear BK292; clear BK308; clear HB; have HO279 := n0_; have HO282 := n1_; have HO285 := n2_; have HO288 := n3_; have HO295 := n4_; have HO298 := n5_; have HO301 := n6_; have HO304 := n7_; have BK292 := n8_; have BK308 := n9_; have HB := n10_; clear n0_ n1_ n2_ n3_ n4_ n5_ n6_ n7_ n8_ n9_ n10_; (try clear hb); (try clear hb2); (try clear hk); (try clear hi)))
  go_ret;exact ⟨Re, Bw⟩
 replace c8 := bf c8;subst c8;rw [if_neg (show ¬ (false = true) by decide)] at H;obtain rfl := si H;go_enter Tryd.func4, Tryd.ntmps4;go_wp2_with (first | ((with_reducible refine gate_callee (f := 13) rfl ?_); refine goL (some 15) Tryd.func13 #[.string a0] ?_; (with_reducible refine (p_Parse.calls k a0 t277 t280 t283 t286 t289 t290 t291 _ m_ ?hmS A5.out).mono ?_); (case hmS => exact (pw_cell_below Bw HM.out)); rintro e w69 ⟨v278, v281, v284, v287, rfl, ho0, ho1, ho2, ho3, hb⟩; refine ⟨_, rfl, ?_⟩; replace HO279 := Am (Kd.S_lower ho0 (below_size Bw)); replace HO282 := Am (Kd.R_lower ho1 (below_size Bw)); replace HO285 := Am (Kd.R_lower ho2 (below_size Bw)); replace HO288 := Am (Kd.R_lower ho3 (below_size Bw)); replace HB := Bs hb; (try clear hb); (try clear hb2); (try clear hk); (try clear hi); (try clear ho0); (try clear ho1); (try clear ho2); (try clear ho3)) | ((with_reducible refine gate_dst (N := 3) rfl ?_); refine boxE 25 3 (cs := #[.slice none 0 0, .slice none 0 0, .slice none 0 0, .slice none 0 0, .int .i64 0]) ?_; intro gb292 hg w70 hbox hb; have n0_ := Am (Kd.S_below (Sk HO279.out) hb); have n1_ := Am (Kd.R_below (Rk HO282.out) hb); have n2_ := Am (Kd.R_below (Rk HO285.out) hb); have n3_ := Am (Kd.R_below (Rk HO288.out) hb); have n4_ := Bs hb; have n5_ := Am (hbox); have n6_ := Am (Gg hg); have n7_ := Am (Gg hg); clear HO279; clear HO282; clear HO285; clear HO288; clear HB; have HO279 := n0_; have HO282 := n1_; have HO285 := n2_; have HO288 := n3_; have HB := n4_; have BK292 := n5_; have GW292 := n6_; have GE292 := n7_; clear n0_ n1_ n2_ n3_ n4_ n5_ n6_ n7_; clear hb hbox hg; obtain ⟨Ao71, co71, eo71⟩ := Kd.S_slice HO279.out; subst eo71; obtain ⟨Z72_0, Z72_1, Z72_2, Z72_3, Z72_4, Y72_0, Y72_1, Y72_2, Y72_3, Y72_4⟩ := cells5 BK292; obtain ⟨Ao73, co73, eo73⟩ := Kd.R_slice HO282.out; subst eo73; obtain ⟨Ao74, co74, eo74⟩ := Kd.R_slice HO285.out; subst eo74; obtain ⟨Ao75, co75, eo75⟩ := Kd.R_slice HO288.out; subst eo75) | ((with_reducible refine gate_callee (f := 14) rfl ?_); refine goL (some 21) Tryd.func14 #[.string a0] ?_; (with_reducible refine (r11_Parse.calls k a0 t293 t296 t299 t302 t305 t306 t307 _ A6.out).mono ?_); rintro e w76 ⟨v294, v297, v300, v303, rfl, ho0, ho1, ho2, ho3, hb⟩; refine ⟨_, rfl, ?_⟩; have n0_ := Am (Kd.S_mono (Kd.S_told (Kd.S_told (Kd.S_told (Kd.S_old (Sk (Kd.S_mono (Kd.S_far (p := ⟨gb292, 4, none⟩) (Kd.S_far (p := ⟨gb292, 3, none⟩) (Kd.S_far (p := ⟨gb292, 2, none⟩) (Kd.S_far (p := ⟨gb292, 1, none⟩) (Kd.S_far (p := ⟨gb292, 0, none⟩) (Kd.S_types HO279.out BK292.out (by decide)) (fun _ hk => hk.2) (.slice Ao71 t277.length co71)) (fun _ hk => hk.2) (.slice Ao73 t280.length co73)) (fun _ hk => hk.2) (.slice Ao74 t283.length co74)) (fun _ hk => hk.2) (.slice Ao75 t286.length co75)) (fun _ hk => hk.2) (.int .i64 t289)) (fun _ h_ => h_.1))) hb) (Kd.R_base ho1)) (Kd.R_base ho2)) (Kd.R_base ho3)) (fun _ h_ => h_.1)); have n1_ := Am (Kd.R_mono (Kd.R_told (Kd.R_told (Kd.R_told (Kd.R_old (Rk (Kd.R_mono (Kd.R_far (p := ⟨gb292, 4, none⟩) (Kd.R_far (p := ⟨gb292, 3, none⟩) (Kd.R_far (p := ⟨gb292, 2, none⟩) (Kd.R_far (p := ⟨gb292, 1, none⟩) (Kd.R_far (p := ⟨gb292, 0, none⟩) (Kd.R_types HO282.out BK292.out (by decide)) (fun _ hk => hk.2) (.slice Ao71 t277.length co71)) (fun _ hk => hk.2) (.slice Ao73 t280.length co73)) (fun _ hk => hk.2) (.slice Ao74 t283.length co74)) (fun _ hk => hk.2) (.slice Ao75 t286.length co75)) (fun _ hk => hk.2) (.int .i64 t289)) (fun _ h_ => h_.1))) hb) (Kd.R_base ho1)) (Kd.R_base ho2)) (Kd.R_base ho3)) (fun _ h_ => h_.1)); have n2_ := Am (Kd.R_mono (Kd.R_told (Kd.R_told (Kd.R_told (Kd.R_old (Rk (Kd.R_mono (Kd.R_far (p := ⟨gb292, 4, none⟩) (Kd.R_far (p := ⟨gb292, 3, none⟩) (Kd.R_far (p := ⟨gb292, 2, none⟩) (Kd.R_far (p := ⟨gb292, 1, none⟩) (Kd.R_far (p := ⟨gb292, 0, none⟩) (Kd.R_types HO285.out BK292.out (by decide)) (fun _ hk => hk.2) (.slice Ao71 t277.length co71)) (fun _ hk => hk.2) (.slice Ao73 t280.length co73)) (fun _ hk => hk.2) (.slice Ao74 t283.length co74)) (fun _ hk => hk.2) (.slice Ao75 t286.length co75)) (fun _ hk => hk.2) (.int .i64 t289)) (fun _ h_ => h_.1))) hb) (Kd.R_base ho1)) (Kd.R_base ho2)) (Kd.R_base ho3)) (fun _ h_ => h_.1)); have n3_ := Am (Kd.R_mono (Kd.R_told (Kd.R_told (Kd.R_told (Kd.R_old (Rk (Kd.R_mono (Kd.R_far (p := ⟨gb292, 4, none⟩) (Kd.R_far (p := ⟨gb292, 3, none⟩) (Kd.R_far (p := ⟨gb292, 2, none⟩) (Kd.R_far (p := ⟨gb292, 1, none⟩) (Kd.R_far (p := ⟨gb292, 0, none⟩) (Kd.R_types HO288.out BK292.out (by decide)) (fun _ hk => hk.2) (.slice Ao71 t277.length co71)) (fun _ hk => hk.2) (.slice Ao73 t280.length co73)) (fun _ hk => hk.2) (.slice Ao74 t283.length co74)) (fun _ hk => hk.2) (.slice Ao75 t286.length co75)) (fun _ hk => hk.2) (.int .i64 t289)) (fun _ h_ => h_.1))) hb) (Kd.R_base ho1)) (Kd.R_base ho2)) (Kd.R_base ho3)) (fun _ h_ => h_.1)); have n4_ := Am (Kd.V_lower (Kd.V_mono (ok' := fun k_ => some k_ ≠ (v297 : Value).ownBlock ∧ some k_ ≠ (v300 : Value).ownBlock ∧ some k_ ≠ (v303 : Value).ownBlock ∧ some k_ ≠ (.slice Ao71 t277.length co71 : Value).ownBlock ∧ some k_ ≠ (.slice Ao73 t280.length co73 : Value).ownBlock ∧ some k_ ≠ (.slice Ao74 t283.length co74 : Value).ownBlock ∧ some k_ ≠ (.slice Ao75 t286.length co75 : Value).ownBlock ∧ k_ ≠ gb292) ho0 (fun k_ hk_ => ⟨hk_.2.1, hk_.2.2.1, hk_.2.2.2, (Kd.fresh' (Kd.S_lt (Sk (Kd.S_mono (Kd.S_far (p := ⟨gb292, 4, none⟩) (Kd.S_far (p := ⟨gb292, 3, none⟩) (Kd.S_far (p := ⟨gb292, 2, none⟩) (Kd.S_far (p := ⟨gb292, 1, none⟩) (Kd.S_far (p := ⟨gb292, 0, none⟩) (Kd.S_types HO279.out BK292.out (by decide)) (fun _ hk => hk.2) (.slice Ao71 t277.length co71)) (fun _ hk => hk.2) (.slice Ao73 t280.length co73)) (fun _ hk => hk.2) (.slice Ao74 t283.length co74)) (fun _ hk => hk.2) (.slice Ao75 t286.length co75)) (fun _ hk => hk.2) (.int .i64 t289)) (fun _ h_ => h_.1)))) k_ hk_.1), (Kd.fresh' (Kd.R_lt (Rk (Kd.R_mono (Kd.R_far (p := ⟨gb292, 4, none⟩) (Kd.R_far (p := ⟨gb292, 3, none⟩) (Kd.R_far (p := ⟨gb292, 2, none⟩) (Kd.R_far (p := ⟨gb292, 1, none⟩) (Kd.R_far (p := ⟨gb292, 0, none⟩) (Kd.R_types HO282.out BK292.out (by decide)) (fun _ hk => hk.2) (.slice Ao71 t277.length co71)) (fun _ hk => hk.2) (.slice Ao73 t280.length co73)) (fun _ hk => hk.2) (.slice Ao74 t283.length co74)) (fun _ hk => hk.2) (.slice Ao75 t286.length co75)) (fun _ hk => hk.2) (.int .i64 t289)) (fun _ h_ => h_.1)))) k_ hk_.1), (Kd.fresh' (Kd.R_lt (Rk (Kd.R_mono (Kd.R_far (p := ⟨gb292, 4, none⟩) (Kd.R_far (p := ⟨gb292, 3, none⟩) (Kd.R_far (p := ⟨gb292, 2, none⟩) (Kd.R_far (p := ⟨gb292, 1, none⟩) (Kd.R_far (p := ⟨gb292, 0, none⟩) (Kd.R_types HO285.out BK292.out (by decide)) (fun _ hk => hk.2) (.slice Ao71 t277.length co71)) (fun _ hk => hk.2) (.slice Ao73 t280.length co73)) (fun _ hk => hk.2) (.slice Ao74 t283.length co74)) (fun _ hk => hk.2) (.slice Ao75 t286.length co75)) (fun _ hk => hk.2) (.int .i64 t289)) (fun _ h_ => h_.1)))) k_ hk_.1), (Kd.fresh' (Kd.R_lt (Rk (Kd.R_mono (Kd.R_far (p := ⟨gb292, 4, none⟩) (Kd.R_far (p := ⟨gb292, 3, none⟩) (Kd.R_far (p := ⟨gb292, 2, none⟩) (Kd.R_far (p := ⟨gb292, 1, none⟩) (Kd.R_far (p := ⟨gb292, 0, none⟩) (Kd.R_types HO288.out BK292.out (by decide)) (fun _ hk => hk.2) (.slice Ao71 t277.length co71)) (fun _ hk => hk.2) (.slice Ao73 t280.length co73)) (fun _ hk => hk.2) (.slice Ao74 t283.length co74)) (fun _ hk => hk.2) (.slice Ao75 t286.length co75)) (fun _ hk => hk.2) (.int .i64 t289)) (fun _ h_ => h_.1)))) k_ hk_.1), (Kd.freshB (g := gb292) (o := .cells #[.slice Ao71 t277.length co71, .slice Ao73 t280.length co73, .slice Ao74 t283.length co74, .slice Ao75 t286.length co75, .int .i64 t289] 25 (0, 0)) (Bp BK292) k_ hk_.1)⟩)) (below_size Bw)); have n5_ := Am (Kd.R_lower (Kd.R_new' (Kd.R_new' (Kd.R_new' (Kd.R_mono (ok' := fun k_ => some k_ ≠ (v300 : Value).ownBlock ∧ some k_ ≠ (v303 : Value).ownBlock) ho1 (fun _ hk_ => hk_.2)) (Kd.R_lt (Rk (Kd.R_mono (Kd.R_far (p := ⟨gb292, 4, none⟩) (Kd.R_far (p := ⟨gb292, 3, none⟩) (Kd.R_far (p := ⟨gb292, 2, none⟩) (Kd.R_far (p := ⟨gb292, 1, none⟩) (Kd.R_far (p := ⟨gb292, 0, none⟩) (Kd.R_types HO282.out BK292.out (by decide)) (fun _ hk => hk.2) (.slice Ao71 t277.length co71)) (fun _ hk => hk.2) (.slice Ao73 t280.length co73)) (fun _ hk => hk.2) (.slice Ao74 t283.length co74)) (fun _ hk => hk.2) (.slice Ao75 t286.length co75)) (fun _ hk => hk.2) (.int .i64 t289)) (fun _ h_ => h_.1))))) (Kd.R_lt (Rk (Kd.R_mono (Kd.R_far (p := ⟨gb292, 4, none⟩) (Kd.R_far (p := ⟨gb292, 3, none⟩) (Kd.R_far (p := ⟨gb292, 2, none⟩) (Kd.R_far (p := ⟨gb292, 1, none⟩) (Kd.R_far (p := ⟨gb292, 0, none⟩) (Kd.R_types HO285.out BK292.out (by decide)) (fun _ hk => hk.2) (.slice Ao71 t277.length co71)) (fun _ hk => hk.2) (.slice Ao73 t280.length co73)) (fun _ hk => hk.2) (.slice Ao74 t283.length co74)) (fun _ hk => hk.2) (.slice Ao75 t286.length co75)) (fun _ hk => hk.2) (.int .i64 t289)) (fun _ h_ => h_.1))))) (Kd.R_lt (Rk (Kd.R_mono (Kd.R_far (p := ⟨gb292, 4, none⟩) (Kd.R_far (p := ⟨gb292, 3, none⟩) (Kd.R_far (p := ⟨gb292, 2, none⟩) (Kd.R_far (p := ⟨gb292, 1, none⟩) (Kd.R_far (p := ⟨gb292, 0, none⟩) (Kd.R_types HO288.out BK292.out (by decide)) (fun _ hk => hk.2) (.slice Ao71 t277.length co71)) (fun _ hk => hk.2) (.slice Ao73 t280.length co73)) (fun _ hk => hk.2) (.slice Ao74 t283.length co74)) (fun _ hk => hk.2) (.slice Ao75 t286.length co75)) (fun _ hk => hk.2) (.int .i64 t289)) (fun _ h_ => h_.1))))) (below_size Bw)); have n6_ := Am (Kd.R_lower (Kd.R_new' (Kd.R_new' (Kd.R_new' (Kd.R_mono (ok' := fun k_ => some k_ ≠ (v297 : Value).ownBlock ∧ some k_ ≠ (v303 : Value).ownBlock) ho2 (fun _ hk_ => hk_.2)) (Kd.R_lt (Rk (Kd.R_mono (Kd.R_far (p := ⟨gb292, 4, none⟩) (Kd.R_far (p := ⟨gb292, 3, none⟩) (Kd.R_far (p := ⟨gb292, 2, none⟩) (Kd.R_far (p := ⟨gb292, 1, none⟩) (Kd.R_far (p := ⟨gb292, 0, none⟩) (Kd.R_types HO282.out BK292.out (by decide)) (fun _ hk => hk.2) (.slice Ao71 t277.length co71)) (fun _ hk => hk.2) (.slice Ao73 t280.length co73)) (fun _ hk => hk.2) (.slice Ao74 t283.length co74)) (fun _ hk => hk.2) (.slice Ao75 t286.length co75)) (fun _ hk => hk.2) (.int .i64 t289)) (fun _ h_ => h_.1))))) (Kd.R_lt (Rk (Kd.R_mono (Kd.R_far (p := ⟨gb292, 4, none⟩) (Kd.R_far (p := ⟨gb292, 3, none⟩) (Kd.R_far (p := ⟨gb292, 2, none⟩) (Kd.R_far (p := ⟨gb292, 1, none⟩) (Kd.R_far (p := ⟨gb292, 0, none⟩) (Kd.R_types HO285.out BK292.out (by decide)) (fun _ hk => hk.2) (.slice Ao71 t277.length co71)) (fun _ hk => hk.2) (.slice Ao73 t280.length co73)) (fun _ hk => hk.2) (.slice Ao74 t283.length co74)) (fun _ hk => hk.2) (.slice Ao75 t286.length co75)) (fun _ hk => hk.2) (.int .i64 t289)) (fun _ h_ => h_.1))))) (Kd.R_lt (Rk (Kd.R_mono (Kd.R_far (p := ⟨gb292, 4, none⟩) (Kd.R_far (p := ⟨gb292, 3, none⟩) (Kd.R_far (p := ⟨gb292, 2, none⟩) (Kd.R_far (p := ⟨gb292, 1, none⟩) (Kd.R_far (p := ⟨gb292, 0, none⟩) (Kd.R_types HO288.out BK292.out (by decide)) (fun _ hk => hk.2) (.slice Ao71 t277.length co71)) (fun _ hk => hk.2) (.slice Ao73 t280.length co73)) (fun _ hk => hk.2) (.slice Ao74 t283.length co74)) (fun _ hk => hk.2) (.slice Ao75 t286.length co75)) (fun _ hk => hk.2) (.int .i64 t289)) (fun _ h_ => h_.1))))) (below_size Bw)); have n7_ := Am (Kd.R_lower (Kd.R_new' (Kd.R_new' (Kd.R_new' (Kd.R_mono (ok' := fun k_ => some k_ ≠ (v297 : Value).ownBlock ∧ some k_ ≠ (v300 : Value).ownBlock) ho3 (fun _ hk_ => hk_.2)) (Kd.R_lt (Rk (Kd.R_mono (Kd.R_far (p := ⟨gb292, 4, none⟩) (Kd.R_far (p := ⟨gb292, 3, none⟩) (Kd.R_far (p := ⟨gb292, 2, none⟩) (Kd.R_far (p := ⟨gb292, 1, none⟩) (Kd.R_far (p := ⟨gb292, 0, none⟩) (Kd.R_types HO282.out BK292.out (by decide)) (fun _ hk => hk.2) (.slice Ao71 t277.length co71)) (fun _ hk => hk.2) (.slice Ao73 t280.length co73)) (fun _ hk => hk.2) (.slice Ao74 t283.length co74)) (fun _ hk => hk.2) (.slice Ao75 t286.length co75)) (fun _ hk => hk.2) (.int .i64 t289)) (fun _ h_ => h_.1))))) (Kd.R_lt (Rk (Kd.R_mono (Kd.R_far (p := ⟨gb292, 4, none⟩) (Kd.R_far (p := ⟨gb292, 3, none⟩) (Kd.R_far (p := ⟨gb292, 2, none⟩) (Kd.R_far (p := ⟨gb292, 1, none⟩) (Kd.R_far (p := ⟨gb292, 0, none⟩) (Kd.R_types HO285.out BK292.out (by decide)) (fun _ hk => hk.2) (.slice Ao71 t277.length co71)) (fun _ hk => hk.2) (.slice Ao73 t280.length co73)) (fun _ hk => hk.2) (.slice Ao74 t283.length co74)) (fun _ hk => hk.2) (.slice Ao75 t286.length co75)) (fun _ hk => hk.2) (.int .i64 t289)) (fun _ h_ => h_.1))))) (Kd.R_lt (Rk (Kd.R_mono (Kd.R_far (p := ⟨gb292, 4, none⟩) (Kd.R_far (p := ⟨gb292, 3, none⟩) (Kd.R_far (p := ⟨gb292, 2, none⟩) (Kd.R_far (p := ⟨gb292, 1, none⟩) (Kd.R_far (p := ⟨gb292, 0, none⟩) (Kd.R_types HO288.out BK292.out (by decide)) (fun _ hk => hk.2) (.slice Ao71 t277.length co71)) (fun _ hk => hk.2) (.slice Ao73 t280.length co73)) (fun _ hk => hk.2) (.slice Ao74 t283.length co74)) (fun _ hk => hk.2) (.slice Ao75 t286.length co75)) (fun _ hk => hk.2) (.int .i64 t289)) (fun _ h_ => h_.1))))) (below_size Bw)); have n8_ := Am (blk_below (g := gb292) (o := .cells #[.slice Ao71 t277.length co71, .slice Ao73 t280.length co73, .slice Ao74 t283.length co74, .slice Ao75 t286.length co75, .int .i64 t289] 25 (0, 0)) (Bp BK292) hb); have n9_ := Bs hb; clear HO279; clear HO282; clear HO285; clear HO288; clear BK292; clear HB; have HO279 := n0_; have HO282 := n1_; have HO285 := n2_; have HO288 := n3_; have HO295 := n4_; have HO298 := n5_; have HO301 := n6_; have HO304 := n7_; have BK292 := n8_; have HB := n9_; clear n0_ n1_ n2_ n3_ n4_ n5_ n6_ n7_ n8_ n9_; (try clear hb); (try clear hb2); (try clear hk); (try clear hi); (try clear ho0); (try clear ho1); (try clear ho2); (try clear ho3)) | ((with_reducible refine gate_dst (N := 6) rfl ?_); refine boxE 25 6 (cs := #[.slice none 0 0, .slice none 0 0, .slice none 0 0, .slice none 0 0, .int .i64 0]) ?_; intro gb308 hg w77 hbox hb; have n0_ := Am (Kd.S_below (Sk HO279.out) hb); have n1_ := Am (Kd.R_below (Rk HO282.out) hb); have n2_ := Am (Kd.R_below (Rk HO285.out) hb); have n3_ := Am (Kd.R_below (Rk HO288.out) hb); have n4_ := Am (Kd.V_below (Kd.V_elderB (Vk HO295.out) gb308 (Nat.le_of_eq hg.symm)) hb); have n5_ := Am (Kd.R_below (Rk HO298.out) hb); have n6_ := Am (Kd.R_below (Rk HO301.out) hb); have n7_ := Am (Kd.R_below (Rk HO304.out) hb); have n8_ := Bb BK292 hb; have n9_ := Bs hb; have n10_ := Am (hbox); have n11_ := Am (Gg hg); have n12_ := Am (Gg hg); have n13_ := Nl hg BK292; have n14_ := Ng hg BK292; clear HO279; clear HO282; clear HO285; clear HO288; clear HO295; clear HO298; clear HO301; clear HO304; clear BK292; clear HB; have HO279 := n0_; have HO282 := n1_; have HO285 := n2_; have HO288 := n3_; have HO295 := n4_; have HO298 := n5_; have HO301 := n6_; have HO304 := n7_; have BK292 := n8_; have HB := n9_; have BK308 := n10_; have GW308 := n11_; have GE308 := n12_; have NB292_308 := n13_; have NB308_292 := n14_; clear n0_ n1_ n2_ n3_ n4_ n5_ n6_ n7_ n8_ n9_ n10_ n11_ n12_ n13_ n14_; clear hb hbox hg; obtain ⟨Ao78, co78, eo78⟩ := Kd.V_slice HO295.out; subst eo78; have hnb79 := NB308_292.out; have hnc79 := NB292_308.out; obtain ⟨Z80_0, Z80_1, Z80_2, Z80_3, Z80_4, Y80_0, Y80_1, Y80_2, Y80_3, Y80_4⟩ := cells5 BK308; obtain ⟨Ao81, co81, eo81⟩ := Kd.R_slice HO298.out; subst eo81; obtain ⟨Ao82, co82, eo82⟩ := Kd.R_slice HO301.out; subst eo82; obtain ⟨Ao83, co83, eo83⟩ := Kd.R_slice HO304.out; subst eo83) | ((with_reducible refine gate_callee (f := 10) rfl ?_); refine goL (some 25) Tryd.func10 #[] ?_; (with_reducible refine (l11_alive.calls k  false _ m_ ?hmS A7.out).mono ?_); (case hmS => exact (pw_cell_below Bw HM.out)); rintro e w84 ⟨rfl, hb⟩; refine ⟨_, rfl, ?_⟩; have n0_ := Am (Kd.S_below (Sk (Kd.S_mono (Kd.S_far (p := ⟨gb308, 4, none⟩) (Kd.S_far (p := ⟨gb308, 3, none⟩) (Kd.S_far (p := ⟨gb308, 2, none⟩) (Kd.S_far (p := ⟨gb308, 1, none⟩) (Kd.S_far (p := ⟨gb308, 0, none⟩) (Kd.S_types HO279.out BK308.out (by decide)) (fun _ hk => hk.2) (.slice Ao78 t293.length co78)) (fun _ hk => hk.2) (.slice Ao81 t296.length co81)) (fun _ hk => hk.2) (.slice Ao82 t299.length co82)) (fun _ hk => hk.2) (.slice Ao83 t302.length co83)) (fun _ hk => hk.2) (.int .i64 t305)) (fun _ h_ => h_.1))) hb); have n1_ := Am (Kd.R_below (Rk (Kd.R_mono (Kd.R_far (p := ⟨gb308, 4, none⟩) (Kd.R_far (p := ⟨gb308, 3, none⟩) (Kd.R_far (p := ⟨gb308, 2, none⟩) (Kd.R_far (p := ⟨gb308, 1, none⟩) (Kd.R_far (p := ⟨gb308, 0, none⟩) (Kd.R_types HO282.out BK308.out (by decide)) (fun _ hk => hk.2) (.slice Ao78 t293.length co78)) (fun _ hk => hk.2) (.slice Ao81 t296.length co81)) (fun _ hk => hk.2) (.slice Ao82 t299.length co82)) (fun _ hk => hk.2) (.slice Ao83 t302.length co83)) (fun _ hk => hk.2) (.int .i64 t305)) (fun _ h_ => h_.1))) hb); have n2_ := Am (Kd.R_below (Rk (Kd.R_mono (Kd.R_far (p := ⟨gb308, 4, none⟩) (Kd.R_far (p := ⟨gb308, 3, none⟩) (Kd.R_far (p := ⟨gb308, 2, none⟩) (Kd.R_far (p := ⟨gb308, 1, none⟩) (Kd.R_far (p := ⟨gb308, 0, none⟩) (Kd.R_types HO285.out BK308.out (by decide)) (fun _ hk => hk.2) (.slice Ao78 t293.length co78)) (fun _ hk => hk.2) (.slice Ao81 t296.length co81)) (fun _ hk => hk.2) (.slice Ao82 t299.length co82)) (fun _ hk => hk.2) (.slice Ao83 t302.length co83)) (fun _ hk => hk.2) (.int .i64 t305)) (fun _ h_ => h_.1))) hb); have n3_ := Am (Kd.R_below (Rk (Kd.R_mono (Kd.R_far (p := ⟨gb308, 4, none⟩) (Kd.R_far (p := ⟨gb308, 3, none⟩) (Kd.R_far (p := ⟨gb308, 2, none⟩) (Kd.R_far (p := ⟨gb308, 1, none⟩) (Kd.R_far (p := ⟨gb308, 0, none⟩) (Kd.R_types HO288.out BK308.out (by decide)) (fun _ hk => hk.2) (.slice Ao78 t293.length co78)) (fun _ hk => hk.2) (.slice Ao81 t296.length co81)) (fun _ hk => hk.2) (.slice Ao82 t299.length co82)) (fun _ hk => hk.2) (.slice Ao83 t302.length co83)) (fun _ hk => hk.2) (.int .i64 t305)) (fun _ h_ => h_.1))) hb); have n4_ := Am (Kd.V_below (Vk (Kd.V_mono (Kd.V_far (p := ⟨gb308, 4, none⟩) (Kd.V_far (p := ⟨gb308, 3, none⟩) (Kd.V_far (p := ⟨gb308, 2, none⟩) (Kd.V_far (p := ⟨gb308, 1, none⟩) (Kd.V_far (p := ⟨gb308, 0, none⟩) (Kd.V_mono HO295.out (fun k_ hk => (⟨hk, hk.2⟩ : _ ∧ k_ ≠ gb308))) (fun _ hk => hk.2) (.slice Ao78 t293.length co78)) (fun _ hk => hk.2) (.slice Ao81 t296.length co81)) (fun _ hk => hk.2) (.slice Ao82 t299.length co82)) (fun _ hk => hk.2) (.slice Ao83 t302.length co83)) (fun _ hk => hk.2) (.int .i64 t305)) (fun _ h_ => h_.1))) hb); have n5_ := Am (Kd.R_below (Rk (Kd.R_mono (Kd.R_far (p := ⟨gb308, 4, none⟩) (Kd.R_far (p := ⟨gb308, 3, none⟩) (Kd.R_far (p := ⟨gb308, 2, none⟩) (Kd.R_far (p := ⟨gb308, 1, none⟩) (Kd.R_far (p := ⟨gb308, 0, none⟩) (Kd.R_types HO298.out BK308.out (by decide)) (fun _ hk => hk.2) (.slice Ao78 t293.length co78)) (fun _ hk => hk.2) (.slice Ao81 t296.length co81)) (fun _ hk => hk.2) (.slice Ao82 t299.length co82)) (fun _ hk => hk.2) (.slice Ao83 t302.length co83)) (fun _ hk => hk.2) (.int .i64 t305)) (fun _ h_ => h_.1))) hb); have n6_ := Am (Kd.R_below (Rk (Kd.R_mono (Kd.R_far (p := ⟨gb308, 4, none⟩) (Kd.R_far (p := ⟨gb308, 3, none⟩) (Kd.R_far (p := ⟨gb308, 2, none⟩) (Kd.R_far (p := ⟨gb308, 1, none⟩) (Kd.R_far (p := ⟨gb308, 0, none⟩) (Kd.R_types HO301.out BK308.out (by decide)) (fun _ hk => hk.2) (.slice Ao78 t293.length co78)) (fun _ hk => hk.2) (.slice Ao81 t296.length co81)) (fun _ hk => hk.2) (.slice Ao82 t299.length co82)) (fun _ hk => hk.2) (.slice Ao83 t302.length co83)) (fun _ hk => hk.2) (.int .i64 t305)) (fun _ h_ => h_.1))) hb); have n7_ := Am (Kd.R_below (Rk (Kd.R_mono (Kd.R_far (p := ⟨gb308, 4, none⟩) (Kd.R_far (p := ⟨gb308, 3, none⟩) (Kd.R_far (p := ⟨gb308, 2, none⟩) (Kd.R_far (p := ⟨gb308, 1, none⟩) (Kd.R_far (p := ⟨gb308, 0, none⟩) (Kd.R_types HO304.out BK308.out (by decide)) (fun _ hk => hk.2) (.slice Ao78 t293.length co78)) (fun _ hk => hk.2) (.slice Ao81 t296.length co81)) (fun _ hk => hk.2) (.slice Ao82 t299.length co82)) (fun _ hk => hk.2) (.slice Ao83 t302.length co83)) (fun _ hk => hk.2) (.int .i64 t305)) (fun _ h_ => h_.1))) hb); have n8_ := Am (blk_below (g := gb292) (o := .cells #[.slice Ao71 t277.length co71, .slice Ao73 t280.length co73, .slice Ao74 t283.length co74, .slice Ao75 t286.length co75, .int .i64 t289] 25 (0, 0)) (Bf BK292) hb); have n9_ := Am (blk_below (g := gb308) (o := .cells #[.slice Ao78 t293.length co78, .slice Ao81 t296.length co81, .slice Ao82 t299.length co82, .slice Ao83 t302.length co83, .int .i64 t305] 25 (0, 0)) (Bp BK308) hb); have n10_ := Bs hb; clear HO279; clear HO282; clear HO285; clear HO288; clear HO295; clear HO298; clear HO301; clear HO304; clear BK292; clear BK308; clear HB; have HO279 := n0_; have HO282 := n1_; have HO285 := n2_; have HO288 := n3_; have HO295 := n4_; have HO298 := n5_; have HO301 := n6_; have HO304 := n7_; have BK292 := n8_; have BK308 := n9_; have HB := n10_; clear n0_ n1_ n2_ n3_ n4_ n5_ n6_ n7_ n8_ n9_ n10_; (try clear hb); (try clear hb2); (try clear hk); (try clear hi)))
 go_ret;exact ⟨Re, Bw⟩

noncomputable def l11_PolicyParse.Pure : Prop := ∀ (a0 : ByteArray), a0.size ≤ 140737488351232 → ∃ k, l11_PolicyParse.f k a0 = some true
end Go.Proofs.YtnbghhddmlohoaaDoor.PAll

end

section
namespace Go.Proofs.YtnbghhddmlohoaaDoor.RowOpen
open Go.RowKit Go.Proofs.YtnbghhddmlohoaaDoorW.PrintWords

section
variable {P : Program}
def Opens (P : Program) {α : Type} (t : TypeId) (d : Kd α) (g : α → Prop) : Prop :=
  ∀ (H : Type) (enc : TypeId × Value → H) (fuel : Nat) (w : World) (cs : List Value) (x : DataW H × List MemPlace), DataW.trod enc P w 0 (fun _ => true) true fuel t cs = some x → ∃ a, d.K w a cs ∧ g a
theorem opens_string {t : TypeId} (hu : P.underlying t = some .string) : Opens P t Kd.string (fun s => s.size ≤ maxLen) := fun H enc fuel w cs x hx => by
  cases fuel with
  | zero => simp [DataW.trod] at hx
  | succ m =>
    unfold DataW.trod at hx
    rw [hu] at hx
    split at hx <;> simp_all
    exact ⟨_, rfl, hx.1⟩
end
end Go.Proofs.YtnbghhddmlohoaaDoor.RowOpen

end

section
namespace Go.Proofs.YtnbghhddmlohoaaDoor.policyParseOp
open Go.RowKit Go.Proofs.YtnbghhddmlohoaaDoor.PAll Go.Proofs.YtnbghhddmlohoaaDoorW.PrintWords Go.Proofs.YtnbghhddmlohoaaDoor.RowOpen
def Plain : Prop := ∀ (a0 : ByteArray), a0.size ≤ maxLen → ∃ k, l11_PolicyParse.f k a0 = some true
end Go.Proofs.YtnbghhddmlohoaaDoor.policyParseOp

end

section
namespace Go.Proofs.YtnbghhddmlohoaaDoor.Pure
open Go.RowKit Go.Proofs.YtnbghhddmlohoaaDoor.PAll Go.Proofs.YtnbghhddmlohoaaDoorW.PrintWords Go.Proofs.YtnbghhddmlohoaaDoorW.PrintLast

theorem wrap_next {i : Nat} (h : i < 9223372036854775807) : wrap64 ((i : Int) + 1) = ((i + 1 : Nat) : Int) := by
  unfold wrap64
  omega
theorem bytes_data (s : ByteArray) : s.toList = s.data.toList := ByteArray.toList_eq s
theorem data_len (s : ByteArray) : s.data.toList.length = s.size := by simp
theorem bt_get (s : ByteArray) (i : Nat) (c : UInt8) (h : s.data.toList[i]? = some c) : bt s (i : Int) = (c.toNat : Int) := by
  obtain ⟨h1, h2⟩ := List.getElem?_eq_some_iff.1 h
  have h3 : i < s.size := by simpa using h1
  unfold bt
  rw [dif_pos (by omega), ← h2]
  rfl
theorem ext_take (s : ByteArray) (a b : Nat) : (s.extract a b).data.toList = (s.data.toList.drop a).take (b - a) := by
  have e : (s.extract a b).data = s.data.extract a b := by simp
  rw [e, Array.toList_extract, List.extract_eq_take_drop]
theorem ba_ext {a b : ByteArray} (h : a.data.toList = b.data.toList) : a = b := by
  obtain ⟨⟨a⟩⟩ := a
  obtain ⟨⟨b⟩⟩ := b
  simp at h
  rw [h]
def sFig (c : UInt8) : Bool := decide (48 ≤ c.toNat ∧ c.toNat ≤ 57)
theorem u8_all {p : UInt8 → Prop} (h : ∀ n, n < 256 → p (UInt8.ofNat n)) (c : UInt8) : p c := by
  have := h c.toNat c.toNat_lt
  simpa using this
theorem rfigure_f (c : UInt8) : r02_Figure.f (c.toNat : Int) = some (sFig c) := by
  revert c
  apply u8_all
  decide +kernel
theorem drop_get (s : ByteArray) (i : Nat) (h : i < s.size) : ∃ c, s.data.toList[i]? = some c ∧ s.data.toList.drop i = c :: s.data.toList.drop (i + 1) := by
  have h' : i < s.data.toList.length := by rw [data_len]; exact h
  exact ⟨s.data.toList[i], List.getElem?_eq_getElem h', List.drop_eq_getElem_cons h'⟩
theorem rd_at (l : List ByteArray) (i : Nat) (h : i < l.length) : rdOf ByteArray.empty l (i : Int) = l[i] := by
  simp [rdOf, List.getD_eq_getElem?_getD, h]
theorem index_l0 (l : List ByteArray) (x : ByteArray) (hl : l.length ≤ 1000000) : ∀ (d i : Nat), i + d = l.length →
  ∃ n : Int, Ev (fun k => slI_.l0 k l x (l.length : Int) (i : Int)) n ∧ decide (n ≥ 0) = (l.drop i).any (fun y => y.data.toList == x.data.toList) := by
 intro d
 induction d with
 | zero =>
  intro i hi;refine ⟨-1, Ev.step (f := fun _ => some (-1)) (fun k => ?_) (Ev.now _), ?_⟩
  ·simp only [slI_.l0];rw [if_neg (by omega)]
  rw [List.drop_of_length_le (by omega)]; rfl
 | succ d ih =>
  intro i hi;have hlt : i < l.length := by omega
  rw [List.drop_eq_getElem_cons hlt, List.any_cons]
  by_cases h : l[i].data.toList = x.data.toList
  ·refine ⟨(i : Int), Ev.step (f := fun _ => some (i : Int)) (fun k => ?_) (Ev.now _), ?_⟩
   ·simp only [slI_.l0];rw [if_pos (by omega), if_pos (by omega), if_pos (by omega), rd_at l i hlt, bytes_data, bytes_data, if_pos h.symm]
   rw [h, beq_self_eq_true, Bool.true_or, decide_eq_true (by omega)]
  obtain ⟨n, h1, h2⟩ := ih (i + 1) (by omega);refine ⟨n, Ev.step (f := fun k => slI_.l0 k l x (l.length : Int) ((i + 1 : Nat) : Int)) (fun k => ?_) h1, ?_⟩
  ·simp only [slI_.l0];rw [if_pos (by omega), if_pos (by omega), if_pos (by omega), rd_at l i hlt, bytes_data, bytes_data, if_neg (fun e => h e.symm), wrap_next (by omega)]
  have e : (l[i].data.toList == x.data.toList) = false := beq_eq_false_iff_ne.mpr h;rw [h2, e, Bool.false_or]
theorem contains_ev (l : List ByteArray) (x : ByteArray) (hl : l.length ≤ 1000000) : Ev (fun k => slC_.f k l x) (l.any fun y => y.data.toList == x.data.toList) := by
 obtain ⟨n, h1, h2⟩ := index_l0 l x hl l.length 0 (by omega);rw [List.drop_zero] at h2;rw [← h2];unfold slC_.f;exact Ev.bind (f := fun _ t => some (decide (t ≥ 0))) h1 (Ev.now _)
end Go.Proofs.YtnbghhddmlohoaaDoor.Pure

end

section
namespace Go.Proofs.YtnbghhddmlohoaaDoor.Pure
open Go.RowKit Go.Proofs.YtnbghhddmlohoaaDoor.PAll Go.Proofs.YtnbghhddmlohoaaDoorW.PrintWords Go.Proofs.YtnbghhddmlohoaaDoorW.PrintLast
set_option linter.unusedSimpArgs false
set_option linter.unusedVariables false

def cutL (c : UInt8) : List UInt8 → List (List UInt8)
  | [] => [[]]
  | b :: l => if b = c then [] :: cutL c l else match cutL c l with
    | [] => [[b]]
    | x :: xs => (b :: x) :: xs
theorem cutL_ne (c : UInt8) (l : List UInt8) : ∃ x xs, cutL c l = x :: xs := by
  cases l with
  | nil => exact ⟨_, _, rfl⟩
  | cons b l =>
    unfold cutL
    split
    · exact ⟨_, _, rfl⟩
    · split
      · exact ⟨_, _, rfl⟩
      · exact ⟨_, _, rfl⟩
theorem index_cons (b c : UInt8) (l : List UInt8) (h : b ≠ c) : Lib.index (b :: l) [c] = if Lib.index l [c] == -1 then -1 else Lib.index l [c] + 1 := by
  have hp : ([c] : List UInt8).isPrefixOf (b :: l) = false := by simp [List.isPrefixOf, Ne.symm h]
  rw [Lib.index, hp]; simp
theorem splitK_cons (b c : UInt8) (l : List UInt8) (h : b ≠ c) : ∀ k x xs, Lib.splitK [c] 0 k l = x :: xs → Lib.splitK [c] 0 k (b :: l) = (b :: x) :: xs := by
 intro k x xs hk
 cases k with
 | zero =>
  simp only [Lib.splitK] at hk ⊢;simp only [List.cons.injEq] at hk;obtain ⟨rfl, rfl⟩ := hk;rfl
 | succ k =>
  unfold Lib.splitK at hk ⊢;rw [index_cons b c l h]
  by_cases hm : Lib.index l [c] = -1
  ·rw [hm] at hk ⊢
   simp at hk ⊢
   exact ⟨hk.1, hk.2⟩
  have hge := Lib.index_ge l [c];obtain ⟨j, hj⟩ : ∃ j : Nat, Lib.index l [c] = j := ⟨(Lib.index l [c]).toNat, by omega⟩;rw [if_neg (fun e => hm (beq_iff_eq.1 e))] at hk;rw [if_neg (fun e => hm (beq_iff_eq.1 e)), if_neg (by rw [hj]; intro e; have := beq_iff_eq.1 e; omega)];rw [hj] at hk ⊢;have e1 : (((j : Int) + 1).toNat + 0) = (((j : Int).toNat + 0) + 1) := by omega
  have e2 : (((j : Int) + 1).toNat + ([c] : List UInt8).length) = (((j : Int).toNat + ([c] : List UInt8).length) + 1) := by simp <;> omega
  rw [e1, e2, List.take_succ_cons, List.drop_succ_cons];simp only [List.cons.injEq] at hk ⊢;exact ⟨⟨trivial, hk.1⟩, hk.2⟩
theorem splitK_cut (c : UInt8) : ∀ l : List UInt8, Lib.splitK [c] 0 (Lib.count l [c]) l = cutL c l
 | [] => by
  rw [Lib.count_one]
  rfl
 | b :: l => by
  by_cases h : b = c
  ·subst h
   rw [Lib.count_cons_eq, Nat.add_comm]
   unfold cutL
   rw [if_pos rfl, ← splitK_cut b l]
   have hix : Lib.index (b :: l) [b] = 0 := by rw [Lib.index]; simp [List.isPrefixOf]
   conv => lhs; unfold Lib.splitK
   rw [hix]
   simp
  rw [Lib.count_cons_ne b c l h];obtain ⟨x, xs, hx⟩ := cutL_ne c l;have ih := splitK_cut c l;rw [hx] at ih;rw [splitK_cons b c l h _ x xs ih];unfold cutL;rw [if_neg h, hx]
theorem pieces_cut (c : UInt8) (s : ByteArray) : (plPieces c s).map (fun x => x.data.toList) = cutL c s.data.toList := by
  unfold plPieces
  rw [Lib.splitB_data]
  exact splitK_cut c s.data.toList
def segs (c : UInt8) (s : ByteArray) : Nat → Nat → Nat → List ByteArray
  | 0, fr, _ => [s.extract fr s.size]
  | d + 1, fr, i => if bt s (i : Int) = (c.toNat : Int) then s.extract fr i :: segs c s d (i + 1) (i + 1) else segs c s d fr (i + 1)
theorem segs_cut (c : UInt8) (s : ByteArray) : ∀ d fr i, i + d = s.size → fr ≤ i →
  ∃ x xs, cutL c (s.data.toList.drop i) = x :: xs ∧ (segs c s d fr i).map (fun x => x.data.toList) = ((s.data.toList.drop fr).take (i - fr) ++ x) :: xs := by
 intro d
 induction d with
 | zero =>
  intro fr i hi hf;obtain rfl : i = s.size := by omega
  refine ⟨[], [], ?_, ?_⟩
  ·rw [List.drop_of_length_le (by rw [data_len]; omega)]; rfl
  unfold segs;simp only [List.map_cons, List.map_nil, ext_take, List.append_nil]
 | succ d ih =>
  intro fr i hi hf;obtain ⟨b, hb, hd⟩ := drop_get s i (by omega);have hbt := bt_get s i b hb;unfold segs;rw [hd, hbt]
  by_cases h : b = c
  ·subst h;obtain ⟨x, xs, h1, h2⟩ := ih (i + 1) (i + 1) (by omega) (Nat.le_refl _);refine ⟨[], cutL b (s.data.toList.drop (i + 1)), ?_, ?_⟩
   ·conv => lhs; unfold cutL
    rw [if_pos rfl]
   rw [if_pos rfl, List.map_cons, h2, h1, ext_take]
   simp
  have hne : ¬ (b.toNat : Int) = (c.toNat : Int) := fun e => h (UInt8.toNat.inj (by omega))
  obtain ⟨x, xs, h1, h2⟩ := ih fr (i + 1) (by omega) (by omega);refine ⟨b :: x, xs, ?_, ?_⟩
  ·conv => lhs; unfold cutL
   rw [if_neg h, h1]
  rw [if_neg hne, h2]
  have e : (s.data.toList.drop fr).take (i + 1 - fr) = (s.data.toList.drop fr).take (i - fr) ++ [b] := by
   rw [show i + 1 - fr = (i - fr) + 1 by omega, List.take_add_one, List.getElem?_drop, show fr + (i - fr) = i by omega, hb];rfl
  rw [e]
  simp
theorem map_inj {l m : List ByteArray} (h : l.map (fun x => x.data.toList) = m.map (fun x => x.data.toList)) : l = m := by
  induction l generalizing m with
  | nil => cases m with
    | nil => rfl
    | cons a m => simp at h
  | cons a l ih => cases m with
    | nil => simp at h
    | cons b m =>
      simp only [List.map_cons, List.cons.injEq] at h
      rw [ba_ext h.1, ih h.2]
theorem segs_pieces (c : UInt8) (s : ByteArray) : segs c s s.size 0 0 = plPieces c s := by
  apply map_inj
  obtain ⟨x, xs, h1, h2⟩ := segs_cut c s s.size 0 0 (by omega) (Nat.le_refl _)
  rw [pieces_cut, h2]
  rw [List.drop_zero] at h1
  rw [h1]
  simp
def wsum (l : List ByteArray) : Nat := (l.map fun x => x.size + 1).sum
theorem cut_sum (c : UInt8) : ∀ l : List UInt8, ((cutL c l).map fun x => x.length + 1).sum = l.length + 1
  | [] => rfl
  | b :: l => by
    have ih := cut_sum c l
    unfold cutL
    split
    · rw [List.map_cons, List.sum_cons, ih]; simp; omega
    · obtain ⟨x, xs, hx⟩ := cutL_ne c l
      rw [hx] at ih ⊢
      simp only [List.map_cons, List.sum_cons, List.length_cons] at ih ⊢
      omega
theorem pieces_sum (c : UInt8) (s : ByteArray) : wsum (plPieces c s) = s.size + 1 := by
  have h := cut_sum c s.data.toList
  rw [← pieces_cut, List.map_map, data_len] at h
  rw [← h]
  unfold wsum
  congr 1
  first | done | (apply List.map_congr_left; intro x _; simp)
theorem filter_two : ∀ L : List ByteArray, 2 * (L.filter fun x => !plEmpty x).length ≤ wsum L
 | [] => Nat.zero_le _
 | a :: L => by
  have ih := filter_two L
  unfold wsum at ih ⊢
  rw [List.map_cons, List.sum_cons, List.filter_cons]
  split
  ·next h =>
   have hp : 1 ≤ a.size := by
    unfold plEmpty at h;rw [bytes_data] at h
    rcases hl : a.data.toList with _ | ⟨b, l⟩
    ·rw [hl] at h; simp at h
    have := data_len a;rw [hl] at this
    simp at this
    omega
   rw [List.length_cons]
   omega
  omega
theorem words_two (s : ByteArray) : 2 * (plWords s).length ≤ s.size + 1 := by
  rw [← pieces_sum 32 s]
  exact filter_two _
theorem ext_empty (s : ByteArray) (a b : Nat) (hb : b ≤ s.size) : plEmpty (s.extract a b) = decide (b ≤ a) := by
 unfold plEmpty;rw [bytes_data];have h : (s.extract a b).data.toList.length = b - a := by rw [data_len, ByteArray.size_extract]; omega
 by_cases hab : b ≤ a
 ·rw [decide_eq_true hab];have : (s.extract a b).data.toList = [] := List.length_eq_zero_iff.1 (by omega);rw [this]; rfl
 rw [decide_eq_false hab]
 rcases hl : (s.extract a b).data.toList with _ | ⟨c, l⟩
 ·rw [hl] at h; simp at h; omega
 rfl
theorem words_j1 (s : ByteArray) (hs : s.size ≤ 1000000) (i fr : Nat) (hf : fr ≤ i) (hi : i ≤ s.size) (acc R : List ByteArray) (ha : acc.length ≤ i)
  (h : Ev (fun k => r11_words.l0 k s (if fr < i then acc ++ [s.extract fr i] else acc) ((i + 1 : Nat) : Int) ((i + 1 : Nat) : Int)) R) :
  Ev (fun k => r11_words.j1 k s acc (fr : Int) (i : Int) true) R := by
 refine Ev.step (f := fun k => r11_words.l0 k s (if fr < i then acc ++ [s.extract fr i] else acc) ((i + 1 : Nat) : Int) ((i + 1 : Nat) : Int)) (fun k => ?_) h;simp only [r11_words.j1];rw [if_pos trivial, wrap_next (by omega)]
 by_cases hlt : fr < i
 ·rw [if_pos (by omega), if_pos (by omega), if_pos (by omega), if_pos (by omega), if_pos (by omega), if_pos hlt];rfl
 rw [if_neg (by omega), if_neg hlt]
theorem words_l0 (s : ByteArray) (hs : s.size ≤ 1000000) : ∀ (d i fr : Nat) (acc : List ByteArray), i + d = s.size → fr ≤ i → acc.length ≤ i →
  Ev (fun k => r11_words.l0 k s acc (fr : Int) (i : Int)) (acc ++ (segs 32 s d fr i).filter fun x => !plEmpty x) := by
 intro d
 induction d with
 | zero =>
  intro i fr acc hi hf ha;obtain rfl : i = s.size := by omega
  refine Ev.step (f := fun k => r11_words.j1 k s acc (fr : Int) (s.size : Int) true) (fun k => ?_) ?_
  ·simp only [r11_words.l0];rw [if_pos (by omega), if_pos trivial]
  refine words_j1 s hs s.size fr hf (Nat.le_refl _) acc _ ha ?_;refine Ev.step (f := fun _ => some (if fr < s.size then acc ++ [s.extract fr s.size] else acc)) (fun k => ?_) ?_
  ·simp only [r11_words.l0];rw [if_neg (by omega)]
  have e : (if fr < s.size then acc ++ [s.extract fr s.size] else acc) = acc ++ (segs 32 s 0 fr s.size).filter fun x => !plEmpty x := by
   unfold segs
   by_cases hlt : fr < s.size
   ·rw [if_pos hlt]
    simp [ext_empty s fr s.size (Nat.le_refl _), hlt]
   rw [if_neg hlt]
   simp [ext_empty s fr s.size (Nat.le_refl _), hlt]
  rw [e];exact Ev.now _
 | succ d ih =>
  intro i fr acc hi hf ha;obtain ⟨b, hb, hd⟩ := drop_get s i (by omega);have hbt := bt_get s i b hb
  by_cases h32 : bt s (i : Int) = 32
  ·refine Ev.step (f := fun k => r11_words.j1 k s acc (fr : Int) (i : Int) true) (fun k => ?_) ?_
   ·simp only [r11_words.l0];rw [if_pos (by omega), if_neg (by omega), if_pos (by omega), if_pos (by omega), h32];rfl
   refine words_j1 s hs i fr hf (by omega) acc _ ha ?_
   have e : acc ++ ((segs 32 s (d + 1) fr i).filter fun x => !plEmpty x) = (if fr < i then acc ++ [s.extract fr i] else acc) ++ (segs 32 s d (i + 1) (i + 1)).filter fun x => !plEmpty x := by
    conv => lhs; unfold segs
    rw [if_pos (by rw [h32]; rfl), List.filter_cons, ext_empty s fr i (by omega)]
    by_cases hlt : fr < i
    ·rw [if_pos hlt, decide_eq_false (by omega)]
     simp
    rw [if_neg hlt, decide_eq_true (by omega)]
    simp
   rw [e];refine ih (i + 1) (i + 1) _ (by omega) (Nat.le_refl _) ?_
   split
   ·rw [List.length_append]; simp; omega
   omega
  refine Ev.step (f := fun k => r11_words.j1 k s acc (fr : Int) (i : Int) false) (fun k => ?_) ?_
  ·simp only [r11_words.l0];rw [if_pos (by omega), if_neg (by omega), if_pos (by omega), if_pos (by omega), beq_eq_false_iff_ne.mpr h32]
  refine Ev.step (f := fun k => r11_words.l0 k s acc (fr : Int) ((i + 1 : Nat) : Int)) (fun k => ?_) ?_
  ·simp only [r11_words.j1];rw [if_neg (by decide), wrap_next (by omega)]
  have e : segs 32 s (d + 1) fr i = segs 32 s d fr (i + 1) := by
   conv => lhs; unfold segs
   rw [if_neg (by intro h; exact h32 (h.trans rfl))]
  rw [e];exact ih (i + 1) fr acc (by omega) (by omega) (by omega)
theorem words_ev (s : ByteArray) (hs : s.size ≤ 1000000) : Ev (fun k => r11_words.f k s) (plWords s) := by
  have h := words_l0 s hs s.size 0 0 [] (by omega) (Nat.le_refl _) (Nat.le_refl _)
  rw [segs_pieces] at h
  exact h
def optI : Option Int → Int
  | some n => n
  | none => -1
theorem deep_l0 (s : ByteArray) (hs : s.size ≤ 2) : ∀ (d i : Nat) (n : Int), i + d = s.size → 0 ≤ n → (d = 2 ∧ n ≤ 0 ∨ d = 1 ∧ n ≤ 9 ∨ d = 0 ∧ n ≤ 99) → Ev (fun k => r11_deep.l0 k s n (i : Int)) (optI (numGo (s.data.toList.drop i) n)) := by
 intro d
 induction d with
 | zero =>
  intro i n hi h0 hn;refine Ev.step (f := fun _ => some n) (fun k => ?_) ?_
  ·simp only [r11_deep.l0];rw [if_neg (by omega)]
  rw [List.drop_of_length_le (by rw [data_len]; omega)];exact Ev.now _
 | succ d ih =>
  intro i n hi h0 hn;obtain ⟨b, hb, hd⟩ := drop_get s i (by omega);have hbt := bt_get s i b hb;have hlt := b.toNat_lt;rw [hd];unfold numGo;refine Ev.step (f := fun k => if sFig b = true then r11_deep.l0 k s (wrap64 ((wrap64 (n * 10)) + (((b.toNat : Int) - 48) % 256))) ((i + 1 : Nat) : Int) else some (-1)) (fun k => ?_) ?_
  ·simp only [r11_deep.l0];rw [if_pos (by omega), if_pos (by omega), hbt, rfigure_f, wrap_next (by omega)];rfl
  by_cases hf : 48 ≤ (b.toNat : Int) ∧ (b.toNat : Int) ≤ 57
  ·rw [if_pos hf];have hfig : sFig b = true := by unfold sFig; exact decide_eq_true (by omega)
   have hw : wrap64 ((wrap64 (n * 10)) + (((b.toNat : Int) - 48) % 256)) = 10 * n + ((b.toNat : Int) - 48) := by
    have h1 : wrap64 (n * 10) = n * 10 := by unfold wrap64; omega
    rw [h1];unfold wrap64
    omega
   refine Ev.congr (fun k => by rw [if_pos hfig, hw]) (ih (i + 1) _ (by omega) (by omega) (by omega))
  rw [if_neg hf];have hfig : sFig b = false := by unfold sFig; exact decide_eq_false (by omega)
  exact Ev.congr (fun k => by rw [hfig]; exact if_neg (by decide)) (Ev.now _)
theorem deep_ev (s : ByteArray) : Ev (fun k => r11_deep.f k s) (optI (numS s)) := by
 have hyes : Ev (fun k => r11_deep.j0 k s true) (-1) := Ev.step (f := fun _ => some (-1)) (fun k => by simp only [r11_deep.j0]; rfl) (Ev.now _)
 have hno : s.size ≤ 2 → 1 ≤ s.size → Ev (fun k => r11_deep.j0 k s false) (optI (numGo s.data.toList 0)) := fun h h1 =>
  Ev.step (f := fun k => r11_deep.l0 k s 0 0) (fun k => by simp only [r11_deep.j0]; rfl) (by
   have h2 := deep_l0 s h s.size 0 0 (by omega) (Int.le_refl _) (by omega);rw [List.drop_zero] at h2
   exact h2)
 unfold r11_deep.f numS numOk
 by_cases h1 : s.size < 1
 ·rw [show ((s.size == 1) || ((s.size == 2) && (bt s 0 != 48))) = false by
   rw [Bool.or_eq_false_iff]; exact ⟨by simp; omega, by simp; omega⟩]
  exact Ev.congr (fun k => if_pos (by omega)) hyes
 by_cases h2 : s.size > 2
 ·rw [show ((s.size == 1) || ((s.size == 2) && (bt s 0 != 48))) = false by
   rw [Bool.or_eq_false_iff]; exact ⟨by simp; omega, by simp; omega⟩]
  exact Ev.congr (fun k => by rw [if_neg (by omega), if_pos (by omega)]) hyes
 by_cases h3 : s.size = 2
 ·refine Ev.congr (fun k => by rw [if_neg (by omega), if_neg (by omega), if_pos (by omega), if_pos (by omega)]) ?_
  by_cases h4 : bt s 0 = 48
  ·rw [show ((s.size == 1) || ((s.size == 2) && (bt s 0 != 48))) = false by rw [h3, h4]; rfl];rw [h4];exact hyes
  rw [show ((s.size == 1) || ((s.size == 2) && (bt s 0 != 48))) = true by rw [h3, bne_iff_ne.mpr h4]; rfl];rw [beq_eq_false_iff_ne.mpr h4, if_pos rfl];exact hno (by omega) (by omega)
 have h5 : s.size = 1 := by omega
 rw [show ((s.size == 1) || ((s.size == 2) && (bt s 0 != 48))) = true by rw [h5]; rfl, if_pos rfl];exact Ev.congr (fun k => by rw [if_neg (by omega), if_neg (by omega), if_neg (by omega)]) (hno (by omega) (by omega))
theorem numGo_nn : ∀ (l : List UInt8) (n m : Int), 0 ≤ n → numGo l n = some m → 0 ≤ m
  | [], n, m, h, e => by
    unfold numGo at e
    simp at e
    omega
  | c :: r, n, m, h, e => by
    unfold numGo at e
    split at e
    · next hc => exact numGo_nn r _ m (by omega) e
    · simp at e
theorem numS_nn {s : ByteArray} {m : Int} (e : numS s = some m) : 0 ≤ m := by
  unfold numS at e
  split at e
  · exact numGo_nn _ _ _ (Int.le_refl _) e
  · simp at e
end Go.Proofs.YtnbghhddmlohoaaDoor.Pure

end

section
namespace Go.Proofs.YtnbghhddmlohoaaDoor.Pure
open Go.RowKit Go.Proofs.YtnbghhddmlohoaaDoor.PAll Go.Proofs.YtnbghhddmlohoaaDoorW.PrintWords Go.Proofs.YtnbghhddmlohoaaDoorW.PrintLast

def w_raw : List (List UInt8) := [[105, 102, 114, 97, 109, 101], [110, 111, 101, 109, 98, 101, 100], [110, 111, 102, 114, 97, 109, 101, 115], [115, 99, 114, 105, 112, 116], [115, 116, 121, 108, 101], [120, 109, 112]]
def w_rcdata : List (List UInt8) := [[116, 101, 120, 116, 97, 114, 101, 97], [116, 105, 116, 108, 101]]
def w_table : List (List UInt8) := [[99, 97, 112, 116, 105, 111, 110], [99, 111, 108], [99, 111, 108, 103, 114, 111, 117, 112], [116, 98, 111, 100, 121], [116, 100], [116, 102, 111, 111, 116], [116, 104], [116, 104, 101, 97, 100], [116, 114]]
def w_skip : List (List UInt8) := [[98, 111, 100, 121], [102, 114, 97, 109, 101], [102, 114, 97, 109, 101, 115, 101, 116], [104, 101, 97, 100], [104, 116, 109, 108]]

def setK (k : Int) : List (List UInt8) :=
  if k = 2 then w_raw else if k = 3 then w_rcdata else if k = 12 then w_table ++ w_skip else []
def inK (k : Int) (name : ByteArray) : Bool := (setK k).contains name.data.toList

theorem size_toList (s : ByteArray) : s.toList.length = s.size := by rw [bytes_data]; simp
theorem bt_nat (s : ByteArray) (i : Nat) (h : i < s.size) : bt s (i : Int) = ((s.toList.getD i 0).toNat : Int) := by
  have h' : i < s.data.size := h
  rw [bytes_data]
  simp [bt, h, List.getD_eq_getElem?_getD]
  rfl
theorem among_l0 (a0 : ByteArray) (xs : List ByteArray) (hx : xs.length ≤ 1000000) : ∀ (d i k : Nat), i + d = xs.length → d < k →
  kind_among.l0 k a0 xs (xs.length : Int) (i : Int) = some ((xs.drop i).any fun s => s.toList == a0.toList) := by
 intro d
 induction d with
 | zero =>
  intro i k hi hk;obtain ⟨k, rfl⟩ : ∃ m, k = m + 1 := ⟨k - 1, by omega⟩;simp only [kind_among.l0];rw [if_neg (by omega), List.drop_of_length_le (by omega)];rfl
 | succ d ih =>
  intro i k hi hk;obtain ⟨k, rfl⟩ : ∃ m, k = m + 1 := ⟨k - 1, by omega⟩;have hlt : i < xs.length := by omega
  simp only [kind_among.l0];rw [if_pos (by omega), if_pos (by omega), if_pos (by omega), wrap_next (by omega), ih (i + 1) k (by omega) (by omega)];have e : rdOf ByteArray.empty xs (i : Int) = xs[i] := by simp [rdOf, List.getD_eq_getElem?_getD, hlt]
  rw [e, List.drop_eq_getElem_cons hlt, List.any_cons]
  by_cases h : xs[i].toList = a0.toList
  ·rw [if_pos h]; simp [h]
  rw [if_neg h]; simp [h]
theorem among_ev (a0 : ByteArray) (xs : List ByteArray) (hx : xs.length ≤ 1000000) : Ev (fun k => kind_among.f k a0 xs) ((xs.map fun s => s.data.toList).contains a0.data.toList) := by
 refine ⟨xs.length + 1, fun k hk => ?_⟩;have h := among_l0 a0 xs hx xs.length 0 k (by omega) (by omega);unfold kind_among.f;rw [List.drop_zero] at h;refine Eq.trans h ?_
 congr 1
 rw [List.contains_eq_any_beq, List.any_map]
 apply congrArg (fun p => List.any xs p)
 funext s
 rw [bytes_data, bytes_data];exact Bool.beq_comm
theorem raw_ev (a0 : ByteArray) : Ev (fun k => kind_raw.f k a0) (w_raw.contains a0.data.toList) := by
  unfold kind_raw.f
  refine Ev.bind (among_ev a0 _ (by decide)) ?_
  exact ⟨0, fun _ _ => rfl⟩
theorem rcdata_ev (a0 : ByteArray) : Ev (fun k => kind_rcdata.f k a0) (w_rcdata.contains a0.data.toList) := by
  unfold kind_rcdata.f
  refine Ev.bind (among_ev a0 _ (by decide)) ?_
  exact ⟨0, fun _ _ => rfl⟩
theorem table_ev (a0 : ByteArray) : Ev (fun k => kind_table.f k a0) (w_table.contains a0.data.toList) := by
  unfold kind_table.f
  refine Ev.bind (among_ev a0 _ (by decide)) ?_
  exact ⟨0, fun _ _ => rfl⟩
theorem Ev.or {g : Nat → Option Bool} {f : Nat → Option Bool} {b c : Bool} (h : Ev g b) (h' : Ev f c) : Ev (fun n => (g n).bind fun t => if t = true then some true else f n) (b || c) := by
  refine Ev.bind h ?_
  cases b with
  | true => exact ⟨0, fun _ _ => rfl⟩
  | false => exact Ev.congr (fun _ => rfl) h'
theorem Ev.pass {g : Nat → Option Bool} {b : Bool} (h : Ev g b) : Ev (fun n => (g n).bind fun t => some t) b := by
  refine Ev.bind h ?_
  exact ⟨0, fun _ _ => rfl⟩
theorem contains_append (a b : List (List UInt8)) (x : List UInt8) : (a ++ b).contains x = (a.contains x || b.contains x) := by
  simp
theorem is_ev (k0 : Int) (a1 : ByteArray) (h : k0 = 2 ∨ k0 = 3 ∨ k0 = 12 := by decide) : Ev (fun k => kind_Is.f k k0 a1) (inK k0 a1) := by
 unfold inK
 rcases h with rfl | rfl | rfl
 ·exact Ev.congr (fun _ => rfl) (Ev.pass (raw_ev a1))
 ·exact Ev.congr (fun _ => rfl) (Ev.pass (rcdata_ev a1))
 have e : setK 12 = w_table ++ w_skip := rfl;rw [e, contains_append];exact Ev.congr (fun _ => rfl) (Ev.or (table_ev a1) (Ev.pass (among_ev a1 _ (by decide))))
def splitG : List UInt8 → List UInt8 → List (List UInt8)
  | cur, [] => [cur]
  | cur, c :: r => if c = 32 then cur :: splitG [] r else splitG (cur ++ [c]) r
def splitB (s : ByteArray) : List (List UInt8) := splitG [] s.data.toList

theorem extract_take (s : ByteArray) (a b : Nat) : (s.extract a b).toList = (s.data.toList.drop a).take (b - a) := by
  rw [bytes_data]
  have e : (s.extract a b).data = s.data.extract a b := by simp
  rw [e, Array.toList_extract, List.extract_eq_take_drop]
theorem bt_data (s : ByteArray) (i : Nat) (h : i < s.size) (h' : i < s.data.toList.length) : bt s (i : Int) = (s.data.toList[i].toNat : Int) := by
  rw [bt_nat s i h, bytes_data, List.getD_eq_getElem?_getD, List.getElem?_eq_getElem h']
  rfl
theorem in_l0 (x0 x1 : ByteArray) (hs : x0.size ≤ 1000000) : ∀ (d b i k : Nat), i + d = x0.size → b ≤ i → 2 * d + 2 < k →
  r02_In.l0 k x0 x1 (b : Int) (i : Int) = some ((splitG ((x0.data.toList.drop b).take (i - b)) (x0.data.toList.drop i)).contains x1.data.toList) := by
 have hlen : x0.data.toList.length = x0.size := by simp
 intro d
 induction d with
 | zero =>
  intro b i k hi hb hk;obtain ⟨k, rfl⟩ : ∃ m, k = m + 3 := ⟨k - 3, by omega⟩;simp only [r02_In.l0, r02_In.j1];rw [if_pos (by omega), if_pos (by omega), if_pos trivial, if_pos (by omega), if_pos (by omega), if_pos (by omega)];rw [List.drop_of_length_le (show x0.data.toList.length ≤ i by omega)];rw [Int.toNat_natCast, Int.toNat_natCast, extract_take x0 b i, bytes_data];simp only [splitG]
  by_cases e : (x0.data.toList.drop b).take (i - b) = x1.data.toList
  ·rw [if_pos e]; simp [e]
  rw [if_neg e, wrap_next (by omega), if_neg (by omega)]
  simp [Ne.symm e]
 | succ d ih =>
  intro b i k hi hb hk;obtain ⟨k, rfl⟩ : ∃ m, k = m + 2 := ⟨k - 2, by omega⟩;have hlt : i < x0.size := by omega
  have hlt' : i < x0.data.toList.length := by omega
  simp only [r02_In.l0, r02_In.j1];rw [if_pos (by omega), if_neg (by omega), if_pos (by omega), if_pos (by omega)];rw [bt_data x0 i hlt hlt', wrap_next (by omega)];rw [List.drop_eq_getElem_cons hlt'];simp only [splitG]
  by_cases e : x0.data.toList[i] = 32
  ·have e' : (((x0.data.toList[i]).toNat : Int) == 32) = true := by rw [e]; rfl
   rw [e', if_pos rfl, if_pos e, if_pos (by omega), if_pos (by omega), if_pos (by omega), ih (i + 1) (i + 1) k (by omega) (by omega) (by omega)];rw [Int.toNat_natCast, Int.toNat_natCast, extract_take x0 b i, bytes_data x1];rw [Nat.sub_self, List.take_zero]
   by_cases q : (x0.data.toList.drop b).take (i - b) = x1.data.toList
   ·rw [if_pos q]; simp [q]
   rw [if_neg q]; simp [Ne.symm q]
  have e' : (((x0.data.toList[i]).toNat : Int) == 32) = false := by
   rw [beq_eq_false_iff_ne];intro q;exact e (UInt8.toNat.inj (show _ = 32 by omega))
  rw [e', if_neg (by simp), if_neg e, ih b (i + 1) k (by omega) (by omega) (by omega)];rw [show i + 1 - b = (i - b) + 1 by omega, List.take_add_one, List.getElem?_drop, show b + (i - b) = i by omega, List.getElem?_eq_getElem hlt'];rfl
theorem in_ev (a0 a1 : ByteArray) (hs : a0.size ≤ 1000000) : Ev (fun k => r02_In.f k a0 a1) ((splitB a0).contains a1.data.toList) := by
  refine ⟨2 * a0.size + 3, fun k hk => ?_⟩
  have h := in_l0 a0 a1 hs a0.size 0 0 k (by omega) (by omega) (by omega)
  rw [List.drop_zero, Nat.sub_zero, List.take_zero] at h
  exact h
def anyIn (xs : List ByteArray) (x : List UInt8) : Bool := xs.any fun s => (splitB s).contains x
theorem refIs_l0 (x1 : ByteArray) (xs : List ByteArray) (hx : xs.length ≤ 1000000) (hs : ∀ s ∈ xs, s.size ≤ 1000000) : ∀ (d i : Nat), i + d = xs.length →
  Ev (fun k => r02_Is.l0 k x1 xs (i : Int)) (anyIn (xs.drop i) x1.data.toList) := by
 intro d
 induction d with
 | zero =>
  intro i hi;refine Ev.step (f := fun _ => some false) (fun k => ?_) ?_
  ·simp only [r02_Is.l0]; rw [if_neg (by omega)]
  rw [List.drop_of_length_le (by omega)]; exact ⟨0, fun _ _ => rfl⟩
 | succ d ih =>
  intro i hi;have hlt : i < xs.length := by omega
  refine Ev.step (f := fun k => (r02_In.f k xs[i] x1).bind fun t => if t = true then some true else r02_Is.l0 k x1 xs ((i + 1 : Nat) : Int)) (fun k => ?_) ?_
  ·simp only [r02_Is.l0];have e : rdOf ByteArray.empty xs (i : Int) = xs[i] := by simp [rdOf, List.getD_eq_getElem?_getD, hlt]
   rw [if_pos (by omega), if_pos (by omega), e, wrap_next (by omega)]
  rw [List.drop_eq_getElem_cons hlt];exact Ev.or (in_ev xs[i] x1 (hs _ (List.getElem_mem hlt))) (ih (i + 1) (by omega))
theorem refIs_of {k0 : Int} {xs : List ByteArray} (h : r02_names.f k0 = some xs) (x1 : ByteArray) (hx : xs.length ≤ 1000000) (hs : ∀ s ∈ xs, s.size ≤ 1000000) :
  Ev (fun k => r02_Is.f k k0 x1) (anyIn xs x1.data.toList) := by
 have h0 := refIs_l0 x1 xs hx hs xs.length 0 (by omega);rw [List.drop_zero] at h0;unfold r02_Is.f;exact Ev.bind ⟨0, fun _ _ => h⟩ h0
theorem anyIn_eq {xs : List ByteArray} {S : List (List UInt8)} (h1 : ∀ y ∈ S, y ∈ xs.flatMap splitB) (h2 : ∀ y ∈ xs.flatMap splitB, y ∈ S) (x : List UInt8) : anyIn xs x = S.contains x := by
 rw [Bool.eq_iff_iff, List.contains_iff_mem];unfold anyIn;rw [List.any_eq_true]
 constructor
 ·rintro ⟨s, hs, hc⟩;exact h2 x (List.mem_flatMap.2 ⟨s, hs, List.contains_iff_mem.1 hc⟩)
 intro h;obtain ⟨s, hs, hc⟩ := List.mem_flatMap.1 (h1 x h);exact ⟨s, hs, List.contains_iff_mem.2 hc⟩
theorem refIs_set (k0 : Int) (xs : List ByteArray) (h : r02_names.f k0 = some xs) (x1 : ByteArray) (hx : xs.length ≤ 1000000) (hs : ∀ s ∈ xs, s.size ≤ 1000000)
    (h1 : ∀ y ∈ setK k0, y ∈ xs.flatMap splitB) (h2 : ∀ y ∈ xs.flatMap splitB, y ∈ setK k0) : Ev (fun k => r02_Is.f k k0 x1) (inK k0 x1) := by
  unfold inK
  rw [← anyIn_eq h1 h2]
  exact refIs_of h x1 hx hs
theorem refIs_ev (k0 : Int) (x1 : ByteArray) (h : k0 = 2 ∨ k0 = 3 ∨ k0 = 12 := by decide) : Ev (fun k => r02_Is.f k k0 x1) (inK k0 x1) := by
 rcases h with rfl | rfl | rfl
 ·exact refIs_set 2 _ rfl x1 (by decide +kernel) (by decide +kernel) (by decide +kernel) (by decide +kernel)
 ·exact refIs_set 3 _ rfl x1 (by decide +kernel) (by decide +kernel) (by decide +kernel) (by decide +kernel)
 exact refIs_set 12 _ rfl x1 (by decide +kernel) (by decide +kernel) (by decide +kernel) (by decide +kernel)
theorem Ev.way {α : Type} {g : Nat → Option Bool} {b : Bool} {X Y : Nat → Option α} {r : α} (h : Ev g b) (hx : b = true → Ev X r) (hy : b = false → Ev Y r) :
  Ev (fun n => (g n).bind fun t => if t = true then X n else Y n) r := by
 cases b with
 | true => exact Ev.bind (f := fun n t => if t = true then X n else Y n) h (Ev.congr (fun k => if_pos rfl) (hx rfl))
 | false => exact Ev.bind (f := fun n t => if t = true then X n else Y n) h (Ev.congr (fun k => if_neg (by decide)) (hy rfl))
def memB (l : List ByteArray) (x : ByteArray) : Bool := l.any fun y => y.data.toList == x.data.toList
def nmGo : List ByteArray → List ByteArray → Bool
  | _, [] => true
  | pre, x :: r => nameB x && (!memB pre x && nmGo (pre ++ [x]) r)
def namesS (l : List ByteArray) : Bool := nmGo [] l
theorem take_next (l : List ByteArray) (i : Nat) (h : i < l.length) : l.take i ++ [l[i]] = l.take (i + 1) := by
  rw [List.take_add_one, List.getElem?_eq_getElem h]; rfl
theorem areNames_l0 (l : List ByteArray) (hl : l.length ≤ 1000000) : ∀ (d i : Nat), i + d = l.length → Ev (fun k => p_areNames.l0 k l l (l.length : Int) (i : Int)) (nmGo (l.take i) (l.drop i)) := by
 intro d
 induction d with
 | zero =>
  intro i hi;refine Ev.step (f := fun _ => some true) (fun k => ?_) ?_
  ·simp only [p_areNames.l0];rw [if_neg (by omega)]
  rw [List.drop_of_length_le (by omega)]; exact Ev.now _
 | succ d ih =>
  intro i hi;have hlt : i < l.length := by omega
  rw [List.drop_eq_getElem_cons hlt];refine Ev.step (f := fun k => (p_isName.f l[i]).bind fun t => if t = true then ((slC_.f k (l.take i) l[i]).bind fun t2 => if t2 = true then some false else p_areNames.l0 k l l (l.length : Int) ((i + 1 : Nat) : Int)) else some false) (fun k => ?_) ?_
  ·simp only [p_areNames.l0];rw [if_pos (by omega), if_pos (by omega), if_pos (by omega), rd_at l i hlt, wrap_next (by omega), if_pos (show (i : Int) ≤ (l.length : Int) by omega)];rfl
  unfold nmGo;refine Ev.way (g := fun _ => p_isName.f l[i]) (b := nameB l[i]) ⟨0, fun _ _ => rfl⟩ (fun hn => ?_) (fun hn => ?_)
  ·refine Ev.way (contains_ev (l.take i) l[i] (by rw [List.length_take]; omega)) (fun hm => ?_) (fun hm => ?_)
   ·rw [hn, show memB (l.take i) l[i] = true from hm]; exact Ev.now _
   rw [hn, show memB (l.take i) l[i] = false from hm, take_next l i hlt]; exact ih (i + 1) (by omega)
  rw [hn]; exact Ev.now _
theorem areNames_ev (l : List ByteArray) (hl : l.length ≤ 1000000) : Ev (fun k => p_areNames.f k l) (namesS l) := by
  have h := areNames_l0 l hl l.length 0 (by omega)
  rw [List.take_zero, List.drop_zero] at h
  exact h
theorem refin_l0 (l : List ByteArray) (x : ByteArray) (hl : l.length ≤ 1000000) : ∀ (d i : Nat), i + d = l.length → Ev (fun k => r11_in.l0 k l x (i : Int)) (memB (l.drop i) x) := by
 intro d
 induction d with
 | zero =>
  intro i hi;refine Ev.step (f := fun _ => some false) (fun k => ?_) ?_
  ·simp only [r11_in.l0];rw [if_neg (by omega)]
  rw [List.drop_of_length_le (by omega)]; exact Ev.now _
 | succ d ih =>
  intro i hi;have hlt : i < l.length := by omega
  rw [List.drop_eq_getElem_cons hlt];unfold memB;rw [List.any_cons]
  by_cases h : l[i].data.toList = x.data.toList
  ·refine Ev.step (f := fun _ => some true) (fun k => ?_) ?_
   ·simp only [r11_in.l0];rw [if_pos (by omega), if_pos (by omega), rd_at l i hlt, bytes_data, bytes_data, if_pos h]
   rw [h, beq_self_eq_true, Bool.true_or]; exact Ev.now _
  refine Ev.step (f := fun k => r11_in.l0 k l x ((i + 1 : Nat) : Int)) (fun k => ?_) ?_
  ·simp only [r11_in.l0];rw [if_pos (by omega), if_pos (by omega), rd_at l i hlt, bytes_data, bytes_data, if_neg h, wrap_next (by omega)]
  have e : (l[i].data.toList == x.data.toList) = false := beq_eq_false_iff_ne.mpr h;rw [e, Bool.false_or];exact ih (i + 1) (by omega)
theorem refin_ev (l : List ByteArray) (x : ByteArray) (hl : l.length ≤ 1000000) : Ev (fun k => r11_in.f k l x) (memB l x) := by
  have h := refin_l0 l x hl l.length 0 (by omega)
  rw [List.drop_zero] at h
  exact h
theorem nmC_ref (c : UInt8) : nmC (c.toNat : Int) = (decide ((c.toNat : Int) ≥ 97 ∧ (c.toNat : Int) ≤ 122) || (sFig c || decide ((c.toNat : Int) = 45))) := by
  revert c
  apply u8_all
  decide +kernel
theorem refName_l0 (s : ByteArray) (hs : s.size ≤ 1000000) : ∀ (d i : Nat), i + d = s.size → Ev (fun k => r11_Name.l0 k s (i : Int)) ((s.data.toList.drop i).all (fun c => nmC (c.toNat : Int))) := by
 intro d
 induction d with
 | zero =>
  intro i hi;refine Ev.step (f := fun _ => some true) (fun k => ?_) ?_
  ·simp only [r11_Name.l0];rw [if_neg (by omega)]
  rw [List.drop_of_length_le (by rw [data_len]; omega)]; exact Ev.now _
 | succ d ih =>
  intro i hi;have hlt : i < s.size := by omega
  obtain ⟨c, hc, hd⟩ := drop_get s i hlt;have hb := bt_get s i c hc;rw [hd, List.all_cons, nmC_ref];refine Ev.step (f := fun k => if (c.toNat : Int) ≥ 97 then (if (c.toNat : Int) ≤ 122 then r11_Name.l0 k s ((i + 1 : Nat) : Int) else ((some (sFig c)).bind fun t => if t = true then r11_Name.l0 k s ((i + 1 : Nat) : Int) else (if (c.toNat : Int) = 45 then r11_Name.l0 k s ((i + 1 : Nat) : Int) else some false))) else ((some (sFig c)).bind fun t => if t = true then r11_Name.l0 k s ((i + 1 : Nat) : Int) else (if (c.toNat : Int) = 45 then r11_Name.l0 k s ((i + 1 : Nat) : Int) else some false))) (fun k => ?_) ?_
  ·simp only [r11_Name.l0];rw [if_pos (by omega), if_pos (by omega), hb, rfigure_f, wrap_next (by omega)]
  have hrest : Ev (fun k => (some (sFig c)).bind fun t => if t = true then r11_Name.l0 k s ((i + 1 : Nat) : Int) else (if (c.toNat : Int) = 45 then r11_Name.l0 k s ((i + 1 : Nat) : Int) else some false)) ((sFig c || decide ((c.toNat : Int) = 45)) && (s.data.toList.drop (i + 1)).all (fun c => nmC (c.toNat : Int))) := by
   refine Ev.way (g := fun _ => some (sFig c)) (Ev.now _) (fun h => ?_) (fun h => ?_)
   ·rw [h]; exact ih (i + 1) (by omega)
   rw [h]
   by_cases h45 : (c.toNat : Int) = 45
   ·rw [decide_eq_true h45];exact Ev.congr (fun k => if_pos h45) (ih (i + 1) (by omega))
   rw [decide_eq_false h45];exact Ev.congr (fun k => if_neg h45) (Ev.now _)
  by_cases h97 : (c.toNat : Int) ≥ 97
  ·by_cases h122 : (c.toNat : Int) ≤ 122
   ·rw [decide_eq_true (show (c.toNat : Int) ≥ 97 ∧ (c.toNat : Int) ≤ 122 from ⟨h97, h122⟩)];exact Ev.congr (fun k => by rw [if_pos h97, if_pos h122]) (ih (i + 1) (by omega))
   rw [decide_eq_false (show ¬ ((c.toNat : Int) ≥ 97 ∧ (c.toNat : Int) ≤ 122) from fun h => h122 h.2)];exact Ev.congr (fun k => by rw [if_pos h97, if_neg h122]) hrest
  rw [decide_eq_false (show ¬ ((c.toNat : Int) ≥ 97 ∧ (c.toNat : Int) ≤ 122) from fun h => h97 h.1)];exact Ev.congr (fun k => by rw [if_neg h97]) hrest
theorem refName_ev (s : ByteArray) : Ev (fun k => r11_Name.f k s) (nameB s) := by
 have hj : ∀ b : Bool, Ev (fun k => r11_Name.j0 k s b) (if b = true then false else if s.size ≤ 20 then s.data.toList.all (fun c => nmC (c.toNat : Int)) else false) ∨ ¬ s.size ≤ 20 := by
  intro b
  by_cases hs : s.size ≤ 20
  ·left
   have h := refName_l0 s (by omega) s.size 0 (by omega);rw [List.drop_zero] at h;refine Ev.step (f := fun k => if b = true then some false else r11_Name.l0 k s 0) (fun k => ?_) ?_
   ·simp only [r11_Name.j0]
   cases b with
   | true => exact Ev.congr (fun k => if_pos rfl) (Ev.now _)
   | false => rw [if_neg (by decide), if_pos hs]; exact Ev.congr (fun k => if_neg (by decide)) h
  exact .inr hs
 have hjt : Ev (fun k => r11_Name.j0 k s true) false := Ev.step (f := fun _ => some false) (fun k => by simp only [r11_Name.j0]; rfl) (Ev.now _);unfold r11_Name.f nameB
 by_cases h1 : (s.size : Int) < 1
 ·rw [decide_eq_false (show ¬ (1 ≤ s.size ∧ s.size ≤ 20) by omega)];exact Ev.congr (fun k => if_pos h1) hjt
 by_cases h20 : (s.size : Int) > 20
 ·rw [decide_eq_false (show ¬ (1 ≤ s.size ∧ s.size ≤ 20) by omega)];exact Ev.congr (fun k => by rw [if_neg h1, if_pos h20]) hjt
 rw [decide_eq_true (show 1 ≤ s.size ∧ s.size ≤ 20 by omega), Bool.true_and]
 by_cases ha : bt s 0 < 97
 ·rw [decide_eq_false (show ¬ (97 ≤ bt s 0 ∧ bt s 0 ≤ 122) by omega), Bool.false_and];exact Ev.congr (fun k => by rw [if_neg h1, if_neg h20, if_pos (by omega), if_pos ha]) hjt
 by_cases hb : bt s 0 > 122
 ·rw [decide_eq_false (show ¬ (97 ≤ bt s 0 ∧ bt s 0 ≤ 122) by omega), Bool.false_and];exact Ev.congr (fun k => by rw [if_neg h1, if_neg h20, if_pos (by omega), if_neg ha, decide_eq_true hb]) hjt
 rw [decide_eq_true (show 97 ≤ bt s 0 ∧ bt s 0 ≤ 122 by omega), Bool.true_and];have h := (hj false).resolve_right (by omega);rw [if_neg (by decide), if_pos (by omega)] at h;exact Ev.congr (fun k => by rw [if_neg h1, if_neg h20, if_pos (by omega), if_neg ha, decide_eq_false hb]) h
theorem refnames_l0 (l : List ByteArray) (hl : l.length ≤ 1000000) : ∀ (d i : Nat), i + d = l.length → Ev (fun k => r11_names.l0 k l (i : Int)) (nmGo (l.take i) (l.drop i)) := by
 intro d
 induction d with
 | zero =>
  intro i hi;refine Ev.step (f := fun _ => some true) (fun k => ?_) ?_
  ·simp only [r11_names.l0];rw [if_neg (by omega)]
  rw [List.drop_of_length_le (by omega)]; exact Ev.now _
 | succ d ih =>
  intro i hi;have hlt : i < l.length := by omega
  rw [List.drop_eq_getElem_cons hlt];refine Ev.step (f := fun k => (r11_Name.f k l[i]).bind fun t => if t = true then ((r11_in.f k (l.take i) l[i]).bind fun t2 => if t2 = true then some false else r11_names.l0 k l ((i + 1 : Nat) : Int)) else some false) (fun k => ?_) ?_
  ·simp only [r11_names.l0];rw [if_pos (by omega), if_pos (by omega), rd_at l i hlt, wrap_next (by omega), if_pos (show (i : Int) ≤ (l.length : Int) by omega)];rfl
  unfold nmGo;refine Ev.way (refName_ev l[i]) (fun hn => ?_) (fun hn => ?_)
  ·refine Ev.way (refin_ev (l.take i) l[i] (by rw [List.length_take]; omega)) (fun hm => ?_) (fun hm => ?_)
   ·rw [hn, hm]; exact Ev.now _
   rw [hn, hm, take_next l i hlt]; exact ih (i + 1) (by omega)
  rw [hn]; exact Ev.now _
theorem refnames_ev (l : List ByteArray) (hl : l.length ≤ 1000000) : Ev (fun k => r11_names.f k l) (namesS l) := by
  have h := refnames_l0 l hl l.length 0 (by omega)
  rw [List.take_zero, List.drop_zero] at h
  exact h
def hardN : List (List UInt8) := [[109, 97, 116, 104], [110, 111, 115, 99, 114, 105, 112, 116], [112, 108, 97, 105, 110, 116, 101, 120, 116], [115, 118, 103], [116, 101, 109, 112, 108, 97, 116, 101]]
def neverS (s : ByteArray) : Bool := hardN.contains s.data.toList || (inK 2 s || (inK 3 s || inK 12 s))
theorem never_j0 (s : ByteArray) (b : Bool) : Ev (fun k => p_never.j0 k s b) (b || (inK 2 s || (inK 3 s || inK 12 s))) := by
 refine Ev.step (f := fun k => if b = true then some true else ((kind_Is.f k 2 s).bind fun t => if t = true then some true else ((kind_Is.f k 3 s).bind fun t => if t = true then some true else ((kind_Is.f k 12 s).bind fun t => some t)))) (fun k => by simp only [p_never.j0]) ?_
 cases b with
 | true => exact Ev.congr (fun k => if_pos rfl) (Ev.now _)
 | false =>
  refine Ev.congr (fun k => if_neg (by decide)) ?_;rw [Bool.false_or];exact Ev.or (is_ev 2 s) (Ev.or (is_ev 3 s) (Ev.pass (is_ev 12 s)))
theorem never_ev (s : ByteArray) : Ev (fun k => p_never.f k s) (neverS s) := by
 have hc : ∀ L : List UInt8, (s.data.toList == L) = (s.toList == L) := fun L => by rw [bytes_data]
 have e : neverS s = (s.toList == [109, 97, 116, 104] || (s.toList == [110, 111, 115, 99, 114, 105, 112, 116] || (s.toList == [112, 108, 97, 105, 110, 116, 101, 120, 116] || (s.toList == [115, 118, 103] || (s.toList == [116, 101, 109, 112, 108, 97, 116, 101]))))
   || (inK 2 s || (inK 3 s || inK 12 s))) := by
  unfold neverS hardN;simp only [List.contains_cons, List.contains_nil, Bool.or_false, hc]
 rw [e];unfold p_never.f
 by_cases h1 : s.toList = ([109, 97, 116, 104] : List UInt8)
 ·rw [h1];exact Ev.congr (fun k => if_pos rfl) (never_j0 s true)
 rw [beq_eq_false_iff_ne.mpr h1, Bool.false_or];refine Ev.congr (fun k => if_neg h1) ?_
 by_cases h2 : s.toList = ([110, 111, 115, 99, 114, 105, 112, 116] : List UInt8)
 ·rw [h2];exact Ev.congr (fun k => if_pos rfl) (never_j0 s true)
 rw [beq_eq_false_iff_ne.mpr h2, Bool.false_or];refine Ev.congr (fun k => if_neg h2) ?_
 by_cases h3 : s.toList = ([112, 108, 97, 105, 110, 116, 101, 120, 116] : List UInt8)
 ·rw [h3];exact Ev.congr (fun k => if_pos rfl) (never_j0 s true)
 rw [beq_eq_false_iff_ne.mpr h3, Bool.false_or];refine Ev.congr (fun k => if_neg h3) ?_
 by_cases h4 : s.toList = ([115, 118, 103] : List UInt8)
 ·rw [h4];exact Ev.congr (fun k => if_pos rfl) (never_j0 s true)
 rw [beq_eq_false_iff_ne.mpr h4, Bool.false_or];exact Ev.congr (fun k => if_neg h4) (never_j0 s _)
def restB (dr : List ByteArray) (x : S53) : Bool := !neverS x.f0 && (!memB dr x.f0 && (namesS x.f1 && !x.f1.any actsB))
def chkGo (dr : List ByteArray) : List ByteArray → List S53 → Bool
  | all, [] => namesS all
  | all, x :: r => restB dr x && chkGo dr (all ++ [x.f0]) r
theorem rdT_at (l : List S53) (i : Nat) (h : i < l.length) : rd_T53 l (i : Int) = l[i] := by
  simp [rd_T53, List.getD_eq_getElem?_getD, h]
def okE (b : Bool) : Int := if b = true then 0 else 1
theorem check_l0 (l : List S53) (l1 l2 l3 : List ByteArray) (d0 : Int) (hl : l.length ≤ 1000) (h3 : l3.length ≤ 1000) (ha : ∀ x ∈ l, x.f1.length ≤ 1000) : ∀ (d i : Nat) (all : List ByteArray), i + d = l.length → all.length = i →
  Ev (fun k => p_Check.l0 k all l (l.length : Int) (i : Int) l l1 l2 l3 d0) (okE (chkGo l3 all (l.drop i))) := by
 intro d
 induction d with
 | zero =>
  intro i all hi hall;refine Ev.step (f := fun k => (p_areNames.f k all).bind fun t => if t = true then some 0 else some 1) (fun k => ?_) ?_
  ·simp only [p_Check.l0];rw [if_neg (by omega)]
  rw [List.drop_of_length_le (by omega)];show Ev _ (okE (namesS all));refine Ev.way (areNames_ev all (by omega)) (fun h => ?_) (fun h => ?_)
  ·rw [h]; exact Ev.now _
  rw [h]; exact Ev.now _
 | succ d ih =>
  intro i all hi hall;have hlt : i < l.length := by omega
  rw [List.drop_eq_getElem_cons hlt];have hf1 : l[i].f1.length ≤ 1000 := ha _ (List.getElem_mem hlt);refine Ev.step (f := fun k => (p_never.f k l[i].f0).bind fun t => if t = true then some 1 else ((slC_.f k l3 l[i].f0).bind fun t => if t = true then some 1 else ((p_areNames.f k l[i].f1).bind fun t => if t = true then ((cf_acts.f l[i].f1).bind fun t => if t = true then some 1 else p_Check.l0 k (all ++ [l[i].f0]) l (l.length : Int) ((i + 1 : Nat) : Int) l l1 l2 l3 d0) else some 1))) (fun k => ?_) ?_
  ·simp only [p_Check.l0];rw [if_pos (by omega), if_pos (by omega), if_pos (by omega), rdT_at l i hlt, wrap_next (by omega), if_pos (show all.length < 8796093022208 by omega)]
  unfold chkGo restB;refine Ev.way (never_ev l[i].f0) (fun h => ?_) (fun h => ?_)
  ·rw [h]; exact Ev.now _
  rw [h];refine Ev.way (contains_ev l3 l[i].f0 (by omega)) (fun h => ?_) (fun h => ?_)
  ·rw [show memB l3 l[i].f0 = true from h]; exact Ev.now _
  rw [show memB l3 l[i].f0 = false from h];refine Ev.way (areNames_ev l[i].f1 (by omega)) (fun h => ?_) (fun h => ?_)
  ·rw [h];refine Ev.way (g := fun _ => cf_acts.f l[i].f1) (b := l[i].f1.any actsB) ⟨0, fun _ _ => by unfold cf_acts.f; rw [if_pos hf1]⟩ (fun h => ?_) (fun h => ?_)
   ·rw [h]; exact Ev.now _
   rw [h]; exact ih (i + 1) (all ++ [l[i].f0]) (by omega) (by simp; omega)
  rw [h]; exact Ev.now _
def headB (l1 l2 l3 : List ByteArray) (d : Int) : Bool := decide (1 ≤ d ∧ d ≤ 60) && (namesS l1 && (namesS l2 && (namesS l3 && !l2.any runsB)))
def checkS (l0 : List S53) (l1 l2 l3 : List ByteArray) (d : Int) : Int := if largeB l0 l1 l2 l3 = true then 4 else okE (headB l1 l2 l3 d && chkGo l3 [] l0)
structure SmallP (l0 : List S53) (l1 l2 l3 : List ByteArray) : Prop where
  b0 : l0.length ≤ 1000
  b1 : l1.length ≤ 1000
  b2 : l2.length ≤ 1000
  b3 : l3.length ≤ 1000
  ba : ∀ x ∈ l0, x.f1.length ≤ 1000
theorem check_ev (l0 : List S53) (l1 l2 l3 : List ByteArray) (d : Int) (hs : SmallP l0 l1 l2 l3) : Ev (fun k => p_Check.f k l0 l1 l2 l3 d) (checkS l0 l1 l2 l3 d) := by
 obtain ⟨h0, h1, h2, h3, ha⟩ := hs;have hj1 : Ev (fun k => p_Check.j0 k true l0 l1 l2 l3 d) 1 := Ev.step (f := fun _ => some 1) (fun k => by simp only [p_Check.j0]; rfl) (Ev.now _)
 have hj0 : Ev (fun k => p_Check.j0 k false l0 l1 l2 l3 d) (okE (chkGo l3 [] l0)) := by
  refine Ev.step (f := fun k => p_Check.l0 k [] l0 (l0.length : Int) 0 l0 l1 l2 l3 d) (fun k => by simp only [p_Check.j0]; rfl) ?_;have h := check_l0 l0 l1 l2 l3 d h0 h3 ha l0.length 0 [] (by omega) rfl;rw [List.drop_zero] at h;exact h
 unfold p_Check.f checkS;refine Ev.way (g := fun _ => p_large.f l0 l1 l2 l3 d) (b := largeB l0 l1 l2 l3) ⟨0, fun _ _ => rfl⟩ (fun h => ?_) (fun h => ?_)
 ·rw [if_pos h]; exact Ev.now _
 rw [if_neg (by rw [h]; decide)];unfold headB
 by_cases hd1 : d < 1
 ·rw [decide_eq_false (show ¬ (1 ≤ d ∧ d ≤ 60) by omega)];exact Ev.congr (fun k => if_pos hd1) hj1
 by_cases hd2 : d > 60
 ·rw [decide_eq_false (show ¬ (1 ≤ d ∧ d ≤ 60) by omega)];exact Ev.congr (fun k => by rw [if_neg hd1, if_pos hd2]) hj1
 rw [decide_eq_true (show 1 ≤ d ∧ d ≤ 60 by omega)];refine Ev.congr (fun k => by rw [if_neg hd1, if_neg hd2]) ?_;refine Ev.way (areNames_ev l1 (by omega)) (fun h => ?_) (fun h => ?_)
 ·rw [h];refine Ev.way (areNames_ev l2 (by omega)) (fun h => ?_) (fun h => ?_)
  ·rw [h];refine Ev.way (areNames_ev l3 (by omega)) (fun h => ?_) (fun h => ?_)
   ·rw [h];refine Ev.bind (g := fun _ => cf_runs.f l2) (f := fun k t => p_Check.j0 k t l0 l1 l2 l3 d) (a := l2.any runsB) ⟨0, fun _ _ => by unfold cf_runs.f; rw [if_pos h2]⟩ ?_
    cases h : l2.any runsB with
    | true => exact hj1
    | false => exact hj0
   rw [h]; exact hj1
  rw [h]; exact hj1
 rw [h]; exact hj1
end Go.Proofs.YtnbghhddmlohoaaDoor.Pure

end

section
namespace Go.Proofs.YtnbghhddmlohoaaDoor.Pure
open Go.RowKit Go.Proofs.YtnbghhddmlohoaaDoor.PAll Go.Proofs.YtnbghhddmlohoaaDoorW.PrintWords Go.Proofs.YtnbghhddmlohoaaDoorW.PrintLast
set_option linter.unusedSimpArgs false
set_option linter.unusedVariables false

def ruleS (x : S53) : Bool := nameB x.f0 && (namesS x.f1 && (!(inK 2 x.f0 || (inK 3 x.f0 || inK 12 x.f0)) && (!x.f1.any actsB && !hardN.contains x.f0.data.toList)))
theorem hard_is : splitB (⟨#[109, 97, 116, 104, 32, 110, 111, 115, 99, 114, 105, 112, 116, 32, 112, 108, 97, 105, 110, 116, 101, 120, 116, 32, 115, 118, 103, 32, 116, 101, 109, 112, 108, 97, 116, 101]⟩ : ByteArray) = hardN := by decide +kernel
theorem rule_l0 (a : ByteArray) (l : List ByteArray) (hl : l.length ≤ 1000) : ∀ (d i : Nat), i + d = l.length → Ev (fun k => r11_rule.l0 k (i : Int) a l) (!(l.drop i).any actsB && !hardN.contains a.data.toList) := by
 intro d
 induction d with
 | zero =>
  intro i hi;refine Ev.step (f := fun k => (r02_In.f k (⟨#[109, 97, 116, 104, 32, 110, 111, 115, 99, 114, 105, 112, 116, 32, 112, 108, 97, 105, 110, 116, 101, 120, 116, 32, 115, 118, 103, 32, 116, 101, 109, 112, 108, 97, 116, 101]⟩ : ByteArray) a).bind fun t => some (!t)) (fun k => ?_) ?_
  ·simp only [r11_rule.l0];rw [if_neg (by omega)]
  rw [List.drop_of_length_le (by omega)];have h := in_ev (⟨#[109, 97, 116, 104, 32, 110, 111, 115, 99, 114, 105, 112, 116, 32, 112, 108, 97, 105, 110, 116, 101, 120, 116, 32, 115, 118, 103, 32, 116, 101, 109, 112, 108, 97, 116, 101]⟩ : ByteArray) a (by decide);rw [hard_is] at h;exact Ev.bind (f := fun _ t => some (!t)) h (Ev.now _)
 | succ d ih =>
  intro i hi;have hlt : i < l.length := by omega
  have ih' := ih (i + 1) (by omega);rw [List.drop_eq_getElem_cons hlt, List.any_cons];obtain ⟨y, hy⟩ : ∃ y, y = l[i] := ⟨_, rfl⟩;rw [← hy];have hrd : rdOf ByteArray.empty l (i : Int) = y := by rw [hy]; exact rd_at l i hlt
  have hex : (y.extract 0 2).toList = y.toList.take 2 := by rw [bytes_data, bytes_data, ext_take]; rfl
  have hlen : y.toList.length = y.size := size_toList y;have hfalse : actsB y = true → Ev (fun _ => (some false : Option Bool)) (!(actsB y || (l.drop (i + 1)).any actsB) && !hardN.contains a.data.toList) := fun h => by rw [h]; exact Ev.now _
  have hnext : actsB y = false → Ev (fun k => r11_rule.l0 k ((i + 1 : Nat) : Int) a l) (!(actsB y || (l.drop (i + 1)).any actsB) && !hardN.contains a.data.toList) := fun h => by rw [h, Bool.false_or]; exact ih'
  have hunf : ∀ k, r11_rule.l0 (k + 1) (i : Int) a l = if y.toList = ([115, 116, 121, 108, 101] : List UInt8) then some false else if y.toList = ([115, 114, 99, 100, 111, 99] : List UInt8) then some false else if (y.size : Int) ≥ 2 then (if (y.extract 0 2).toList = ([111, 110] : List UInt8) then some false else r11_rule.l0 k ((i + 1 : Nat) : Int) a l) else r11_rule.l0 k ((i + 1 : Nat) : Int) a l := fun k => by
   simp only [r11_rule.l0];rw [if_pos (by omega), if_pos (by omega), hrd, wrap_next (by omega)]
   by_cases h2 : (y.size : Int) ≥ 2
   ·simp only [if_pos h2, show ((0 : Int) ≤ 2) = True from eq_true (by decide), show ((0 : Nat) ≤ 2) = True from eq_true (by decide), if_true, if_pos (show (2 : Int) ≤ (y.size : Int) from h2)]
   simp only [if_neg h2]
  by_cases h1 : y.toList = ([115, 116, 121, 108, 101] : List UInt8)
  ·exact Ev.step (f := fun _ => some false) (fun k => by rw [hunf, if_pos h1]) (hfalse (by unfold actsB; rw [h1]; decide))
  by_cases h2 : y.toList = ([115, 114, 99, 100, 111, 99] : List UInt8)
  ·exact Ev.step (f := fun _ => some false) (fun k => by rw [hunf, if_neg h1, if_pos h2]) (hfalse (by unfold actsB; rw [h2]; decide))
  by_cases h3 : (y.size : Int) ≥ 2
  ·by_cases h4 : y.toList.take 2 = ([111, 110] : List UInt8)
   ·exact Ev.step (f := fun _ => some false) (fun k => by rw [hunf, if_neg h1, if_neg h2, if_pos h3, hex, if_pos h4]) (hfalse (by unfold actsB; rw [h4]; rfl))
   exact Ev.step (f := fun k => r11_rule.l0 k ((i + 1 : Nat) : Int) a l) (fun k => by rw [hunf, if_neg h1, if_neg h2, if_pos h3, hex, if_neg h4]) (hnext (by unfold actsB; rw [beq_eq_false_iff_ne.mpr h1, beq_eq_false_iff_ne.mpr h2, beq_eq_false_iff_ne.mpr h4]; rfl))
  have h4 : y.toList.take 2 ≠ ([111, 110] : List UInt8) := fun he => by
   have := congrArg List.length he;rw [List.length_take, hlen] at this
   simp at this
   omega
  exact Ev.step (f := fun k => r11_rule.l0 k ((i + 1 : Nat) : Int) a l) (fun k => by rw [hunf, if_neg h1, if_neg h2, if_neg h3]) (hnext (by unfold actsB; rw [beq_eq_false_iff_ne.mpr h1, beq_eq_false_iff_ne.mpr h2, beq_eq_false_iff_ne.mpr h4]; rfl))
theorem rule_ev (x : S53) (hl : x.f1.length ≤ 1000) : Ev (fun k => r11_rule.f k x.f0 x.f1) (ruleS x) := by
 have hjt : Ev (fun k => r11_rule.j0 k true x.f0 x.f1) false := Ev.step (f := fun _ => some false) (fun k => by simp only [r11_rule.j0]; rfl) (Ev.now _)
 have hjf : Ev (fun k => r11_rule.j0 k false x.f0 x.f1) (!x.f1.any actsB && !hardN.contains x.f0.data.toList) := by
  refine Ev.step (f := fun k => r11_rule.l0 k 0 x.f0 x.f1) (fun k => by simp only [r11_rule.j0]; rfl) ?_;have h := rule_l0 x.f0 x.f1 hl x.f1.length 0 (by omega);rw [List.drop_zero] at h;exact h
 unfold r11_rule.f ruleS;refine Ev.way (refName_ev x.f0) (fun h => ?_) (fun h => ?_)
 ·rw [h];refine Ev.way (refnames_ev x.f1 (by omega)) (fun h => ?_) (fun h => ?_)
  ·rw [h];refine Ev.way (refIs_ev 2 x.f0) (fun h => ?_) (fun h => ?_)
   ·rw [h]; exact hjt
   rw [h];refine Ev.way (refIs_ev 3 x.f0) (fun h => ?_) (fun h => ?_)
   ·rw [h]; exact hjt
   rw [h];refine Ev.bind (f := fun k t => r11_rule.j0 k t x.f0 x.f1) (refIs_ev 12 x.f0) ?_
   cases inK 12 x.f0 with
   | true => exact hjt
   | false => exact hjf
  rw [h]; exact hjt
 rw [h]; exact hjt
def farB (pre : List S53) (x : S53) : Bool := pre.all fun y => y.f0.toList != x.f0.toList
def refGo (dr : List ByteArray) : List S53 → List S53 → Bool
  | _, [] => true
  | pre, x :: r => (farB pre x && (ruleS x && !memB dr x.f0)) && refGo dr (pre ++ [x]) r
def runM (l2 : List ByteArray) : Bool := memB l2 ⟨#[100, 97, 116, 97]⟩ || (memB l2 ⟨#[106, 97, 118, 97, 115, 99, 114, 105, 112, 116]⟩ || memB l2 ⟨#[118, 98, 115, 99, 114, 105, 112, 116]⟩)
def finS (l2 : List ByteArray) (b : Bool) : Int := okE (b && !runM l2)
section
variable (l : List S53) (l1 l2 l3 : List ByteArray) (d0 : Int) (hs : SmallP l l1 l2 l3)
include hs
theorem ref_l2 (i : Nat) (hlt : i < l.length) (H1 : ∀ b, Ev (fun k => r11_Check.l1 k b ((i + 1 : Nat) : Int) l l1 l2 l3 d0) (finS l2 (b && refGo l3 (l.take (i + 1)) (l.drop (i + 1))))) :
  ∀ (e j : Nat) (ok : Bool), j + e = i → Ev (fun k => r11_Check.l2 k ok (i : Int) (j : Int) l l1 l2 l3 d0) (finS l2 ((ok && (farB ((l.take i).drop j) l[i] && (ruleS l[i] && !memB l3 l[i].f0))) && refGo l3 (l.take (i + 1)) (l.drop (i + 1)))) := by
 obtain ⟨h0, h1, h2, h3, ha⟩ := hs;intro e
 induction e with
 | zero =>
  intro j ok hj;have hjl : (l.take i).drop j = [] := List.drop_of_length_le (by rw [List.length_take]; omega);rw [hjl];refine Ev.step (f := fun k => if ok = true then ((r11_rule.f k l[i].f0 l[i].f1).bind fun t => if t = true then ((r11_in.f k l3 l[i].f0).bind fun t2 => r11_Check.l1 k (!t2) ((i + 1 : Nat) : Int) l l1 l2 l3 d0) else r11_Check.l1 k false ((i + 1 : Nat) : Int) l l1 l2 l3 d0) else r11_Check.l1 k false ((i + 1 : Nat) : Int) l l1 l2 l3 d0) (fun k => ?_) ?_
  ·simp only [r11_Check.l2];rw [if_neg (show ¬ ((j : Int) < (i : Int)) by omega), if_pos (show (0 : Int) ≤ (i : Int) by omega), if_pos (show (i : Int) < (l.length : Int) by omega), rdT_at l i hlt, wrap_next (by omega)]
  cases ok with
  | false => exact Ev.congr (fun k => if_neg (by decide)) (H1 false)
  | true =>
   refine Ev.congr (fun k => if_pos rfl) ?_;refine Ev.way (rule_ev l[i] (ha _ (List.getElem_mem hlt))) (fun h => ?_) (fun h => ?_)
   ·rw [h];refine Ev.bind (f := fun k t2 => r11_Check.l1 k (!t2) ((i + 1 : Nat) : Int) l l1 l2 l3 d0) (refin_ev l3 l[i].f0 (by omega)) ?_;exact H1 _
   rw [h]; exact H1 false
 | succ e ih =>
  intro j ok hj;have hjl : j < l.length := by omega
  have hd : (l.take i).drop j = l[j] :: (l.take i).drop (j + 1) := by
   rw [List.drop_eq_getElem_cons (by rw [List.length_take]; omega)]
   simp
  rw [hd];unfold farB;rw [List.all_cons];refine Ev.step (f := fun k => if ok = true then r11_Check.l2 k (l[j].f0.toList != l[i].f0.toList) (i : Int) ((j + 1 : Nat) : Int) l l1 l2 l3 d0 else r11_Check.l2 k false (i : Int) ((j + 1 : Nat) : Int) l l1 l2 l3 d0) (fun k => ?_) ?_
  ·simp only [r11_Check.l2];rw [if_pos (show (j : Int) < (i : Int) by omega), if_pos (show (0 : Int) ≤ (j : Int) by omega), if_pos (show (j : Int) < (l.length : Int) by omega), if_pos (show (0 : Int) ≤ (i : Int) by omega), if_pos (show (i : Int) < (l.length : Int) by omega), rdT_at l i hlt, rdT_at l j hjl, wrap_next (by omega)]
  cases ok with
  | false => exact Ev.congr (fun k => if_neg (by decide)) (ih (j + 1) false (by omega))
  | true =>
   have h := ih (j + 1) (l[j].f0.toList != l[i].f0.toList) (by omega);unfold farB at h;refine Ev.congr (fun k => if_pos rfl) ?_;rw [Bool.true_and, Bool.and_assoc (l[j].f0.toList != l[i].f0.toList)];exact h
theorem ref_l1 : ∀ (e i : Nat) (ok : Bool), i + e = l.length → Ev (fun k => r11_Check.l1 k ok (i : Int) l l1 l2 l3 d0) (finS l2 (ok && refGo l3 (l.take i) (l.drop i))) := by
 intro e
 induction e with
 | zero =>
  intro i ok hi;rw [List.drop_of_length_le (by omega)];refine Ev.step (f := fun k => if ok = true then ((r11_in.f k l2 (⟨#[100, 97, 116, 97]⟩ : ByteArray)).bind fun t => if t = true then some 1 else ((r11_in.f k l2 (⟨#[106, 97, 118, 97, 115, 99, 114, 105, 112, 116]⟩ : ByteArray)).bind fun t => if t = true then some 1 else ((r11_in.f k l2 (⟨#[118, 98, 115, 99, 114, 105, 112, 116]⟩ : ByteArray)).bind fun t => if t = true then some 1 else some 0))) else some 1) (fun k => ?_) ?_
  ·simp only [r11_Check.l1];rw [if_neg (by omega)]
  unfold finS runM refGo
  cases ok with
  | false => exact Ev.congr (fun k => if_neg (by decide)) (Ev.now _)
  | true =>
   refine Ev.congr (fun k => if_pos rfl) ?_;have hb2 := hs.b2;refine Ev.way (refin_ev l2 _ (by omega)) (fun h => ?_) (fun h => ?_)
   ·rw [h]; exact Ev.now _
   rw [h];refine Ev.way (refin_ev l2 _ (by omega)) (fun h => ?_) (fun h => ?_)
   ·rw [h]; exact Ev.now _
   rw [h];refine Ev.way (refin_ev l2 _ (by omega)) (fun h => ?_) (fun h => ?_)
   ·rw [h]; exact Ev.now _
   rw [h]; exact Ev.now _
 | succ e ih =>
  intro i ok hi;have hlt : i < l.length := by omega
  have hb0 := hs.b0;rw [List.drop_eq_getElem_cons hlt];refine Ev.step (f := fun k => r11_Check.l2 k ok (i : Int) 0 l l1 l2 l3 d0) (fun k => ?_) ?_
  ·simp only [r11_Check.l1];rw [if_pos (by omega)]
  have h := ref_l2 l l1 l2 l3 d0 hs i hlt (fun b => ih (i + 1) b (by omega)) i 0 ok (by omega);rw [List.drop_zero] at h;unfold refGo;have ht : l.take i ++ [l[i]] = l.take (i + 1) := by rw [List.take_add_one, List.getElem?_eq_getElem hlt]; rfl
  rw [ht, ← Bool.and_assoc ok];exact h
end
end Go.Proofs.YtnbghhddmlohoaaDoor.Pure

end

section
namespace Go.Proofs.YtnbghhddmlohoaaDoor.Pure
open Go.RowKit Go.Proofs.YtnbghhddmlohoaaDoor.PAll Go.Proofs.YtnbghhddmlohoaaDoorW.PrintWords Go.Proofs.YtnbghhddmlohoaaDoorW.PrintLast
set_option linter.unusedSimpArgs false
set_option linter.unusedVariables false

def headR (l1 l2 l3 : List ByteArray) (d : Int) : Bool := decide (1 ≤ d ∧ d ≤ 60) && (namesS l1 && (namesS l2 && namesS l3))
section
variable (l : List S53) (l1 l2 l3 : List ByteArray) (d0 : Int) (hs : SmallP l l1 l2 l3)
include hs
theorem ref_j3 (ok : Bool) : Ev (fun k => r11_Check.j3 k ok l l1 l2 l3 d0) (finS l2 (ok && refGo l3 [] l)) := by
  refine Ev.step (f := fun k => r11_Check.l1 k ok 0 l l1 l2 l3 d0) (fun k => by simp only [r11_Check.j3]) ?_
  have h := ref_l1 l l1 l2 l3 d0 hs l.length 0 ok (by omega)
  rw [List.take_zero, List.drop_zero] at h
  exact h
def refX (b : Bool) : Int := if b = true then 4 else finS l2 (headR l1 l2 l3 d0 && refGo l3 [] l)
theorem ref_j2 (b : Bool) : Ev (fun k => r11_Check.j2 k b l l1 l2 l3 d0) (refX l l1 l2 l3 d0 b) := by
 have hj := ref_j3 l l1 l2 l3 d0 hs;obtain ⟨h0, h1, h2, h3, ha⟩ := hs;refine Ev.step (f := fun k => if b = true then some 4 else (if d0 ≥ 1 then (if d0 ≤ 60 then ((r11_names.f k l1).bind fun t => if t = true then ((r11_names.f k l2).bind fun t => if t = true then ((r11_names.f k l3).bind fun t => r11_Check.j3 k t l l1 l2 l3 d0) else r11_Check.j3 k false l l1 l2 l3 d0) else r11_Check.j3 k false l l1 l2 l3 d0) else r11_Check.j3 k false l l1 l2 l3 d0) else r11_Check.j3 k false l l1 l2 l3 d0)) (fun k => by simp only [r11_Check.j2]) ?_;unfold refX headR
 cases b with
 | true => exact Ev.congr (fun k => if_pos rfl) (Ev.now _)
 | false =>
  refine Ev.congr (fun k => if_neg (by decide)) ?_;rw [if_neg (by decide)]
  by_cases hd1 : d0 ≥ 1
  ·by_cases hd2 : d0 ≤ 60
   ·rw [decide_eq_true (show 1 ≤ d0 ∧ d0 ≤ 60 from ⟨hd1, hd2⟩)];refine Ev.congr (fun k => by rw [if_pos hd1, if_pos hd2]) ?_;refine Ev.way (refnames_ev l1 (by omega)) (fun h => ?_) (fun h => ?_)
    ·rw [h];refine Ev.way (refnames_ev l2 (by omega)) (fun h => ?_) (fun h => ?_)
     ·rw [h];refine Ev.bind (f := fun k t => r11_Check.j3 k t l l1 l2 l3 d0) (refnames_ev l3 (by omega)) ?_;exact hj _
     rw [h]; exact hj false
    rw [h]; exact hj false
   rw [decide_eq_false (show ¬ (1 ≤ d0 ∧ d0 ≤ 60) from fun h => hd2 h.2)];exact Ev.congr (fun k => by rw [if_pos hd1, if_neg hd2]) (hj false)
  rw [decide_eq_false (show ¬ (1 ≤ d0 ∧ d0 ≤ 60) from fun h => hd1 h.1)];exact Ev.congr (fun k => by rw [if_neg hd1]) (hj false)
theorem ref_l0 : ∀ (e i : Nat) (b : Bool), i + e = l.length → Ev (fun k => r11_Check.l0 k b (i : Int) l l1 l2 l3 d0) (refX l l1 l2 l3 d0 (b || (l.drop i).any bigR)) := by
 have hj := ref_j2 l l1 l2 l3 d0 hs;have hb0 := hs.b0;intro e
 induction e with
 | zero =>
  intro i b hi;rw [List.drop_of_length_le (by omega)];refine Ev.step (f := fun k => r11_Check.j2 k b l l1 l2 l3 d0) (fun k => ?_) ?_
  ·simp only [r11_Check.l0];rw [if_neg (show ¬ ((i : Int) < (l.length : Int)) by omega)]
  have h := hj b;rw [show (b || ([] : List S53).any bigR) = b by simp];exact h
 | succ e ih =>
  intro i b hi;have hlt : i < l.length := by omega
  rw [List.drop_eq_getElem_cons hlt, List.any_cons];refine Ev.step (f := fun k => if b = true then r11_Check.j2 k b l l1 l2 l3 d0 else r11_Check.l0 k (bigR l[i]) ((i + 1 : Nat) : Int) l l1 l2 l3 d0) (fun k => ?_) ?_
  ·simp only [r11_Check.l0];rw [if_pos (show (i : Int) < (l.length : Int) by omega), if_pos (show (0 : Int) ≤ (i : Int) by omega), rdT_at l i hlt, wrap_next (by omega)];rfl
  cases b with
  | true => exact Ev.congr (fun k => if_pos rfl) (hj true)
  | false =>
   rw [Bool.false_or];exact Ev.congr (fun k => if_neg (by decide)) (ih (i + 1) (bigR l[i]) (by omega))
theorem refcheck_raw : Ev (fun k => r11_Check.f k l l1 l2 l3 d0) (refX l l1 l2 l3 d0 (largeB l l1 l2 l3)) := by
 have hj : ∀ b, Ev (fun k => r11_Check.j0 k b l l1 l2 l3 d0) (refX l l1 l2 l3 d0 (b || l.any bigR)) := fun b => by
  refine Ev.step (f := fun k => r11_Check.l0 k b 0 l l1 l2 l3 d0) (fun k => by simp only [r11_Check.j0]) ?_;have h := ref_l0 l l1 l2 l3 d0 hs l.length 0 b (by omega);rw [List.drop_zero] at h;exact h
 unfold r11_Check.f largeB
 by_cases a0 : (l.length : Int) > 40
 ·rw [decide_eq_true (show 40 < (l.length : Int) from a0)];exact Ev.congr (fun k => if_pos a0) (hj true)
 rw [decide_eq_false (show ¬ 40 < (l.length : Int) from a0)];refine Ev.congr (fun k => if_neg a0) ?_
 by_cases a1 : (l1.length : Int) > 20
 ·rw [decide_eq_true (show 20 < (l1.length : Int) from a1)];exact Ev.congr (fun k => if_pos a1) (hj true)
 rw [decide_eq_false (show ¬ 20 < (l1.length : Int) from a1)];refine Ev.congr (fun k => if_neg a1) ?_
 by_cases a2 : (l2.length : Int) > 20
 ·rw [decide_eq_true (show 20 < (l2.length : Int) from a2)];exact Ev.congr (fun k => if_pos a2) (hj true)
 rw [decide_eq_false (show ¬ 20 < (l2.length : Int) from a2)];exact Ev.congr (fun k => if_neg a2) (hj _)
end
theorem chk_eq (dr : List ByteArray) : ∀ (r : List S53) (all : List ByteArray), chkGo dr all r = (r.all (restB dr) && namesS (all ++ r.map S53.f0))
  | [], all => by simp [chkGo]
  | x :: r, all => by
    unfold chkGo
    rw [chk_eq dr r (all ++ [x.f0]), List.all_cons, List.map_cons, List.append_assoc, List.singleton_append, Bool.and_assoc]
theorem far_eq (pre : List S53) (x : S53) : farB pre x = !memB (pre.map S53.f0) x.f0 := by
  unfold farB memB
  induction pre with
  | nil => rfl
  | cons y pre ih =>
    rw [List.all_cons, List.map_cons, List.any_cons, ih, Bool.not_or]
    congr 1
    show (!(y.f0.toList == x.f0.toList)) = _
    rw [bytes_data, bytes_data]
theorem ref_eq (dr : List ByteArray) : ∀ (r : List S53) (pre : List S53), refGo dr pre r = (r.all (restB dr) && nmGo (pre.map S53.f0) (r.map S53.f0))
 | [], pre => by simp [refGo, nmGo]
 | x :: r, pre => by
  unfold refGo
  rw [ref_eq dr r (pre ++ [x]), List.all_cons, List.map_cons, far_eq, List.map_append]
  show _ = (restB dr x && r.all (restB dr) && (nameB x.f0 && (!memB (pre.map S53.f0) x.f0 && nmGo (pre.map S53.f0 ++ [x.f0]) (r.map S53.f0))))
  show (!memB (pre.map S53.f0) x.f0 && (ruleS x && !memB dr x.f0) && (r.all (restB dr) && nmGo (pre.map S53.f0 ++ [x.f0]) (r.map S53.f0))) = _
  unfold ruleS restB neverS
  generalize memB (pre.map S53.f0) x.f0 = a1
  generalize nameB x.f0 = a2
  generalize namesS x.f1 = a3
  generalize (inK 2 x.f0 || (inK 3 x.f0 || inK 12 x.f0)) = a4
  generalize x.f1.any actsB = a5
  generalize hardN.contains x.f0.data.toList = a6
  generalize memB dr x.f0 = a7
  generalize r.all _ = a8
  generalize nmGo _ _ = a9
  revert a1 a2 a3 a4 a5 a6 a7 a8 a9
  decide +kernel
theorem run_eq (l2 : List ByteArray) : runM l2 = l2.any runsB := by
 unfold runM memB
 induction l2 with
 | nil => rfl
 | cons y l ih =>
  simp only [List.any_cons];rw [← ih];unfold runsB;rw [bytes_data];show (_ == [100, 97, 116, 97] || _ || (_ == [106, 97, 118, 97, 115, 99, 114, 105, 112, 116] || _ || (_ == [118, 98, 115, 99, 114, 105, 112, 116] || _))) = _;generalize (y.data.toList == [100, 97, 116, 97]) = a1;generalize (y.data.toList == [106, 97, 118, 97, 115, 99, 114, 105, 112, 116]) = a2;generalize (y.data.toList == [118, 98, 115, 99, 114, 105, 112, 116]) = a3;generalize l.any _ = a4;generalize l.any _ = a5;generalize l.any _ = a6
  revert a1 a2 a3 a4 a5 a6
  decide +kernel
theorem refX_eq (l : List S53) (l1 l2 l3 : List ByteArray) (d : Int) : refX l l1 l2 l3 d (largeB l l1 l2 l3) = checkS l l1 l2 l3 d := by
 unfold refX checkS finS headR headB;rw [chk_eq, ref_eq, run_eq];show (if _ then 4 else okE ((_ && (_ && (_ && _)) && (_ && nmGo [] _)) && _)) = (if _ then 4 else okE (_ && (_ && nmGo [] _)))
 congr 2
 rw [List.nil_append];generalize decide (1 ≤ d ∧ d ≤ 60) = a1;generalize namesS l1 = a2;generalize namesS l2 = a3;generalize namesS l3 = a4;generalize l2.any runsB = a5;generalize l.all _ = a6;generalize nmGo _ _ = a7
 revert a1 a2 a3 a4 a5 a6 a7
 decide +kernel
theorem refcheck_ev (l : List S53) (l1 l2 l3 : List ByteArray) (d : Int) (hs : SmallP l l1 l2 l3) : Ev (fun k => r11_Check.f k l l1 l2 l3 d) (checkS l l1 l2 l3 d) := by
  rw [← refX_eq]
  exact refcheck_raw l l1 l2 l3 d hs
end Go.Proofs.YtnbghhddmlohoaaDoor.Pure

end

section
namespace Go.Proofs.YtnbghhddmlohoaaDoor.Pure
open Go.RowKit Go.Proofs.YtnbghhddmlohoaaDoor.PAll Go.Proofs.YtnbghhddmlohoaaDoorW.PrintWords Go.Proofs.YtnbghhddmlohoaaDoorW.PrintLast
set_option linter.unusedSimpArgs false
set_option linter.unusedVariables false

structure Room (l0 : List S53) (l1 l2 l3 : List ByteArray) (T : Nat) : Prop where
  r0 : 2 * l0.length + T ≤ 2001
  r1 : 2 * l1.length + T ≤ 2001
  r2 : 2 * l2.length + T ≤ 2001
  r3 : 2 * l3.length + T ≤ 2001
  ra : ∀ x ∈ l0, 2 * x.f1.length ≤ 2001
theorem Room.small {l0 : List S53} {l1 l2 l3 : List ByteArray} {T : Nat} (h : Room l0 l1 l2 l3 T) : SmallP l0 l1 l2 l3 :=
  ⟨by have := h.r0; omega, by have := h.r1; omega, by have := h.r2; omega, by have := h.r3; omega, fun x hx => by have := h.ra x hx; omega⟩
theorem say_room {l0 m0 : List S53} {l1 l2 l3 m1 m2 m3 : List ByteArray} {d d' : Int} {s : ByteArray} {T : Nat} (h : Room l0 l1 l2 l3 (s.size + 1 + T)) (e : sayS l0 l1 l2 l3 d s = some (m0, m1, m2, m3, d')) : Room m0 m1 m2 m3 T := by
 obtain ⟨h0, h1, h2, h3, ha⟩ := h;have hw := words_two s;have same : Room l0 l1 l2 l3 T := ⟨by omega, by omega, by omega, by omega, ha⟩;unfold sayS at e
 rcases hl : plWords s with _ | ⟨x, r⟩
 ·rw [hl] at e;simp only [Option.some.injEq, Prod.mk.injEq] at e;obtain ⟨rfl, rfl, rfl, rfl, rfl⟩ := e;exact same
 rw [hl] at e hw;rw [List.length_cons] at hw;simp only at e
 split at e
 ·simp only [Option.some.injEq, Prod.mk.injEq] at e;obtain ⟨rfl, rfl, rfl, rfl, rfl⟩ := e;exact same
 unfold sayW at e
 split at e
 ·split at e
  ·next y =>
   rcases hn : numS y with _ | n
   ·rw [hn] at e; simp at e
   rw [hn] at e;simp only [Option.map_some, Option.some.injEq, Prod.mk.injEq] at e;obtain ⟨rfl, rfl, rfl, rfl, rfl⟩ := e;exact same
  simp at e
 split at e
 ·split at e
  ·simp at e
  next y t =>
  simp only [Option.some.injEq, Prod.mk.injEq] at e;obtain ⟨rfl, rfl, rfl, rfl, rfl⟩ := e;rw [List.length_cons] at hw;refine ⟨by rw [List.length_append]; simp; omega, by omega, by omega, by omega, fun x hx => ?_⟩
  rcases List.mem_append.1 hx with hx | hx
  ·exact ha x hx
  have := List.mem_singleton.1 hx;subst this;show 2 * t.length ≤ 2001
  omega
 split at e
 ·simp only [Option.some.injEq, Prod.mk.injEq] at e;obtain ⟨rfl, rfl, rfl, rfl, rfl⟩ := e;exact ⟨by omega, by rw [List.length_append]; omega, by omega, by omega, ha⟩
 split at e
 ·simp only [Option.some.injEq, Prod.mk.injEq] at e;obtain ⟨rfl, rfl, rfl, rfl, rfl⟩ := e;exact ⟨by omega, by omega, by rw [List.length_append]; omega, by omega, ha⟩
 split at e
 ·simp only [Option.some.injEq, Prod.mk.injEq] at e;obtain ⟨rfl, rfl, rfl, rfl, rfl⟩ := e;exact ⟨by omega, by omega, by omega, by rw [List.length_append]; omega, ha⟩
 simp at e
theorem read_small : ∀ (xs : List ByteArray) (l0 : List S53) (l1 l2 l3 : List ByteArray) (d n : Int) (m0 : List S53) (m1 m2 m3 : List ByteArray) (d' e : Int), Room l0 l1 l2 l3 (wsum xs) → readGo l0 l1 l2 l3 d xs n = (m0, m1, m2, m3, d', e) → SmallP m0 m1 m2 m3
 | [], l0, l1, l2, l3, d, n, m0, m1, m2, m3, d', e, h, hg => by
  unfold readGo at hg
  simp only [Prod.mk.injEq] at hg
  obtain ⟨rfl, rfl, rfl, rfl, rfl, rfl⟩ := hg
  exact h.small
 | x :: xs, l0, l1, l2, l3, d, n, m0, m1, m2, m3, d', e, h, hg => by
  unfold readGo at hg
  rcases hs : sayS l0 l1 l2 l3 d x with _ | ⟨p0, p1, p2, p3, q⟩
  ·rw [hs] at hg
   simp only [Prod.mk.injEq] at hg
   obtain ⟨rfl, rfl, rfl, rfl, rfl, rfl⟩ := hg
   exact ⟨by simp, by simp, by simp, by simp, fun x hx => by simp at hx⟩
  rw [hs] at hg
  exact read_small xs p0 p1 p2 p3 q _ m0 m1 m2 m3 d' e (say_room (T := wsum xs) (by have h_ := h; unfold wsum at h_ ⊢; rw [List.map_cons, List.sum_cons] at h_; exact h_) hs) hg
def finR (m : List S53 × List ByteArray × List ByteArray × List ByteArray × Int × Int) : RlR :=
  if m.2.2.2.2.2 > 0 then ([], [], [], [], 0, m.2.2.2.2.2, 7) else if checkS m.1 m.2.1 m.2.2.1 m.2.2.2.1 m.2.2.2.2.1 = 0 then (m.1, m.2.1, m.2.2.1, m.2.2.2.1, m.2.2.2.2.1, 0, 0) else ([], [], [], [], 0, 0, checkS m.1 m.2.1 m.2.2.1 m.2.2.2.1 m.2.2.2.2.1)
theorem line_ev (l0 : List S53) (l1 l2 l3 : List ByteArray) (d : Int) (s : ByteArray) (T : Nat) (h : Room l0 l1 l2 l3 (s.size + 1 + T)) :
  (∀ m0 m1 m2 m3 d', sayS l0 l1 l2 l3 d s = some (m0, m1, m2, m3, d') → Ev (fun k => rlLine k l0 l1 l2 l3 d s) (m0, m1, m2, m3, d', true)) ∧
  (sayS l0 l1 l2 l3 d s = none → ∃ q : RlT, q.2.2.2.2.2 = false ∧ Ev (fun k => rlLine k l0 l1 l2 l3 d s) q) := by
 obtain ⟨h0, h1, h2, h3, ha⟩ := h;have hw := words_two s;have hsz : s.size ≤ 1000000 := by omega
 have hev := words_ev s hsz
 have key : ∀ {q : RlT} (X : Nat → Option RlT), Ev X q → (∀ k, (match plWords s with
  | [] => some (l0, l1, l2, l3, d, true)
  | x :: r => if 0 < s.size ∧ l0.length < 100000000 ∧ l1.length < 100000000 ∧ l2.length < 100000000 ∧ l3.length < 100000000 ∧ r.length < 100000000 then
    (if bt s 0 = 35 then some (l0, l1, l2, l3, d, true) else rlWord k l0 l1 l2 l3 d x r) else none) = X k) → Ev (fun k => rlLine k l0 l1 l2 l3 d s) q := by
  intro q X hX hk;unfold rlLine
  exact Ev.bind (f := fun k ws => match ws with
   | [] => some (l0, l1, l2, l3, d, true)
   | x :: r => if 0 < s.size ∧ l0.length < 100000000 ∧ l1.length < 100000000 ∧ l2.length < 100000000 ∧ l3.length < 100000000 ∧ r.length < 100000000 then
     (if bt s 0 = 35 then some (l0, l1, l2, l3, d, true) else rlWord k l0 l1 l2 l3 d x r) else none) hev (Ev.congr hk hX)
 unfold sayS
 rcases hl : plWords s with _ | ⟨x, r⟩
 ·refine ⟨fun m0 m1 m2 m3 d' e => ?_, fun e => by simp at e⟩;simp only [Option.some.injEq, Prod.mk.injEq] at e;obtain ⟨rfl, rfl, rfl, rfl, rfl⟩ := e;exact key (fun _ => some (l0, l1, l2, l3, d, true)) (Ev.now _) (fun k => by rw [hl])
 have hp : 0 < s.size := words_pos (by rw [hl]; simp);rw [hl, List.length_cons] at hw;have hc : 0 < s.size ∧ l0.length < 100000000 ∧ l1.length < 100000000 ∧ l2.length < 100000000 ∧ l3.length < 100000000 ∧ r.length < 100000000 := ⟨hp, by omega, by omega, by omega, by omega, by omega⟩;simp only
 by_cases h35 : bt s 0 = 35
 ·rw [if_pos h35];refine ⟨fun m0 m1 m2 m3 d' e => ?_, fun e => by simp at e⟩;simp only [Option.some.injEq, Prod.mk.injEq] at e;obtain ⟨rfl, rfl, rfl, rfl, rfl⟩ := e;exact key (fun _ => some (l0, l1, l2, l3, d, true)) (Ev.now _) (fun k => by rw [hl]; simp only; rw [if_pos hc, if_pos h35])
 rw [if_neg h35];have key2 : ∀ {q : RlT}, Ev (fun k => rlWord k l0 l1 l2 l3 d x r) q → Ev (fun k => rlLine k l0 l1 l2 l3 d s) q := fun hX => key _ hX (fun k => by rw [hl]; simp only; rw [if_pos hc, if_neg h35])
 have now : ∀ {q : RlT}, (∀ k, rlWord k l0 l1 l2 l3 d x r = some q) → Ev (fun k => rlLine k l0 l1 l2 l3 d s) q := fun hX => key2 (Ev.congr hX (Ev.now _))
 unfold sayW
 by_cases kd : x.toList = ([100, 101, 101, 112] : List UInt8)
 ·rw [if_pos kd]
  rcases r with _ | ⟨y, _ | ⟨z, r⟩⟩
  ·exact ⟨fun _ _ _ _ _ e => by simp at e, fun _ => ⟨(l0, l1, l2, l3, d, false), rfl, now (fun k => by unfold rlWord; rw [if_pos kd])⟩⟩
  ·have hd := deep_ev y;simp only
   rcases hn : numS y with _ | n
   ·refine ⟨fun _ _ _ _ _ e => by simp at e, fun _ => ⟨(l0, l1, l2, l3, d, false), rfl, key2 ?_⟩⟩;rw [hn] at hd;unfold rlWord;refine Ev.congr (fun k => if_pos kd) ?_;exact Ev.bind (f := fun k n => if n < 0 then some (l0, l1, l2, l3, d, false) else some (l0, l1, l2, l3, n, true)) hd (Ev.now _)
   refine ⟨fun m0 m1 m2 m3 d' e => ?_, fun e => by simp at e⟩;simp only [Option.map_some, Option.some.injEq, Prod.mk.injEq] at e;obtain ⟨rfl, rfl, rfl, rfl, rfl⟩ := e;refine key2 ?_;rw [hn] at hd;have hnn := numS_nn hn;unfold rlWord;refine Ev.congr (fun k => if_pos kd) ?_;exact Ev.bind (f := fun k n => if n < 0 then some (l0, l1, l2, l3, d, false) else some (l0, l1, l2, l3, n, true)) hd (Ev.congr (fun k => if_neg (show ¬ optI (some n) < 0 by show ¬ n < 0; omega)) (Ev.now _))
  exact ⟨fun _ _ _ _ _ e => by simp at e, fun _ => ⟨(l0, l1, l2, l3, d, false), rfl, now (fun k => by unfold rlWord; rw [if_pos kd])⟩⟩
 rw [if_neg kd]
 by_cases ke : x.toList = ([101, 108, 101, 109, 101, 110, 116] : List UInt8)
 ·rw [if_pos ke]
  rcases r with _ | ⟨y, t⟩
  ·exact ⟨fun _ _ _ _ _ e => by simp at e, fun _ => ⟨(l0, l1, l2, l3, d, false), rfl, now (fun k => by unfold rlWord; rw [if_neg kd, if_pos ke])⟩⟩
  refine ⟨fun m0 m1 m2 m3 d' e => ?_, fun e => by simp at e⟩;simp only [Option.some.injEq, Prod.mk.injEq] at e;obtain ⟨rfl, rfl, rfl, rfl, rfl⟩ := e;exact now (fun k => by unfold rlWord; rw [if_neg kd, if_pos ke])
 rw [if_neg ke]
 by_cases kl : x.toList = ([108, 105, 110, 107] : List UInt8)
 ·rw [if_pos kl];refine ⟨fun m0 m1 m2 m3 d' e => ?_, fun e => by simp at e⟩;simp only [Option.some.injEq, Prod.mk.injEq] at e;obtain ⟨rfl, rfl, rfl, rfl, rfl⟩ := e;exact now (fun k => by unfold rlWord; rw [if_neg kd, if_neg ke, if_pos kl])
 rw [if_neg kl]
 by_cases ks : x.toList = ([115, 99, 104, 101, 109, 101] : List UInt8)
 ·rw [if_pos ks];refine ⟨fun m0 m1 m2 m3 d' e => ?_, fun e => by simp at e⟩;simp only [Option.some.injEq, Prod.mk.injEq] at e;obtain ⟨rfl, rfl, rfl, rfl, rfl⟩ := e;exact now (fun k => by unfold rlWord; rw [if_neg kd, if_neg ke, if_neg kl, if_pos ks])
 rw [if_neg ks]
 by_cases kr : x.toList = ([100, 114, 111, 112] : List UInt8)
 ·rw [if_pos kr];refine ⟨fun m0 m1 m2 m3 d' e => ?_, fun e => by simp at e⟩;simp only [Option.some.injEq, Prod.mk.injEq] at e;obtain ⟨rfl, rfl, rfl, rfl, rfl⟩ := e;exact now (fun k => by unfold rlWord; rw [if_neg kd, if_neg ke, if_neg kl, if_neg ks, if_pos kr])
 rw [if_neg kr];exact ⟨fun _ _ _ _ _ e => by simp at e, fun _ => ⟨(l0, l1, l2, l3, d, false), rfl, now (fun k => by unfold rlWord; rw [if_neg kd, if_neg ke, if_neg kl, if_neg ks, if_neg kr])⟩⟩
def procL (k : Nat) : List ByteArray → Int → List S53 → List ByteArray → List ByteArray → List ByteArray → Int → Option RlR
  | [], _, l0, l1, l2, l3, d => (r11_Check.f k l0 l1 l2 l3 d).bind fun e => if e = 0 then some (l0, l1, l2, l3, d, 0, 0) else some ([], [], [], [], 0, 0, e)
  | x :: xs, n, l0, l1, l2, l3, d => (rlLine k l0 l1 l2 l3 d x).bind fun b => if b.2.2.2.2.2 = true then procL k xs (n + 1) b.1 b.2.1 b.2.2.1 b.2.2.2.1 b.2.2.2.2.1 else some ([], [], [], [], 0, n + 1, 7)
theorem go_proc (k : Nat) (s : ByteArray) : ∀ (d i fr : Nat) (n : Int) (l0 : List S53) (l1 l2 l3 : List ByteArray) (q : Int), i + d = s.size → rlGo k s (d + 1) fr n l0 l1 l2 l3 q = procL k (segs 10 s d fr i) n l0 l1 l2 l3 q := by
 intro d
 induction d with
 | zero =>
  intro i fr n l0 l1 l2 l3 q hi;unfold rlGo segs;rw [if_neg (by omega)];rfl
 | succ d ih =>
  intro i fr n l0 l1 l2 l3 q hi;have hsi : s.size - (d + 1) = i := by omega
  conv => lhs; unfold rlGo
  unfold segs;rw [hsi]
  by_cases h10 : bt s (i : Int) = 10
  ·rw [if_neg (fun h => h.2 h10), if_pos (show bt s (i : Int) = ((10 : UInt8).toNat : Int) from h10.trans rfl)];unfold procL
   congr 1
   funext b
   split
   ·exact ih (i + 1) (i + 1) _ _ _ _ _ _ (by omega)
   rfl
  rw [if_pos ⟨by omega, h10⟩, if_neg (show ¬ bt s (i : Int) = ((10 : UInt8).toNat : Int) from fun h => h10 (h.trans rfl))];exact ih (i + 1) fr n l0 l1 l2 l3 q (by omega)
theorem proc_ev : ∀ (xs : List ByteArray) (n : Int) (l0 : List S53) (l1 l2 l3 : List ByteArray) (d : Int), 0 ≤ n → Room l0 l1 l2 l3 (wsum xs) → Ev (fun k => procL k xs n l0 l1 l2 l3 d) (finR (readGo l0 l1 l2 l3 d xs n))
 | [], n, l0, l1, l2, l3, d, hn, h => by
  unfold procL readGo finR
  rw [if_neg (by simp)]
  refine Ev.bind (f := fun k e => if e = 0 then some (l0, l1, l2, l3, d, 0, 0) else some ([], [], [], [], 0, 0, e)) (refcheck_ev l0 l1 l2 l3 d h.small) ?_
  simp only
  split
  ·exact Ev.now _
  exact Ev.now _
 | x :: xs, n, l0, l1, l2, l3, d, hn, h => by
  have hR : Room l0 l1 l2 l3 (x.size + 1 + wsum xs) := by
   have h_ := h;unfold wsum at h_ ⊢;rw [List.map_cons, List.sum_cons] at h_;exact h_
  obtain ⟨hy, hno⟩ := line_ev l0 l1 l2 l3 d x (wsum xs) hR;unfold procL readGo
  rcases hs : sayS l0 l1 l2 l3 d x with _ | ⟨m0, m1, m2, m3, d'⟩
  ·obtain ⟨q, hq, hev⟩ := hno hs;refine Ev.bind (f := fun k b => if b.2.2.2.2.2 = true then procL k xs (n + 1) b.1 b.2.1 b.2.2.1 b.2.2.2.1 b.2.2.2.2.1 else some ([], [], [], [], 0, n + 1, 7)) hev ?_;unfold finR;rw [if_pos (show n + 1 > 0 by omega)];exact Ev.congr (fun k => if_neg (by rw [hq]; decide)) (Ev.now _)
  refine Ev.bind (f := fun k b => if b.2.2.2.2.2 = true then procL k xs (n + 1) b.1 b.2.1 b.2.2.1 b.2.2.2.1 b.2.2.2.2.1 else some ([], [], [], [], 0, n + 1, 7)) (hy m0 m1 m2 m3 d' hs) ?_;exact Ev.congr (fun k => if_pos rfl) (proc_ev xs (n + 1) m0 m1 m2 m3 d' (by omega) (say_room hR hs))
def parR (s : ByteArray) : RlR := if (s.size : Int) > 2000 then ([], [], [], [], 0, 0, 4) else finR (readGo [] [] [] [] 0 (plPieces 10 s) 0)
theorem room0 (s : ByteArray) (h : s.size ≤ 2000) : Room [] [] [] [] (wsum (plPieces 10 s)) := by
  have := pieces_sum 10 s
  exact ⟨by simp; omega, by simp; omega, by simp; omega, by simp; omega, fun x hx => by simp at hx⟩
theorem refparse_ev (s : ByteArray) : Ev (fun k => r11_Parse.f k s) (parR s) := by
 unfold r11_Parse.f parR
 by_cases h : (s.size : Int) > 2000
 ·rw [if_pos h];exact Ev.congr (fun k => if_pos h) (Ev.now _)
 rw [if_neg h];refine Ev.congr (fun k => if_neg h) ?_;refine Ev.congr (fun k => go_proc k s s.size 0 0 0 [] [] [] [] 0 (by omega)) ?_;rw [segs_pieces];exact proc_ev _ 0 [] [] [] [] 0 (Int.le_refl _) (room0 s (by omega))
theorem piece_le (s : ByteArray) {x : ByteArray} (hx : x ∈ plPieces 10 s) : x.size ≤ s.size := by
 have h := pieces_sum 10 s;unfold wsum at h
 have : ∀ (L : List ByteArray), x ∈ L → x.size + 1 ≤ (L.map fun x => x.size + 1).sum := by
  intro L
  induction L with
  | nil => intro hx; simp at hx
  | cons a L ih =>
   intro hx;rw [List.map_cons, List.sum_cons]
   rcases List.mem_cons.1 hx with rfl | hx
   ·omega
   have := ih hx; omega
 have := this _ hx
 omega
theorem parse_ev (s : ByteArray) : Ev (fun k => p_Parse.f k s) (parR s) := by
 unfold p_Parse.f parR
 by_cases h : (s.size : Int) > 2000
 ·rw [if_pos h];exact Ev.congr (fun k => if_pos h) (Ev.now _)
 rw [if_neg h];refine Ev.congr (fun k => if_neg h) ?_
 have e1 : strings_Split.f s (⟨#[10]⟩ : ByteArray) = some (plPieces 10 s) := by
  unfold strings_Split.f;simp only;rw [if_pos (by omega)]
 have hsum := pieces_sum 10 s
 have hlen : (plPieces 10 s).length ≤ 5000 := by
  have : ∀ (L : List ByteArray), L.length ≤ wsum L := by
   intro L
   induction L with
   | nil => exact Nat.le_refl _
   | cons a L ih => unfold wsum at ih ⊢; rw [List.map_cons, List.sum_cons, List.length_cons]; omega
  have := this (plPieces 10 s)
  omega
 have e2 : p_read.f (plPieces 10 s) = some (readGo [] [] [] [] 0 (plPieces 10 s) 0) := by
  unfold p_read.f;rw [if_pos ⟨hlen, fun x hx => by have := piece_le s hx; omega⟩]
 rcases hg : readGo [] [] [] [] 0 (plPieces 10 s) 0 with ⟨m0, m1, m2, m3, d', e⟩
 have hsm := read_small _ _ _ _ _ _ _ _ _ _ _ _ _ (room0 s (by omega)) hg;rw [hg] at e2;refine Ev.bind (g := fun _ => strings_Split.f s (⟨#[10]⟩ : ByteArray)) (f := fun k t142 => (p_read.f t142).bind fun bt145 => (if bt145.2.2.2.2.2 > 0 then (some (([] : List (S53)), ([] : List ByteArray), ([] : List ByteArray), ([] : List ByteArray), 0, bt145.2.2.2.2.2, 7)) else ((p_Check.f k bt145.1 bt145.2.1 bt145.2.2.1 bt145.2.2.2.1 bt145.2.2.2.2.1).bind fun t160 => (if t160 = 0 then (some (bt145.1, bt145.2.1, bt145.2.2.1, bt145.2.2.2.1, bt145.2.2.2.2.1, 0, 0)) else (some (([] : List (S53)), ([] : List ByteArray), ([] : List ByteArray), ([] : List ByteArray), 0, 0, t160)))))) ⟨0, fun _ _ => e1⟩ ?_;refine Ev.bind (g := fun _ => p_read.f (plPieces 10 s)) (f := fun k bt145 => (if bt145.2.2.2.2.2 > 0 then (some (([] : List (S53)), ([] : List ByteArray), ([] : List ByteArray), ([] : List ByteArray), 0, bt145.2.2.2.2.2, 7)) else ((p_Check.f k bt145.1 bt145.2.1 bt145.2.2.1 bt145.2.2.2.1 bt145.2.2.2.2.1).bind fun t160 => (if t160 = 0 then (some (bt145.1, bt145.2.1, bt145.2.2.1, bt145.2.2.2.1, bt145.2.2.2.2.1, 0, 0)) else (some (([] : List (S53)), ([] : List ByteArray), ([] : List ByteArray), ([] : List ByteArray), 0, 0, t160)))))) ⟨0, fun _ _ => e2⟩ ?_;unfold finR;simp only
 by_cases he : e > 0
 ·rw [if_pos he];exact Ev.congr (fun k => if_pos he) (Ev.now _)
 rw [if_neg he];refine Ev.congr (fun k => if_neg he) ?_;refine Ev.bind (f := fun k t160 => (if t160 = 0 then (some (m0, m1, m2, m3, d', 0, 0)) else (some (([] : List (S53)), ([] : List ByteArray), ([] : List ByteArray), ([] : List ByteArray), 0, 0, t160)))) (check_ev m0 m1 m2 m3 d' hsm) ?_
 split
 ·exact Ev.now _
 exact Ev.now _
theorem same_texts_l0 (l : List ByteArray) (hl : l.length ≤ 1000000) : ∀ (d i : Nat), i + d = l.length → Ev (fun k => r11_Texts.l0 k l l (i : Int)) true := by
 intro d
 induction d with
 | zero =>
  intro i hi;refine Ev.step (f := fun _ => some true) (fun k => ?_) (Ev.now _);simp only [r11_Texts.l0];rw [if_neg (by omega)]
 | succ d ih =>
  intro i hi;refine Ev.step (f := fun k => r11_Texts.l0 k l l ((i + 1 : Nat) : Int)) (fun k => ?_) (ih (i + 1) (by omega));simp only [r11_Texts.l0];rw [if_pos (by omega), if_pos (by omega), if_pos (by omega), if_pos (by trivial), wrap_next (by omega)]
theorem same_texts (l : List ByteArray) (hl : l.length ≤ 1000000) : Ev (fun k => r11_Texts.f k l l) true := by
  unfold r11_Texts.f
  exact Ev.congr (fun k => if_pos rfl) (same_texts_l0 l hl l.length 0 (by omega))
theorem same_l0 (l : List S53) (l1 l2 l3 : List ByteArray) (d0 : Int) (hl : l.length ≤ 1000) (ha : ∀ x ∈ l, x.f1.length ≤ 1000) : ∀ (d i : Nat), i + d = l.length → Ev (fun k => r11_Same.l0 k (i : Int) l l1 l2 l3 d0 l l1 l2 l3 d0) true := by
 intro d
 induction d with
 | zero =>
  intro i hi;refine Ev.step (f := fun _ => some true) (fun k => ?_) (Ev.now _);simp only [r11_Same.l0];rw [if_neg (by omega)]
 | succ d ih =>
  intro i hi;have hlt : i < l.length := by omega
  refine Ev.step (f := fun k => (r11_Texts.f k l[i].f1 l[i].f1).bind fun t => if t = true then r11_Same.l0 k ((i + 1 : Nat) : Int) l l1 l2 l3 d0 l l1 l2 l3 d0 else some false) (fun k => ?_) ?_
  ·simp only [r11_Same.l0];rw [if_pos (by omega), if_pos (by omega), if_pos (by omega), if_pos (by trivial), rdT_at l i hlt, wrap_next (by omega)]
  exact Ev.way (same_texts _ (by have := ha _ (List.getElem_mem hlt); omega)) (fun _ => ih (i + 1) (by omega)) (fun h => absurd h (by decide))
theorem same_ev (l : List S53) (l1 l2 l3 : List ByteArray) (d : Int) (hs : SmallP l l1 l2 l3) : Ev (fun k => r11_Same.f k l l1 l2 l3 d l l1 l2 l3 d) true := by
 unfold r11_Same.f;refine Ev.congr (fun k => by rw [if_pos rfl, if_pos rfl]) ?_;refine Ev.way (same_texts l1 (by have := hs.b1; omega)) (fun _ => ?_) (fun h => absurd h (by decide));refine Ev.way (same_texts l2 (by have := hs.b2; omega)) (fun _ => ?_) (fun h => absurd h (by decide));refine Ev.bind (f := fun k t => r11_Same.j0 k (!t) l l1 l2 l3 d l l1 l2 l3 d) (same_texts l3 (by have := hs.b3; omega)) ?_;refine Ev.step (f := fun k => r11_Same.l0 k 0 l l1 l2 l3 d l l1 l2 l3 d) (fun k => by simp only [r11_Same.j0]; rfl) ?_;exact same_l0 l l1 l2 l3 d hs.b0 hs.ba l.length 0 (by omega)
theorem parR_small (s : ByteArray) : SmallP (parR s).1 (parR s).2.1 (parR s).2.2.1 (parR s).2.2.2.1 := by
 have nil : SmallP [] [] [] [] := ⟨by simp, by simp, by simp, by simp, fun x hx => by simp at hx⟩;unfold parR
 split
 ·exact nil
 rcases hg : readGo [] [] [] [] 0 (plPieces 10 s) 0 with ⟨m0, m1, m2, m3, d', e⟩
 unfold finR
 split
 ·exact nil
 split
 ·exact read_small _ _ _ _ _ _ _ _ _ _ _ _ _ (room0 s (by omega)) hg
 exact nil
end Go.Proofs.YtnbghhddmlohoaaDoor.Pure

end

section
namespace Go.Proofs.YtnbghhddmlohoaaDoor.Pure
open Go.RowKit Go.Proofs.YtnbghhddmlohoaaDoor.PAll Go.Proofs.YtnbghhddmlohoaaDoorW.PrintWords Go.Proofs.YtnbghhddmlohoaaDoorW.PrintLast
theorem nodes_nil (l0 : List S53) (l1 l2 l3 : List ByteArray) (d n : Int) : p_nodes.f l0 l1 l2 l3 d [] n = some true := by
  first | rfl | (unfold p_nodes.f; rw [if_pos ⟨2, rfl⟩])
theorem al_zero : l11_alive0.f 100 = some true := by
  unfold l11_alive0.f p_Allowed.f
  simp only [nodes_nil]
  kernel_rfl
theorem alive_ev : Ev (fun k => l11_alive.f k) true := by
  refine Ev.of l11_alive.mono (k := 100) ?_
  unfold l11_alive.f
  rw [if_pos al_zero]
theorem PolicyParse : policyParseOp.Plain := by
 intro x0 hg
 apply Ev.rounds
 unfold l11_PolicyParse.f
 by_cases h : ((x0.size : Int) > 2100)
 ·refine Ev.congr (fun k => if_pos h) ?_;exact Ev.bind (f := fun k t => some t) alive_ev (Ev.now _)
 refine Ev.congr (fun k => if_neg h) ?_;have hs := same_ev _ _ _ _ (parR x0).2.2.2.2.1 (parR_small x0);have hp := parse_ev x0;have hq := refparse_ev x0;generalize parR x0 = R at hs hp hq;obtain ⟨K1, h1⟩ := hp;obtain ⟨K2, h2⟩ := hq;obtain ⟨K3, h3⟩ := alive_ev;obtain ⟨K4, h4⟩ := hs;refine ⟨max (max K1 K2) (max K3 K4), fun k hk => ?_⟩;have a1 := h1 k (by omega);have a2 := h2 k (by omega);have a3 := h3 k (by omega);have a4 := h4 k (by omega);simp only at a1 a2 a3 a4;simp only [a1, a2, a3, a4, Option.bind_some, if_pos, beq_self_eq_true]
end Go.Proofs.YtnbghhddmlohoaaDoor.Pure

end
