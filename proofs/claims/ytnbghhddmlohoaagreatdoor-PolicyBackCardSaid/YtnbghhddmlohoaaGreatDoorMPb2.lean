-- Laid together by a program of this session (merge.py) out of its own texts and of the print's, for one law. Lean checks it.
import Derived.Test.YtnbghhddmlohoaaGreatDoorMPb1
set_option maxHeartbeats 16000000
set_option maxRecDepth 100000
section
namespace Go.Proofs.YtnbghhddmlohoaaGreatDoor.PAll
open Go.RowKit Go.Proofs.YtnbghhddmlohoaaGreatDoorW.PrintWords Go.Proofs.YtnbghhddmlohoaaGreatDoorW.PrintLast Go.Proofs.YtnbghhddmlohoaaGreatDoorW.PrintMore
attribute [local go_sem] max2_int min2_int max_two min_two max_three min_three max_four min_four   -- for this text's walks alone
set_option linter.unusedVariables false
set_option linter.unusedSimpArgs false

def r11_Texts.l0 : Nat → List ByteArray → List ByteArray → Int → Option (Bool)
  | 0, _, _, _ => none
  | k + 1, x0, x1, x5 => if x5 < (x0.length : Int) then (if 0 ≤ x5 then (if x5 < (x1.length : Int) then (if (rdOf ByteArray.empty x0 x5).toList = (rdOf ByteArray.empty x1 x5).toList then (r11_Texts.l0 k x0 x1 (wrap64 (x5 + 1))) else (some false)) else (none)) else (none)) else (some true)
def r11_Texts.f (k : Nat) (l0 : List ByteArray) (l1 : List ByteArray) : Option (Bool) := if (l0.length : Int) = (l1.length : Int) then (r11_Texts.l0 k l0 l1 0) else (some false)
theorem r11_Texts.calls (k : Nat) (A0 : Option Addr) (c0 : Nat) (l0 : List ByteArray) (A1 : Option Addr) (c1 : Nat) (l1 : List ByteArray) (r : Bool) (w : World) (hr0 : Kd.C Kd.string w A0 l0.length l0) (hc0 : l0.length ≤ c0) (hr1 : Kd.C Kd.string w A1 l1.length l1) (hc1 : l1.length ≤ c1) (h : r11_Texts.f k l0 l1 = some r) :
  Calls Tryz.prog 33 #[.slice A0 l0.length c0, .slice A1 l1.length c1] w fun e w' => e = .returned (.bool r) ∧ Drawn0 w w' := by
 obtain ⟨HR0, HC0, HR1, HC1⟩ := as4 hr0 hc0 hr1 hc1;clear hr0 hc0 hr1 hc1;have H := h;clear h;unfold r11_Texts.f at H
 by_cases c3 : (l0.length : Int) = (l1.length : Int)
 ·rw [if_pos c3] at H;have c3b0 : ((l0.length : Int) == (l1.length : Int)) = true := beq_iff_eq.mpr c3;have c3b1 : ((l0.length : Int) != (l1.length : Int)) = false := bne_eq_false_iff_eq.mpr c3;have c3b2 : (l0.length == l1.length) = true := by first | simpa using c3 | (simp at c3 ⊢; omega)
  clear c3;have H' := Am H;clear H;go_enter Tryz.func33, Tryz.ntmps33;go_wp2
  repeat (go_quiet (fail); try go_wp2)
  go_loopg [5] k (fun kq v5 w' => ∃ (x5_1 : Int), v5 = .int .i64 x5_1 ∧ Aside0 (r11_Texts.l0 kq l0 l1 x5_1 = some r) ∧ Aside0 (kq ≤ k) ∧ Drawn0 w w')
  case atStart => exact ⟨(0), Rs, H', ⟨Nat.le_refl _⟩, by repeat (first | exact Drawn0.refl _ | apply Drawn0.step)⟩
  case round =>
   clear H';(try clear c1);(try clear p2);(try clear c3);(try clear c3b0);(try clear c3b1);(try clear c3b2);obtain ⟨x5_1, rfl, HA, HK1, ⟨m1, rfl⟩⟩ := hrel
   cases gk with
   | zero => exact absurd HA.out (by simp [r11_Texts.l0])
   | succ k1 =>
    have H := HA.out;clear HA;simp only [r11_Texts.l0] at H
    by_cases c4 : x5_1 < (l0.length : Int)
    ·rw [if_pos c4] at H;have c4b0 := decide_eq_true c4;clear c4
     by_cases c5 : 0 ≤ x5_1
     ·rw [if_pos c5] at H;have c5b0 := decide_eq_true c5;clear c5
      by_cases c6 : x5_1 < (l1.length : Int)
      ·rw [if_pos c6] at H;have c6b0 := decide_eq_true c6;clear c6
       by_cases c7 : (rdOf ByteArray.empty l0 x5_1).toList = (rdOf ByteArray.empty l1 x5_1).toList
       ·rw [if_pos c7] at H;have c7b0 : ((rdOf ByteArray.empty l0 x5_1).toList == (rdOf ByteArray.empty l1 x5_1).toList) = true := beq_iff_eq.mpr c7;have c7b1 : ((rdOf ByteArray.empty l0 x5_1).toList != (rdOf ByteArray.empty l1 x5_1).toList) = false := bne_eq_false_iff_eq.mpr c7;clear c7;have H' := Am H;clear H;have p273 : 0 ≤ (x5_1 : Int) := Od;have q273 : x5_1 < (l0.length : Int) := Od;obtain ⟨ad273, e273, hx273_0⟩ := Kd.at_string HR0.out x5_1 p273 q273;cases e273;replace p273 := eq_true p273;replace q273 := eq_true q273;have p274 : 0 ≤ (x5_1 : Int) := Od;have q274 : x5_1 < (l1.length : Int) := Od;obtain ⟨ad274, e274, hx274_0⟩ := Kd.at_string HR1.out x5_1 p274 q274;cases e274;replace p274 := eq_true p274;replace q274 := eq_true q274;go_wp2
        repeat (go_quiet (fail); try go_wp2)
        go_roundg k1
        case measure => have := HK1.out; omega
        case rel => exact ⟨(wrap64 (x5_1 + 1)), Rs, H', ⟨by have := HK1.out; omega⟩, by repeat (first | exact Drawn0.refl _ | apply Drawn0.step)⟩
       rw [if_neg c7] at H;have c7b0 : ((rdOf ByteArray.empty l0 x5_1).toList == (rdOf ByteArray.empty l1 x5_1).toList) = false := beq_eq_false_iff_ne.mpr c7;have c7b1 : ((rdOf ByteArray.empty l0 x5_1).toList != (rdOf ByteArray.empty l1 x5_1).toList) = true := bne_iff_ne.mpr c7;obtain rfl := si H;have p273 : 0 ≤ (x5_1 : Int) := Od;have q273 : x5_1 < (l0.length : Int) := Od;obtain ⟨ad273, e273, hx273_0⟩ := Kd.at_string HR0.out x5_1 p273 q273;cases e273;replace p273 := eq_true p273;replace q273 := eq_true q273;have p274 : 0 ≤ (x5_1 : Int) := Od;have q274 : x5_1 < (l1.length : Int) := Od;obtain ⟨ad274, e274, hx274_0⟩ := Kd.at_string HR1.out x5_1 p274 q274;cases e274;replace p274 := eq_true p274;replace q274 := eq_true q274;go_wp2
       repeat (go_quiet (fail); try go_wp2)
       go_ret;exact ⟨Rs, Dw⟩
      rw [if_neg c6] at H;exact absurd H (by simp)
     rw [if_neg c5] at H;exact absurd H (by simp)
    rw [if_neg c4] at H;have c4b0 := decide_eq_false c4;clear c4;obtain rfl := si H;go_wp2
    repeat (go_quiet (fail); try go_wp2)
    go_ret;exact ⟨Rs, Dw⟩
 rw [if_neg c3] at H;have c3b0 : ((l0.length : Int) == (l1.length : Int)) = false := beq_eq_false_iff_ne.mpr c3;have c3b1 : ((l0.length : Int) != (l1.length : Int)) = true := bne_iff_ne.mpr c3;have c3b2 : (l0.length == l1.length) = false := by first | simpa using c3 | (simp at c3 ⊢; omega)
 obtain rfl := si H;go_enter Tryz.func33, Tryz.ntmps33;go_wp2
 repeat (go_quiet (fail); try go_wp2)
 go_ret;exact ⟨Rs, Dw⟩

mutual
def r11_Same.j0 : Nat → Bool → List (S38) → List ByteArray → List ByteArray → List ByteArray → Int → List (S38) → List ByteArray → List ByteArray → List ByteArray → Int → Option (Bool)
  | 0, _, _, _, _, _, _, _, _, _, _, _ => none
  | k + 1, x43, x276000, x276001, x276002, x276003, x276004, x277000, x277001, x277002, x277003, x277004 => if x43 = true then (some false) else (r11_Same.l0 k 0 x276000 x276001 x276002 x276003 x276004 x277000 x277001 x277002 x277003 x277004)
def r11_Same.l0 : Nat → Int → List (S38) → List ByteArray → List ByteArray → List ByteArray → Int → List (S38) → List ByteArray → List ByteArray → List ByteArray → Int → Option (Bool)
  | 0, _, _, _, _, _, _, _, _, _, _, _ => none
  | k + 1, x5, x276000, x276001, x276002, x276003, x276004, x277000, x277001, x277002, x277003, x277004 => if x5 < (x276000.length : Int) then (if 0 ≤ x5 then (if x5 < (x277000.length : Int) then (if ((rd_T38 x276000 x5).f0).toList = ((rd_T38 x277000 x5).f0).toList then ((r11_Texts.f k ((rd_T38 x276000 x5).f1) ((rd_T38 x277000 x5).f1)).bind fun t284 => (if t284 = true then (r11_Same.l0 k (wrap64 (x5 + 1)) x276000 x276001 x276002 x276003 x276004 x277000 x277001 x277002 x277003 x277004) else (some false))) else (some false)) else (none)) else (none)) else (some true)
end
def r11_Same.f (k : Nat) (l0_0 : List (S38)) (l0_1 : List ByteArray) (l0_2 : List ByteArray) (l0_3 : List ByteArray) (a0_4 : Int) (l1_0 : List (S38)) (l1_1 : List ByteArray) (l1_2 : List ByteArray) (l1_3 : List ByteArray) (a1_4 : Int) : Option (Bool) := if (l0_0.length : Int) = (l1_0.length : Int) then (if a0_4 = a1_4 then ((r11_Texts.f k l0_1 l1_1).bind fun t277 => (if t277 = true then ((r11_Texts.f k l0_2 l1_2).bind fun t278 => (if t278 = true then ((r11_Texts.f k l0_3 l1_3).bind fun t279 => (r11_Same.j0 k (!t279) l0_0 l0_1 l0_2 l0_3 a0_4 l1_0 l1_1 l1_2 l1_3 a1_4)) else (r11_Same.j0 k true l0_0 l0_1 l0_2 l0_3 a0_4 l1_0 l1_1 l1_2 l1_3 a1_4))) else (r11_Same.j0 k true l0_0 l0_1 l0_2 l0_3 a0_4 l1_0 l1_1 l1_2 l1_3 a1_4))) else (r11_Same.j0 k true l0_0 l0_1 l0_2 l0_3 a0_4 l1_0 l1_1 l1_2 l1_3 a1_4)) else (r11_Same.j0 k true l0_0 l0_1 l0_2 l0_3 a0_4 l1_0 l1_1 l1_2 l1_3 a1_4)
theorem r11_Same.calls (k : Nat) (A0_0 : Option Addr) (c0_0 : Nat) (l0_0 : List (S38)) (A0_1 : Option Addr) (c0_1 : Nat) (l0_1 : List ByteArray) (A0_2 : Option Addr) (c0_2 : Nat) (l0_2 : List ByteArray) (A0_3 : Option Addr) (c0_3 : Nat) (l0_3 : List ByteArray) (a0_4 : Int) (A1_0 : Option Addr) (c1_0 : Nat) (l1_0 : List (S38)) (A1_1 : Option Addr) (c1_1 : Nat) (l1_1 : List ByteArray) (A1_2 : Option Addr) (c1_2 : Nat) (l1_2 : List ByteArray) (A1_3 : Option Addr) (c1_3 : Nat) (l1_3 : List ByteArray) (a1_4 : Int) (r : Bool) (w : World) (hr0_0 : Kd.C k38 w A0_0 l0_0.length l0_0) (hc0_0 : l0_0.length ≤ c0_0) (hr0_1 : Kd.C Kd.string w A0_1 l0_1.length l0_1) (hc0_1 : l0_1.length ≤ c0_1) (hr0_2 : Kd.C Kd.string w A0_2 l0_2.length l0_2) (hc0_2 : l0_2.length ≤ c0_2) (hr0_3 : Kd.C Kd.string w A0_3 l0_3.length l0_3) (hc0_3 : l0_3.length ≤ c0_3) (hr1_0 : Kd.C k38 w A1_0 l1_0.length l1_0) (hc1_0 : l1_0.length ≤ c1_0) (hr1_1 : Kd.C Kd.string w A1_1 l1_1.length l1_1) (hc1_1 : l1_1.length ≤ c1_1) (hr1_2 : Kd.C Kd.string w A1_2 l1_2.length l1_2) (hc1_2 : l1_2.length ≤ c1_2) (hr1_3 : Kd.C Kd.string w A1_3 l1_3.length l1_3) (hc1_3 : l1_3.length ≤ c1_3) (h : r11_Same.f k l0_0 l0_1 l0_2 l0_3 a0_4 l1_0 l1_1 l1_2 l1_3 a1_4 = some r) :
  Calls Tryz.prog 11 #[.agg #[.slice A0_0 l0_0.length c0_0, .slice A0_1 l0_1.length c0_1, .slice A0_2 l0_2.length c0_2, .slice A0_3 l0_3.length c0_3, .int .i64 a0_4], .agg #[.slice A1_0 l1_0.length c1_0, .slice A1_1 l1_1.length c1_1, .slice A1_2 l1_2.length c1_2, .slice A1_3 l1_3.length c1_3, .int .i64 a1_4]] w fun e w' => e = .returned (.bool r) ∧ Below w.heap.size w w' := by
 have hu25 := Tryz.underlying25;obtain ⟨HR0_0, HC0_0, HR0_1, HC0_1⟩ := as4 hr0_0 hc0_0 hr0_1 hc0_1;clear hr0_0 hc0_0 hr0_1 hc0_1;obtain ⟨HR0_2, HC0_2, HR0_3, HC0_3⟩ := as4 hr0_2 hc0_2 hr0_3 hc0_3;clear hr0_2 hc0_2 hr0_3 hc0_3;obtain ⟨HR1_0, HC1_0, HR1_1, HC1_1⟩ := as4 hr1_0 hc1_0 hr1_1 hc1_1;clear hr1_0 hc1_0 hr1_1 hc1_1;obtain ⟨HR1_2, HC1_2, HR1_3, HC1_3⟩ := as4 hr1_2 hc1_2 hr1_3 hc1_3;clear hr1_2 hc1_2 hr1_3 hc1_3;have HB := Am (Below.refl w.heap.size w);have H := h;clear h;unfold r11_Same.f at H;have HC3 := Am H;clear H;go_enter Tryz.func11, Tryz.ntmps11
 go_upto_region 1 with (first | ((with_reducible refine gate_dst (N := 2) rfl ?_); refine box5 25 2 (cs := #[.slice A0_0 l0_0.length c0_0, .slice A0_1 l0_1.length c0_1, .slice A0_2 l0_2.length c0_2, .slice A0_3 l0_3.length c0_3, .int .i64 a0_4]) ?_; clear HB; intro gb275 w4 HB BK275 GE275) | ((with_reducible refine gate_dst (N := 3) rfl ?_); refine boxE 25 3 (cs := #[.slice A1_0 l1_0.length c1_0, .slice A1_1 l1_1.length c1_1, .slice A1_2 l1_2.length c1_2, .slice A1_3 l1_3.length c1_3, .int .i64 a1_4]) ?_; intro gb276 hg w5 hbox hb; have n0_ := Bb BK275 hb; have n1_ := Bs hb; have n2_ := Am (hbox); have n3_ := Am (Gg hg); have n4_ := Am (Gg hg); have n5_ := Nl hg BK275; have n6_ := Ng hg BK275; clear BK275; clear HB; have BK275 := n0_; have HB := n1_; have BK276 := n2_; have GW276 := n3_; have GE276 := n4_; have NB275_276 := n5_; have NB276_275 := n6_; clear n0_ n1_ n2_ n3_ n4_ n5_ n6_; clear hb hbox hg))
 repeat (go_quiet (first | ((with_reducible refine gate_dst (N := 2) rfl ?_); refine box5 25 2 (cs := #[.slice A0_0 l0_0.length c0_0, .slice A0_1 l0_1.length c0_1, .slice A0_2 l0_2.length c0_2, .slice A0_3 l0_3.length c0_3, .int .i64 a0_4]) ?_; clear HB; intro gb275 w4 HB BK275 GE275) | ((with_reducible refine gate_dst (N := 3) rfl ?_); refine boxE 25 3 (cs := #[.slice A1_0 l1_0.length c1_0, .slice A1_1 l1_1.length c1_1, .slice A1_2 l1_2.length c1_2, .slice A1_3 l1_3.length c1_3, .int .i64 a1_4]) ?_; intro gb276 hg w5 hbox hb; have n0_ := Bb BK275 hb; have n1_ := Bs hb; have n2_ := Am (hbox); have n3_ := Am (Gg hg); have n4_ := Am (Gg hg); have n5_ := Nl hg BK275; have n6_ := Ng hg BK275; clear BK275; clear HB; have BK275 := n0_; have HB := n1_; have BK276 := n2_; have GW276 := n3_; have GE276 := n4_; have NB275_276 := n5_; have NB276_275 := n6_; clear n0_ n1_ n2_ n3_ n4_ n5_ n6_; clear hb hbox hg)); go_upto_region 1 with (first | ((with_reducible refine gate_dst (N := 2) rfl ?_); refine box5 25 2 (cs := #[.slice A0_0 l0_0.length c0_0, .slice A0_1 l0_1.length c0_1, .slice A0_2 l0_2.length c0_2, .slice A0_3 l0_3.length c0_3, .int .i64 a0_4]) ?_; clear HB; intro gb275 w4 HB BK275 GE275) | ((with_reducible refine gate_dst (N := 3) rfl ?_); refine boxE 25 3 (cs := #[.slice A1_0 l1_0.length c1_0, .slice A1_1 l1_1.length c1_1, .slice A1_2 l1_2.length c1_2, .slice A1_3 l1_3.length c1_3, .int .i64 a1_4]) ?_; intro gb276 hg w5 hbox hb; have n0_ := Bb BK275 hb; have n1_ := Bs hb; have n2_ := Am (hbox); have n3_ := Am (Gg hg); have n4_ := Am (Gg hg); have n5_ := Nl hg BK275; have n6_ := Ng hg BK275; clear BK275; clear HB; have BK275 := n0_; have HB := n1_; have BK276 := n2_; have GW276 := n3_; have GE276 := n4_; have NB275_276 := n5_; have NB276_275 := n6_; clear n0_ n1_ n2_ n3_ n4_ n5_ n6_; clear hb hbox hg)))
 (try simp only [Act.put, List.setIfInBounds_toArray, List.set_cons_zero, List.set_cons_succ])
 go_cut [43] (fun v43 wc => ∃ (kq : Nat) (x43_2 : Bool), v43 = .bool x43_2 ∧ Aside0 (r11_Same.j0 kq x43_2 l0_0 l0_1 l0_2 l0_3 a0_4 l1_0 l1_1 l1_2 l1_3 a1_4 = some r) ∧ Aside0 (kq ≤ k) ∧ Aside0 (wc.heap[gb275]? = some (.cells #[(.slice A0_0 l0_0.length c0_0), (.slice A0_1 l0_1.length c0_1), (.slice A0_2 l0_2.length c0_2), (.slice A0_3 l0_3.length c0_3), .int .i64 a0_4] 25 (0, 0))) ∧ Aside0 (wc.heap[gb276]? = some (.cells #[(.slice A1_0 l1_0.length c1_0), (.slice A1_1 l1_1.length c1_1), (.slice A1_2 l1_2.length c1_2), (.slice A1_3 l1_3.length c1_3), .int .i64 a1_4] 25 (0, 0))) ∧ Aside0 (Below w.heap.size w wc))
 case first =>
  have H := HC3.out;clear HC3
  by_cases c6 : (l0_0.length : Int) = (l1_0.length : Int)
  ·rw [if_pos c6] at H;obtain ⟨c6b0, c6b1⟩ := eqb c6;have c6b2 : (l0_0.length == l1_0.length) = true := by first | simpa using c6 | (simp at c6 ⊢; omega)
   clear c6;(first | rw [c6b0] | (simp only [i64_w, i32_w]; rw [c6b0]) | skip)
   by_cases c7 : a0_4 = a1_4
   ·rw [if_pos c7] at H;obtain ⟨c7b0, c7b1⟩ := eqb c7;clear c7;obtain ⟨t277, A8, H⟩ := bx H;(try dsimp -simprocs only at H)
    by_cases c9 : t277 = true
    ·subst c9;rw [if_pos rfl] at H;obtain ⟨t278, A10, H⟩ := bx H;(try dsimp -simprocs only at H)
     by_cases c11 : t278 = true
     ·subst c11;rw [if_pos rfl] at H;obtain ⟨t279, A12, H⟩ := bx H;(try dsimp -simprocs only at H);have H' := Am H;clear H;have hnb13 := NB275_276.out;have hnc13 := NB276_275.out;obtain ⟨Z14_0, Z14_1, Z14_2, Z14_3, Z14_4, Y14_0, Y14_1, Y14_2, Y14_3, Y14_4⟩ := cells5 BK275;obtain ⟨Z15_0, Z15_1, Z15_2, Z15_3, Z15_4, Y15_0, Y15_1, Y15_2, Y15_3, Y15_4⟩ := cells5 BK276;go_wp2_with (first | (go_at_call 33; (with_reducible refine (r11_Texts.calls k _ _ l0_1 _ _ l1_1 true _ (Cs HR0_1) HC0_1.out (Cs HR1_1) HC1_1.out A8.out).mono ?_); rintro e w' ⟨rfl, ⟨nd, rfl⟩⟩; (try first | exact ⟨rfl, _, World.drewN_drewN _ _ _⟩ | exact ⟨rfl, _, Eq.trans (World.drewN_drewN _ _ _) (congrArg (World.drewN _) (Nat.add_assoc _ _ _))⟩)) | (go_at_call 33; (with_reducible refine (r11_Texts.calls k _ _ l0_2 _ _ l1_2 true _ ?side1 HC0_2.out ?side3 HC1_2.out A10.out).mono ?_); (case side1 => exact Cd (Kd.C_below HR0_2.out Bw)); (case side3 => exact Cd (Kd.C_below HR1_2.out Bw)); rintro e w' ⟨rfl, ⟨nd, rfl⟩⟩; (try first | exact ⟨rfl, _, World.drewN_drewN _ _ _⟩ | exact ⟨rfl, _, Eq.trans (World.drewN_drewN _ _ _) (congrArg (World.drewN _) (Nat.add_assoc _ _ _))⟩)) | (go_at_call 33; (with_reducible refine (r11_Texts.calls k _ _ l0_3 _ _ l1_3 t279 _ ?side1 HC0_3.out ?side3 HC1_3.out A12.out).mono ?_); (case side1 => exact Cd (Kd.C_below HR0_3.out Bw)); (case side3 => exact Cd (Kd.C_below HR1_3.out Bw)); rintro e w' ⟨rfl, ⟨nd, rfl⟩⟩; (try first | exact ⟨rfl, _, World.drewN_drewN _ _ _⟩ | exact ⟨rfl, _, Eq.trans (World.drewN_drewN _ _ _) (congrArg (World.drewN _) (Nat.add_assoc _ _ _))⟩)))
      repeat (go_quiet (first | (go_at_call 33; (with_reducible refine (r11_Texts.calls k _ _ l0_1 _ _ l1_1 true _ (Cs HR0_1) HC0_1.out (Cs HR1_1) HC1_1.out A8.out).mono ?_); rintro e w' ⟨rfl, ⟨nd, rfl⟩⟩; (try first | exact ⟨rfl, _, World.drewN_drewN _ _ _⟩ | exact ⟨rfl, _, Eq.trans (World.drewN_drewN _ _ _) (congrArg (World.drewN _) (Nat.add_assoc _ _ _))⟩)) | (go_at_call 33; (with_reducible refine (r11_Texts.calls k _ _ l0_2 _ _ l1_2 true _ ?side1 HC0_2.out ?side3 HC1_2.out A10.out).mono ?_); (case side1 => exact Cd (Kd.C_below HR0_2.out Bw)); (case side3 => exact Cd (Kd.C_below HR1_2.out Bw)); rintro e w' ⟨rfl, ⟨nd, rfl⟩⟩; (try first | exact ⟨rfl, _, World.drewN_drewN _ _ _⟩ | exact ⟨rfl, _, Eq.trans (World.drewN_drewN _ _ _) (congrArg (World.drewN _) (Nat.add_assoc _ _ _))⟩)) | (go_at_call 33; (with_reducible refine (r11_Texts.calls k _ _ l0_3 _ _ l1_3 t279 _ ?side1 HC0_3.out ?side3 HC1_3.out A12.out).mono ?_); (case side1 => exact Cd (Kd.C_below HR0_3.out Bw)); (case side3 => exact Cd (Kd.C_below HR1_3.out Bw)); rintro e w' ⟨rfl, ⟨nd, rfl⟩⟩; (try first | exact ⟨rfl, _, World.drewN_drewN _ _ _⟩ | exact ⟨rfl, _, Eq.trans (World.drewN_drewN _ _ _) (congrArg (World.drewN _) (Nat.add_assoc _ _ _))⟩))); try go_wp2_with (first | (go_at_call 33; (with_reducible refine (r11_Texts.calls k _ _ l0_1 _ _ l1_1 true _ (Cs HR0_1) HC0_1.out (Cs HR1_1) HC1_1.out A8.out).mono ?_); rintro e w' ⟨rfl, ⟨nd, rfl⟩⟩; (try first | exact ⟨rfl, _, World.drewN_drewN _ _ _⟩ | exact ⟨rfl, _, Eq.trans (World.drewN_drewN _ _ _) (congrArg (World.drewN _) (Nat.add_assoc _ _ _))⟩)) | (go_at_call 33; (with_reducible refine (r11_Texts.calls k _ _ l0_2 _ _ l1_2 true _ ?side1 HC0_2.out ?side3 HC1_2.out A10.out).mono ?_); (case side1 => exact Cd (Kd.C_below HR0_2.out Bw)); (case side3 => exact Cd (Kd.C_below HR1_2.out Bw)); rintro e w' ⟨rfl, ⟨nd, rfl⟩⟩; (try first | exact ⟨rfl, _, World.drewN_drewN _ _ _⟩ | exact ⟨rfl, _, Eq.trans (World.drewN_drewN _ _ _) (congrArg (World.drewN _) (Nat.add_assoc _ _ _))⟩)) | (go_at_call 33; (with_reducible refine (r11_Texts.calls k _ _ l0_3 _ _ l1_3 t279 _ ?side1 HC0_3.out ?side3 HC1_3.out A12.out).mono ?_); (case side1 => exact Cd (Kd.C_below HR0_3.out Bw)); (case side3 => exact Cd (Kd.C_below HR1_3.out Bw)); rintro e w' ⟨rfl, ⟨nd, rfl⟩⟩; (try first | exact ⟨rfl, _, World.drewN_drewN _ _ _⟩ | exact ⟨rfl, _, Eq.trans (World.drewN_drewN _ _ _) (congrArg (World.drewN _) (Nat.add_assoc _ _ _))⟩))))
      go_meet
      case rel => exact ⟨_, (!t279), Rs, H', ⟨On⟩, ⟨(Bk BK275)⟩, ⟨(Bk BK276)⟩, ⟨Bw⟩⟩
     replace c11 := bf c11;subst c11;rw [if_neg (show ¬ (false = true) by decide)] at H;have H' := Am H;clear H;have hnb16 := NB275_276.out;have hnc16 := NB276_275.out;obtain ⟨Z17_0, Z17_1, Z17_2, Z17_3, Z17_4, Y17_0, Y17_1, Y17_2, Y17_3, Y17_4⟩ := cells5 BK275;obtain ⟨Z18_0, Z18_1, Z18_2, Z18_3, Z18_4, Y18_0, Y18_1, Y18_2, Y18_3, Y18_4⟩ := cells5 BK276;go_wp2_with (first | (go_at_call 33; (with_reducible refine (r11_Texts.calls k _ _ l0_1 _ _ l1_1 true _ (Cs HR0_1) HC0_1.out (Cs HR1_1) HC1_1.out A8.out).mono ?_); rintro e w' ⟨rfl, ⟨nd, rfl⟩⟩; (try first | exact ⟨rfl, _, World.drewN_drewN _ _ _⟩ | exact ⟨rfl, _, Eq.trans (World.drewN_drewN _ _ _) (congrArg (World.drewN _) (Nat.add_assoc _ _ _))⟩)) | (go_at_call 33; (with_reducible refine (r11_Texts.calls k _ _ l0_2 _ _ l1_2 false _ ?side1 HC0_2.out ?side3 HC1_2.out A10.out).mono ?_); (case side1 => exact Cd (Kd.C_below HR0_2.out Bw)); (case side3 => exact Cd (Kd.C_below HR1_2.out Bw)); rintro e w' ⟨rfl, ⟨nd, rfl⟩⟩; (try first | exact ⟨rfl, _, World.drewN_drewN _ _ _⟩ | exact ⟨rfl, _, Eq.trans (World.drewN_drewN _ _ _) (congrArg (World.drewN _) (Nat.add_assoc _ _ _))⟩)))
     repeat (go_quiet (first | (go_at_call 33; (with_reducible refine (r11_Texts.calls k _ _ l0_1 _ _ l1_1 true _ (Cs HR0_1) HC0_1.out (Cs HR1_1) HC1_1.out A8.out).mono ?_); rintro e w' ⟨rfl, ⟨nd, rfl⟩⟩; (try first | exact ⟨rfl, _, World.drewN_drewN _ _ _⟩ | exact ⟨rfl, _, Eq.trans (World.drewN_drewN _ _ _) (congrArg (World.drewN _) (Nat.add_assoc _ _ _))⟩)) | (go_at_call 33; (with_reducible refine (r11_Texts.calls k _ _ l0_2 _ _ l1_2 false _ ?side1 HC0_2.out ?side3 HC1_2.out A10.out).mono ?_); (case side1 => exact Cd (Kd.C_below HR0_2.out Bw)); (case side3 => exact Cd (Kd.C_below HR1_2.out Bw)); rintro e w' ⟨rfl, ⟨nd, rfl⟩⟩; (try first | exact ⟨rfl, _, World.drewN_drewN _ _ _⟩ | exact ⟨rfl, _, Eq.trans (World.drewN_drewN _ _ _) (congrArg (World.drewN _) (Nat.add_assoc _ _ _))⟩))); try go_wp2_with (first | (go_at_call 33; (with_reducible refine (r11_Texts.calls k _ _ l0_1 _ _ l1_1 true _ (Cs HR0_1) HC0_1.out (Cs HR1_1) HC1_1.out A8.out).mono ?_); rintro e w' ⟨rfl, ⟨nd, rfl⟩⟩; (try first | exact ⟨rfl, _, World.drewN_drewN _ _ _⟩ | exact ⟨rfl, _, Eq.trans (World.drewN_drewN _ _ _) (congrArg (World.drewN _) (Nat.add_assoc _ _ _))⟩)) | (go_at_call 33; (with_reducible refine (r11_Texts.calls k _ _ l0_2 _ _ l1_2 false _ ?side1 HC0_2.out ?side3 HC1_2.out A10.out).mono ?_); (case side1 => exact Cd (Kd.C_below HR0_2.out Bw)); (case side3 => exact Cd (Kd.C_below HR1_2.out Bw)); rintro e w' ⟨rfl, ⟨nd, rfl⟩⟩; (try first | exact ⟨rfl, _, World.drewN_drewN _ _ _⟩ | exact ⟨rfl, _, Eq.trans (World.drewN_drewN _ _ _) (congrArg (World.drewN _) (Nat.add_assoc _ _ _))⟩))))
     go_meet
     case rel => exact ⟨_, (true), Rs, H', ⟨On⟩, ⟨(Bk BK275)⟩, ⟨(Bk BK276)⟩, ⟨Bw⟩⟩
    replace c9 := bf c9;subst c9;rw [if_neg (show ¬ (false = true) by decide)] at H;have H' := Am H;clear H;have hnb19 := NB275_276.out;have hnc19 := NB276_275.out;obtain ⟨Z20_0, Z20_1, Z20_2, Z20_3, Z20_4, Y20_0, Y20_1, Y20_2, Y20_3, Y20_4⟩ := cells5 BK275;obtain ⟨Z21_0, Z21_1, Z21_2, Z21_3, Z21_4, Y21_0, Y21_1, Y21_2, Y21_3, Y21_4⟩ := cells5 BK276;go_wp2_with (first | (go_at_call 33; (with_reducible refine (r11_Texts.calls k _ _ l0_1 _ _ l1_1 false _ (Cs HR0_1) HC0_1.out (Cs HR1_1) HC1_1.out A8.out).mono ?_); rintro e w' ⟨rfl, ⟨nd, rfl⟩⟩; (try first | exact ⟨rfl, _, World.drewN_drewN _ _ _⟩ | exact ⟨rfl, _, Eq.trans (World.drewN_drewN _ _ _) (congrArg (World.drewN _) (Nat.add_assoc _ _ _))⟩)))
    repeat (go_quiet (first | (go_at_call 33; (with_reducible refine (r11_Texts.calls k _ _ l0_1 _ _ l1_1 false _ (Cs HR0_1) HC0_1.out (Cs HR1_1) HC1_1.out A8.out).mono ?_); rintro e w' ⟨rfl, ⟨nd, rfl⟩⟩; (try first | exact ⟨rfl, _, World.drewN_drewN _ _ _⟩ | exact ⟨rfl, _, Eq.trans (World.drewN_drewN _ _ _) (congrArg (World.drewN _) (Nat.add_assoc _ _ _))⟩))); try go_wp2_with (first | (go_at_call 33; (with_reducible refine (r11_Texts.calls k _ _ l0_1 _ _ l1_1 false _ (Cs HR0_1) HC0_1.out (Cs HR1_1) HC1_1.out A8.out).mono ?_); rintro e w' ⟨rfl, ⟨nd, rfl⟩⟩; (try first | exact ⟨rfl, _, World.drewN_drewN _ _ _⟩ | exact ⟨rfl, _, Eq.trans (World.drewN_drewN _ _ _) (congrArg (World.drewN _) (Nat.add_assoc _ _ _))⟩))))
    go_meet
    case rel => exact ⟨_, (true), Rs, H', ⟨On⟩, ⟨(Bk BK275)⟩, ⟨(Bk BK276)⟩, ⟨Bw⟩⟩
   rw [if_neg c7] at H;obtain ⟨c7b0, c7b1⟩ := neb c7;have H' := Am H;clear H;have hnb22 := NB275_276.out;have hnc22 := NB276_275.out;obtain ⟨Z23_0, Z23_1, Z23_2, Z23_3, Z23_4, Y23_0, Y23_1, Y23_2, Y23_3, Y23_4⟩ := cells5 BK275;obtain ⟨Z24_0, Z24_1, Z24_2, Z24_3, Z24_4, Y24_0, Y24_1, Y24_2, Y24_3, Y24_4⟩ := cells5 BK276;go_wp2
   repeat (go_quiet (fail); try go_wp2)
   go_meet
   case rel => exact ⟨_, (true), Rs, H', ⟨On⟩, ⟨(Bk BK275)⟩, ⟨(Bk BK276)⟩, ⟨Bw⟩⟩
  rw [if_neg c6] at H;obtain ⟨c6b0, c6b1⟩ := neb c6;have c6b2 : (l0_0.length == l1_0.length) = false := by first | simpa using c6 | (simp at c6 ⊢; omega)
  (first | rw [c6b0] | (simp only [i64_w, i32_w]; rw [c6b0]) | skip);have H' := Am H;clear H;have hnb25 := NB275_276.out;have hnc25 := NB276_275.out;obtain ⟨Z26_0, Z26_1, Z26_2, Z26_3, Z26_4, Y26_0, Y26_1, Y26_2, Y26_3, Y26_4⟩ := cells5 BK275;obtain ⟨Z27_0, Z27_1, Z27_2, Z27_3, Z27_4, Y27_0, Y27_1, Y27_2, Y27_3, Y27_4⟩ := cells5 BK276;go_wp2
  repeat (go_quiet (fail); try go_wp2)
  go_meet
  case rel => exact ⟨_, (true), Rs, H', ⟨On⟩, ⟨(Bk BK275)⟩, ⟨(Bk BK276)⟩, ⟨Bw⟩⟩
 case rest =>
  clear HC3;(try clear c1);(try clear c2);(try clear p2);(try clear c6);(try clear c6b0);(try clear c6b1);(try clear c6b2);(try clear c7);(try clear c7b0);(try clear c7b1);(try clear c9);(try clear c11);(try clear c13);(try clear c16);(try clear c19);(try clear c22);(try clear c25);(try clear Z14_0 Z14_1 Z14_2 Z14_3 Z14_4);(try clear Z15_0 Z15_1 Z15_2 Z15_3 Z15_4);(try clear Z17_0 Z17_1 Z17_2 Z17_3 Z17_4);(try clear Z18_0 Z18_1 Z18_2 Z18_3 Z18_4);(try clear Z20_0 Z20_1 Z20_2 Z20_3 Z20_4);(try clear Z21_0 Z21_1 Z21_2 Z21_3 Z21_4);(try clear Z23_0 Z23_1 Z23_2 Z23_3 Z23_4);(try clear Z24_0 Z24_1 Z24_2 Z24_3 Z24_4);(try clear Z26_0 Z26_1 Z26_2 Z26_3 Z26_4);(try clear Z27_0 Z27_1 Z27_2 Z27_3 Z27_4);(try clear Y14_0 Y14_1 Y14_2 Y14_3 Y14_4);(try clear Y15_0 Y15_1 Y15_2 Y15_3 Y15_4);(try clear Y17_0 Y17_1 Y17_2 Y17_3 Y17_4);(try clear Y18_0 Y18_1 Y18_2 Y18_3 Y18_4);(try clear Y20_0 Y20_1 Y20_2 Y20_3 Y20_4);(try clear Y21_0 Y21_1 Y21_2 Y21_3 Y21_4);(try clear Y23_0 Y23_1 Y23_2 Y23_3 Y23_4);(try clear Y24_0 Y24_1 Y24_2 Y24_3 Y24_4);(try clear Y26_0 Y26_1 Y26_2 Y26_3 Y26_4);(try clear Y27_0 Y27_1 Y27_2 Y27_3 Y27_4);obtain ⟨kq, x43_2, rfl, HA, HJ2, BK275, BK276, HB⟩ := hcut
  cases kq with
  | zero => exact absurd HA.out (by simp [r11_Same.j0])
  | succ kj2 =>
   have H := HA.out;clear HA;simp only [r11_Same.j0] at H
   by_cases c28 : x43_2 = true
   ·subst c28;rw [if_pos rfl] at H;obtain rfl := si H;go_wp2
    repeat (go_quiet (fail); try go_wp2)
    go_ret;exact ⟨Re, Bw⟩
   replace c28 := bf c28;subst c28;rw [if_neg (show ¬ (false = true) by decide)] at H;have H' := Am H;clear H;go_wp2
   repeat (go_quiet (fail); try go_wp2)
   go_loopg [5] kj2 (fun kq v5 w' => ∃ (x5_2 : Int), v5 = .int .i64 x5_2 ∧ Aside0 (r11_Same.l0 kq x5_2 l0_0 l0_1 l0_2 l0_3 a0_4 l1_0 l1_1 l1_2 l1_3 a1_4 = some r) ∧ Aside0 (kq ≤ kj2) ∧ Aside0 (w'.heap[gb275]? = some (.cells #[(.slice A0_0 l0_0.length c0_0), (.slice A0_1 l0_1.length c0_1), (.slice A0_2 l0_2.length c0_2), (.slice A0_3 l0_3.length c0_3), .int .i64 a0_4] 25 (0, 0))) ∧ Aside0 (w'.heap[gb276]? = some (.cells #[(.slice A1_0 l1_0.length c1_0), (.slice A1_1 l1_1.length c1_1), (.slice A1_2 l1_2.length c1_2), (.slice A1_3 l1_3.length c1_3), .int .i64 a1_4] 25 (0, 0))) ∧ Aside0 (Below w.heap.size w w'))
   case atStart => exact ⟨(0), Rs, H', ⟨Nat.le_refl _⟩, ⟨(Bk BK275)⟩, ⟨(Bk BK276)⟩, ⟨Bw⟩⟩
   case round =>
    clear H';(try clear c1);(try clear c2);(try clear p2);(try clear c6);(try clear c6b0);(try clear c6b1);(try clear c6b2);(try clear c7);(try clear c7b0);(try clear c7b1);(try clear c9);(try clear c11);(try clear c13);(try clear c16);(try clear c19);(try clear c22);(try clear c25);(try clear c28);(try clear Z14_0 Z14_1 Z14_2 Z14_3 Z14_4);(try clear Z15_0 Z15_1 Z15_2 Z15_3 Z15_4);(try clear Z17_0 Z17_1 Z17_2 Z17_3 Z17_4);(try clear Z18_0 Z18_1 Z18_2 Z18_3 Z18_4);(try clear Z20_0 Z20_1 Z20_2 Z20_3 Z20_4);(try clear Z21_0 Z21_1 Z21_2 Z21_3 Z21_4);(try clear Z23_0 Z23_1 Z23_2 Z23_3 Z23_4);(try clear Z24_0 Z24_1 Z24_2 Z24_3 Z24_4);(try clear Z26_0 Z26_1 Z26_2 Z26_3 Z26_4);(try clear Z27_0 Z27_1 Z27_2 Z27_3 Z27_4);(try clear Y14_0 Y14_1 Y14_2 Y14_3 Y14_4);(try clear Y15_0 Y15_1 Y15_2 Y15_3 Y15_4);(try clear Y17_0 Y17_1 Y17_2 Y17_3 Y17_4);(try clear Y18_0 Y18_1 Y18_2 Y18_3 Y18_4);(try clear Y20_0 Y20_1 Y20_2 Y20_3 Y20_4);(try clear Y21_0 Y21_1 Y21_2 Y21_3 Y21_4);(try clear Y23_0 Y23_1 Y23_2 Y23_3 Y23_4);(try clear Y24_0 Y24_1 Y24_2 Y24_3 Y24_4);(try clear Y26_0 Y26_1 Y26_2 Y26_3 Y26_4);(try clear Y27_0 Y27_1 Y27_2 Y27_3 Y27_4);(try clear p2);obtain ⟨x5_2, rfl, HA, HK2, BK275, BK276, HB⟩ := hrel
    cases gk with
    | zero => exact absurd HA.out (by simp [r11_Same.l0])
    | succ k2 =>
     have H := HA.out;clear HA;simp only [r11_Same.l0] at H
     by_cases c29 : x5_2 < (l0_0.length : Int)
     ·rw [if_pos c29] at H;have c29b0 := decide_eq_true c29;clear c29
      by_cases c30 : 0 ≤ x5_2
      ·rw [if_pos c30] at H;have c30b0 := decide_eq_true c30;clear c30
       by_cases c31 : x5_2 < (l1_0.length : Int)
       ·rw [if_pos c31] at H;have c31b0 := decide_eq_true c31;clear c31
        by_cases c32 : ((rd_T38 l0_0 x5_2).f0).toList = ((rd_T38 l1_0 x5_2).f0).toList
        ·rw [if_pos c32] at H;obtain ⟨c32b0, c32b1⟩ := eqb c32;clear c32;obtain ⟨t284, A33, H⟩ := bx H;(try dsimp -simprocs only at H)
         by_cases c34 : t284 = true
         ·subst c34;rw [if_pos rfl] at H;have H' := Am H;clear H;have hnb35 := NB275_276.out;have hnc35 := NB276_275.out;obtain ⟨Z36_0, Z36_1, Z36_2, Z36_3, Z36_4, Y36_0, Y36_1, Y36_2, Y36_3, Y36_4⟩ := cells5 BK275;have p280 : 0 ≤ (x5_2 : Int) := Od;have q280 : x5_2 < (l0_0.length : Int) := Od;obtain ⟨ad280, A280_1, c280_1, e280, hx280_0, hx280_1, HC280_1, HR280_1⟩ := at'_T38 HR0_0.out x5_2 p280 q280;cases e280;replace p280 := eq_true p280;replace q280 := eq_true q280;obtain ⟨Z37_0, Z37_1, Z37_2, Z37_3, Z37_4, Y37_0, Y37_1, Y37_2, Y37_3, Y37_4⟩ := cells5 BK276;have p281 : 0 ≤ (x5_2 : Int) := Od;have q281 : x5_2 < (l1_0.length : Int) := Od;obtain ⟨ad281, A281_1, c281_1, e281, hx281_0, hx281_1, HC281_1, HR281_1⟩ := at'_T38 HR1_0.out x5_2 p281 q281;cases e281;replace p281 := eq_true p281;replace q281 := eq_true q281;have p282 : 0 ≤ (x5_2 : Int) := Od;have q282 : x5_2 < (l0_0.length : Int) := Od;obtain ⟨ad282, A282_1, c282_1, e282, hx282_0, hx282_1, hl282_1, hi282_1⟩ := at_T38 HR0_0.out x5_2 p282 q282;obtain rfl : ad280 = ad282 := (by injection e282);replace hx282_0 := Hx hx282_0;replace hx282_1 := Hx hx282_1;have HR282_1 := Am hi282_1;have HC282_1 := Am hl282_1;clear hi282_1 hl282_1;replace p282 := eq_true p282;replace q282 := eq_true q282;have ea_ := Option.some.inj (hx280_1.symm.trans hx282_1)
          injection ea_ with ea_ en_ ec_
          subst ea_;subst ec_;clear en_;have p283 : 0 ≤ (x5_2 : Int) := Od;have q283 : x5_2 < (l1_0.length : Int) := Od;obtain ⟨ad283, A283_1, c283_1, e283, hx283_0, hx283_1, hl283_1, hi283_1⟩ := at_T38 HR1_0.out x5_2 p283 q283;obtain rfl : ad281 = ad283 := (by injection e283);replace hx283_0 := Hx hx283_0;replace hx283_1 := Hx hx283_1;have HR283_1 := Am hi283_1;have HC283_1 := Am hl283_1;clear hi283_1 hl283_1;replace p283 := eq_true p283;replace q283 := eq_true q283;have ea_ := Option.some.inj (hx281_1.symm.trans hx283_1)
          injection ea_ with ea_ en_ ec_
          subst ea_;subst ec_;clear en_;go_wp2_with (first | (go_at_call 33; (with_reducible refine (r11_Texts.calls k2 _ _ ((rd_T38 l0_0 x5_2).f1) _ _ ((rd_T38 l1_0 x5_2).f1) true _ (Cs HR282_1) HC282_1.out (Cs HR283_1) HC283_1.out A33.out).mono ?_); rintro e w' ⟨rfl, ⟨nd, rfl⟩⟩; (try first | exact ⟨rfl, _, World.drewN_drewN _ _ _⟩ | exact ⟨rfl, _, Eq.trans (World.drewN_drewN _ _ _) (congrArg (World.drewN _) (Nat.add_assoc _ _ _))⟩)))
          repeat (go_quiet (first | (go_at_call 33; (with_reducible refine (r11_Texts.calls k2 _ _ ((rd_T38 l0_0 x5_2).f1) _ _ ((rd_T38 l1_0 x5_2).f1) true _ (Cs HR282_1) HC282_1.out (Cs HR283_1) HC283_1.out A33.out).mono ?_); rintro e w' ⟨rfl, ⟨nd, rfl⟩⟩; (try first | exact ⟨rfl, _, World.drewN_drewN _ _ _⟩ | exact ⟨rfl, _, Eq.trans (World.drewN_drewN _ _ _) (congrArg (World.drewN _) (Nat.add_assoc _ _ _))⟩))); try go_wp2_with (first | (go_at_call 33; (with_reducible refine (r11_Texts.calls k2 _ _ ((rd_T38 l0_0 x5_2).f1) _ _ ((rd_T38 l1_0 x5_2).f1) true _ (Cs HR282_1) HC282_1.out (Cs HR283_1) HC283_1.out A33.out).mono ?_); rintro e w' ⟨rfl, ⟨nd, rfl⟩⟩; (try first | exact ⟨rfl, _, World.drewN_drewN _ _ _⟩ | exact ⟨rfl, _, Eq.trans (World.drewN_drewN _ _ _) (congrArg (World.drewN _) (Nat.add_assoc _ _ _))⟩))))
          go_roundg k2
          case measure => have := HJ2.out; have := HK2.out; omega
          case rel => exact ⟨(wrap64 (x5_2 + 1)), Rs, H', ⟨by have := HJ2.out; have := HK2.out; omega⟩, ⟨(Bk BK275)⟩, ⟨(Bk BK276)⟩, ⟨Bw⟩⟩
         replace c34 := bf c34;subst c34;rw [if_neg (show ¬ (false = true) by decide)] at H;obtain rfl := si H;have hnb38 := NB275_276.out;have hnc38 := NB276_275.out;obtain ⟨Z39_0, Z39_1, Z39_2, Z39_3, Z39_4, Y39_0, Y39_1, Y39_2, Y39_3, Y39_4⟩ := cells5 BK275;have p280 : 0 ≤ (x5_2 : Int) := Od;have q280 : x5_2 < (l0_0.length : Int) := Od;obtain ⟨ad280, A280_1, c280_1, e280, hx280_0, hx280_1, HC280_1, HR280_1⟩ := at'_T38 HR0_0.out x5_2 p280 q280;cases e280;replace p280 := eq_true p280;replace q280 := eq_true q280;obtain ⟨Z40_0, Z40_1, Z40_2, Z40_3, Z40_4, Y40_0, Y40_1, Y40_2, Y40_3, Y40_4⟩ := cells5 BK276;have p281 : 0 ≤ (x5_2 : Int) := Od;have q281 : x5_2 < (l1_0.length : Int) := Od;obtain ⟨ad281, A281_1, c281_1, e281, hx281_0, hx281_1, HC281_1, HR281_1⟩ := at'_T38 HR1_0.out x5_2 p281 q281;cases e281;replace p281 := eq_true p281;replace q281 := eq_true q281;have p282 : 0 ≤ (x5_2 : Int) := Od;have q282 : x5_2 < (l0_0.length : Int) := Od;obtain ⟨ad282, A282_1, c282_1, e282, hx282_0, hx282_1, hl282_1, hi282_1⟩ := at_T38 HR0_0.out x5_2 p282 q282;obtain rfl : ad280 = ad282 := (by injection e282);replace hx282_0 := Hx hx282_0;replace hx282_1 := Hx hx282_1;have HR282_1 := Am hi282_1;have HC282_1 := Am hl282_1;clear hi282_1 hl282_1;replace p282 := eq_true p282;replace q282 := eq_true q282;have ea_ := Option.some.inj (hx280_1.symm.trans hx282_1)
         injection ea_ with ea_ en_ ec_
         subst ea_;subst ec_;clear en_;have p283 : 0 ≤ (x5_2 : Int) := Od;have q283 : x5_2 < (l1_0.length : Int) := Od;obtain ⟨ad283, A283_1, c283_1, e283, hx283_0, hx283_1, hl283_1, hi283_1⟩ := at_T38 HR1_0.out x5_2 p283 q283;obtain rfl : ad281 = ad283 := (by injection e283);replace hx283_0 := Hx hx283_0;replace hx283_1 := Hx hx283_1;have HR283_1 := Am hi283_1;have HC283_1 := Am hl283_1;clear hi283_1 hl283_1;replace p283 := eq_true p283;replace q283 := eq_true q283;have ea_ := Option.some.inj (hx281_1.symm.trans hx283_1)
         injection ea_ with ea_ en_ ec_
         subst ea_;subst ec_;clear en_;go_wp2_with (first | (go_at_call 33; (with_reducible refine (r11_Texts.calls k2 _ _ ((rd_T38 l0_0 x5_2).f1) _ _ ((rd_T38 l1_0 x5_2).f1) false _ (Cs HR282_1) HC282_1.out (Cs HR283_1) HC283_1.out A33.out).mono ?_); rintro e w' ⟨rfl, ⟨nd, rfl⟩⟩; (try first | exact ⟨rfl, _, World.drewN_drewN _ _ _⟩ | exact ⟨rfl, _, Eq.trans (World.drewN_drewN _ _ _) (congrArg (World.drewN _) (Nat.add_assoc _ _ _))⟩)))
         repeat (go_quiet (first | (go_at_call 33; (with_reducible refine (r11_Texts.calls k2 _ _ ((rd_T38 l0_0 x5_2).f1) _ _ ((rd_T38 l1_0 x5_2).f1) false _ (Cs HR282_1) HC282_1.out (Cs HR283_1) HC283_1.out A33.out).mono ?_); rintro e w' ⟨rfl, ⟨nd, rfl⟩⟩; (try first | exact ⟨rfl, _, World.drewN_drewN _ _ _⟩ | exact ⟨rfl, _, Eq.trans (World.drewN_drewN _ _ _) (congrArg (World.drewN _) (Nat.add_assoc _ _ _))⟩))); try go_wp2_with (first | (go_at_call 33; (with_reducible refine (r11_Texts.calls k2 _ _ ((rd_T38 l0_0 x5_2).f1) _ _ ((rd_T38 l1_0 x5_2).f1) false _ (Cs HR282_1) HC282_1.out (Cs HR283_1) HC283_1.out A33.out).mono ?_); rintro e w' ⟨rfl, ⟨nd, rfl⟩⟩; (try first | exact ⟨rfl, _, World.drewN_drewN _ _ _⟩ | exact ⟨rfl, _, Eq.trans (World.drewN_drewN _ _ _) (congrArg (World.drewN _) (Nat.add_assoc _ _ _))⟩))))
         go_ret;exact ⟨Re, Bw⟩
        rw [if_neg c32] at H;obtain ⟨c32b0, c32b1⟩ := neb c32;obtain rfl := si H;have hnb41 := NB275_276.out;have hnc41 := NB276_275.out;obtain ⟨Z42_0, Z42_1, Z42_2, Z42_3, Z42_4, Y42_0, Y42_1, Y42_2, Y42_3, Y42_4⟩ := cells5 BK275;have p280 : 0 ≤ (x5_2 : Int) := Od;have q280 : x5_2 < (l0_0.length : Int) := Od;obtain ⟨ad280, A280_1, c280_1, e280, hx280_0, hx280_1, HC280_1, HR280_1⟩ := at'_T38 HR0_0.out x5_2 p280 q280;cases e280;replace p280 := eq_true p280;replace q280 := eq_true q280;obtain ⟨Z43_0, Z43_1, Z43_2, Z43_3, Z43_4, Y43_0, Y43_1, Y43_2, Y43_3, Y43_4⟩ := cells5 BK276;have p281 : 0 ≤ (x5_2 : Int) := Od;have q281 : x5_2 < (l1_0.length : Int) := Od;obtain ⟨ad281, A281_1, c281_1, e281, hx281_0, hx281_1, HC281_1, HR281_1⟩ := at'_T38 HR1_0.out x5_2 p281 q281;cases e281;replace p281 := eq_true p281;replace q281 := eq_true q281;go_wp2
        repeat (go_quiet (fail); try go_wp2)
        go_ret;exact ⟨Re, Bw⟩
       rw [if_neg c31] at H;exact absurd H (by simp)
      rw [if_neg c30] at H;exact absurd H (by simp)
     rw [if_neg c29] at H;have c29b0 := decide_eq_false c29;clear c29;obtain rfl := si H;have hnb44 := NB275_276.out;have hnc44 := NB276_275.out;obtain ⟨Z45_0, Z45_1, Z45_2, Z45_3, Z45_4, Y45_0, Y45_1, Y45_2, Y45_3, Y45_4⟩ := cells5 BK275;go_wp2
     repeat (go_quiet (fail); try go_wp2)
     go_ret;exact ⟨Re, Bw⟩

mutual
noncomputable def l11_PolicyBack.j0 : Nat → ByteArray → Bool → List (S38) → List ByteArray → List ByteArray → List ByteArray → Int → Option (Bool)
  | 0, _, _, _, _, _, _, _ => none
  | k + 1, x1, x21, x229000, x229001, x229002, x229003, x229004 => if x21 = true then ((l11_alive.f k).bind fun t230 => (some t230)) else ((p_Print.f k x229000 x229001 x229002 x229003 x229004).bind fun bt231 => (if bt231.2 = 0 then (l11_PolicyBack.l0 k x1 bt231.1 0 x229000 x229001 x229002 x229003 x229004) else ((l11_alive.f k).bind fun t233 => (if t233 = true then (if bt231.1.toList = ([] : List UInt8) then ((p_Check.f k x229000 x229001 x229002 x229003 x229004).bind fun t234 => (some (t234 == bt231.2))) else (some false)) else (some false)))))
noncomputable def l11_PolicyBack.l0 : Nat → ByteArray → ByteArray → Int → List (S38) → List ByteArray → List ByteArray → List ByteArray → Int → Option (Bool)
  | 0, _, _, _, _, _, _, _, _ => none
  | k + 1, x1, x5, x7, x229000, x229001, x229002, x229003, x229004 => if x7 < (x1.size : Int) then (if 0 ≤ x7 then (if (bt x1 x7) = 10 then ((l11_alive.f k).bind fun t235 => (some t235)) else (l11_PolicyBack.l0 k x1 x5 (wrap64 (x7 + 1)) x229000 x229001 x229002 x229003 x229004)) else (none)) else (if (x5.size : Int) > (wrap64 ((wrap64 (2000 - (x1.size : Int))) - 4)) then ((l11_alive.f k).bind fun t236 => (some t236)) else ((p_Parse.f k x5).bind fun bt237 => (if 1 + x1.size ≤ 9223372036854775807 then (if ((⟨#[35]⟩ : ByteArray) ++ x1).size + 3 ≤ 9223372036854775807 then (if (((⟨#[35]⟩ : ByteArray) ++ x1) ++ (⟨#[10, 32, 10]⟩ : ByteArray)).size + x5.size ≤ 9223372036854775807 then ((p_Parse.f k ((((⟨#[35]⟩ : ByteArray) ++ x1) ++ (⟨#[10, 32, 10]⟩ : ByteArray)) ++ x5)).bind fun bt253 => ((l11_alive.f k).bind fun t269 => (if t269 = true then (if bt237.2.2.2.2.2.2 = 0 then (if bt253.2.2.2.2.2.2 = 0 then (if bt237.2.2.2.2.2.1 = 0 then (if bt253.2.2.2.2.2.1 = 0 then ((r11_Same.f k x229000 x229001 x229002 x229003 x229004 bt237.1 bt237.2.1 bt237.2.2.1 bt237.2.2.2.1 bt237.2.2.2.2.1).bind fun t270 => (if t270 = true then ((r11_Same.f k x229000 x229001 x229002 x229003 x229004 bt253.1 bt253.2.1 bt253.2.2.1 bt253.2.2.2.1 bt253.2.2.2.2.1).bind fun t271 => (some t271)) else (some false))) else (some false)) else (some false)) else (some false)) else (some false)) else (some false)))) else (none)) else (none)) else (none))))
end
noncomputable def l11_PolicyBack.f (k : Nat) (l0_0 : List (S38)) (l0_1 : List ByteArray) (l0_2 : List ByteArray) (l0_3 : List ByteArray) (a0_4 : Int) (a1 : ByteArray) : Option (Bool) := (r11_Small.f k l0_0 l0_1 l0_2 l0_3 a0_4).bind fun t229 => (if t229 = true then (l11_PolicyBack.j0 k a1 (decide ((a1.size : Int) > 60)) l0_0 l0_1 l0_2 l0_3 a0_4) else (l11_PolicyBack.j0 k a1 true l0_0 l0_1 l0_2 l0_3 a0_4))
theorem l11_PolicyBack.calls (k : Nat) (A0_0 : Option Addr) (c0_0 : Nat) (l0_0 : List (S38)) (A0_1 : Option Addr) (c0_1 : Nat) (l0_1 : List ByteArray) (A0_2 : Option Addr) (c0_2 : Nat) (l0_2 : List ByteArray) (A0_3 : Option Addr) (c0_3 : Nat) (l0_3 : List ByteArray) (a0_4 : Int) (a1 : ByteArray) (w : World) (hr0_0 : Kd.C k38 w A0_0 l0_0.length l0_0) (hc0_0 : l0_0.length ≤ c0_0) (hr0_1 : Kd.C Kd.string w A0_1 l0_1.length l0_1) (hc0_1 : l0_1.length ≤ c0_1) (hr0_2 : Kd.C Kd.string w A0_2 l0_2.length l0_2) (hc0_2 : l0_2.length ≤ c0_2) (hr0_3 : Kd.C Kd.string w A0_3 l0_3.length l0_3) (hc0_3 : l0_3.length ≤ c0_3) (m_ : Int) (hm_ : w.cell? ⟨0, 0, none⟩ = some (.int .i64 m_)) (h : l11_PolicyBack.f k l0_0 l0_1 l0_2 l0_3 a0_4 a1 = some true) :
  Calls Tryz.prog 4 #[.agg #[.slice A0_0 l0_0.length c0_0, .slice A0_1 l0_1.length c0_1, .slice A0_2 l0_2.length c0_2, .slice A0_3 l0_3.length c0_3, .int .i64 a0_4], .string a1] w fun e w' => e = .returned (.bool true) ∧ Below w.heap.size w w' := by
 have HM := Am hm_;clear hm_;have hu25 := Tryz.underlying25;obtain ⟨HR0_0, HC0_0, HR0_1, HC0_1⟩ := as4 hr0_0 hc0_0 hr0_1 hc0_1;clear hr0_0 hc0_0 hr0_1 hc0_1;obtain ⟨HR0_2, HC0_2, HR0_3, HC0_3⟩ := as4 hr0_2 hc0_2 hr0_3 hc0_3;clear hr0_2 hc0_2 hr0_3 hc0_3;have HB := Am (Below.refl w.heap.size w);have H : ((r11_Small.f k l0_0 l0_1 l0_2 l0_3 a0_4).bind fun t229 => (if t229 = true then (l11_PolicyBack.j0 k a1 (decide ((a1.size : Int) > 60)) l0_0 l0_1 l0_2 l0_3 a0_4) else (l11_PolicyBack.j0 k a1 true l0_0 l0_1 l0_2 l0_3 a0_4))) = some true := h;clear h;have HC3 := Am H;clear H;go_enter Tryz.func4, Tryz.ntmps4
 go_upto_region 1 with (first | ((with_reducible refine gate_dst (N := 2) rfl ?_); (try (refine gate_guard (by rfl) ?_; dsimp only)); refine box5 25 2 (cs := #[.slice A0_0 l0_0.length c0_0, .slice A0_1 l0_1.length c0_1, .slice A0_2 l0_2.length c0_2, .slice A0_3 l0_3.length c0_3, .int .i64 a0_4]) ?_; clear HB; intro gb228 w4 HB BK228 GE228))
 (try simp only [Act.put, List.setIfInBounds_toArray, List.set_cons_zero, List.set_cons_succ])
 go_cut [21] (fun v21 wc => ∃ (kq : Nat) (x21_2 : Bool), v21 = .bool x21_2 ∧ Aside0 (l11_PolicyBack.j0 kq a1 x21_2 l0_0 l0_1 l0_2 l0_3 a0_4 = some true) ∧ Aside0 (kq ≤ k) ∧ Aside0 (wc.heap[gb228]? = some (.cells #[(.slice A0_0 l0_0.length c0_0), (.slice A0_1 l0_1.length c0_1), (.slice A0_2 l0_2.length c0_2), (.slice A0_3 l0_3.length c0_3), .int .i64 a0_4] 25 (0, 0))) ∧ Aside0 (Below w.heap.size w wc))
 case first =>
  have H := HC3.out;clear HC3;obtain ⟨t229, A5, H⟩ := bx H;(try dsimp -simprocs only at H)
  by_cases c6 : t229 = true
  ·subst c6;rw [if_pos rfl] at H;have H' := Am H;clear H;obtain ⟨Z7_0, Z7_1, Z7_2, Z7_3, Z7_4, Y7_0, Y7_1, Y7_2, Y7_3, Y7_4⟩ := cells5 BK228;go_wp2_with (first | ((with_reducible refine gate_callee (f := 5) rfl ?_); refine goL (some 15) Tryz.func5 #[.agg #[.slice A0_0 l0_0.length c0_0, .slice A0_1 l0_1.length c0_1, .slice A0_2 l0_2.length c0_2, .slice A0_3 l0_3.length c0_3, .int .i64 a0_4]] ?_; (with_reducible refine (r11_Small.calls k _ _ l0_0 _ _ l0_1 _ _ l0_2 _ _ l0_3 a0_4 true _ (Cs HR0_0) HC0_0.out (Cs HR0_1) HC0_1.out (Cs HR0_2) HC0_2.out (Cs HR0_3) HC0_3.out A5.out).mono ?_); rintro e w8 ⟨rfl, hb⟩; refine ⟨_, rfl, ?_⟩; replace BK228 := Bb BK228 hb; replace HB := Bs hb; clear hb));go_meet
   case rel => exact ⟨_, (decide ((a1.size : Int) > 60)), Rs, H', ⟨On⟩, ⟨(Bk BK228)⟩, ⟨Bw⟩⟩
  replace c6 := bf c6;subst c6;rw [if_neg (show ¬ (false = true) by decide)] at H;have H' := Am H;clear H;obtain ⟨Z9_0, Z9_1, Z9_2, Z9_3, Z9_4, Y9_0, Y9_1, Y9_2, Y9_3, Y9_4⟩ := cells5 BK228;go_wp2_with (first | ((with_reducible refine gate_callee (f := 5) rfl ?_); refine goL (some 15) Tryz.func5 #[.agg #[.slice A0_0 l0_0.length c0_0, .slice A0_1 l0_1.length c0_1, .slice A0_2 l0_2.length c0_2, .slice A0_3 l0_3.length c0_3, .int .i64 a0_4]] ?_; (with_reducible refine (r11_Small.calls k _ _ l0_0 _ _ l0_1 _ _ l0_2 _ _ l0_3 a0_4 false _ (Cs HR0_0) HC0_0.out (Cs HR0_1) HC0_1.out (Cs HR0_2) HC0_2.out (Cs HR0_3) HC0_3.out A5.out).mono ?_); rintro e w10 ⟨rfl, hb⟩; refine ⟨_, rfl, ?_⟩; replace BK228 := Bb BK228 hb; replace HB := Bs hb; clear hb));go_meet
  case rel => exact ⟨_, (true), Rs, H', ⟨On⟩, ⟨(Bk BK228)⟩, ⟨Bw⟩⟩
 case rest =>
  clear HC3;(try clear p2);(try clear c4);(try clear c5);(try clear c6);(try clear Z7_0 Z7_1 Z7_2 Z7_3 Z7_4);(try clear Z9_0 Z9_1 Z9_2 Z9_3 Z9_4);(try clear Y7_0 Y7_1 Y7_2 Y7_3 Y7_4);(try clear Y9_0 Y9_1 Y9_2 Y9_3 Y9_4);obtain ⟨kq, x21_2, rfl, HA, HJ2, BK228, HB⟩ := hcut
  cases kq with
  | zero => exact absurd HA.out (by simp [l11_PolicyBack.j0])
  | succ kj2 =>
   have H := HA.out;clear HA;simp only [l11_PolicyBack.j0] at H
   by_cases c11 : x21_2 = true
   ·subst c11;rw [if_pos rfl] at H;obtain ⟨t230, A12, H⟩ := bx H;replace H : (some t230) = some true := H;have hq_ := si H;clear H;go_wp2_with (first | ((with_reducible refine gate_callee (f := 6) rfl ?_); refine goL (some 22) Tryz.func6 #[] ?_; (with_reducible refine (l11_alive.calls kj2  t230 _ m_ ?hmS A12.out).mono ?_); (case hmS => exact (pw_cell_below Bw HM.out)); rintro e w13 ⟨rfl, hb⟩; refine ⟨_, rfl, ?_⟩; replace BK228 := Bb BK228 hb; replace HB := Bs hb; clear hb));go_ret;exact ⟨Re, Bw⟩
   replace c11 := bf c11;subst c11;rw [if_neg (show ¬ (false = true) by decide)] at H;obtain ⟨⟨t231, t232⟩, A14, H⟩ := bx H;(try dsimp -simprocs only at H)
   by_cases c15 : t232 = 0
   ·rw [if_pos c15] at H;obtain ⟨c15b0, c15b1⟩ := eqb c15;clear c15;have H' := Am H;clear H;obtain ⟨Z16_0, Z16_1, Z16_2, Z16_3, Z16_4, Y16_0, Y16_1, Y16_2, Y16_3, Y16_4⟩ := cells5 BK228;go_wp2_with (first | ((with_reducible refine gate_callee (f := 7) rfl ?_); refine goL (some 25) Tryz.func7 #[.agg #[.slice A0_0 l0_0.length c0_0, .slice A0_1 l0_1.length c0_1, .slice A0_2 l0_2.length c0_2, .slice A0_3 l0_3.length c0_3, .int .i64 a0_4]] ?_; (with_reducible refine (p_Print.calls kj2 _ _ l0_0 _ _ l0_1 _ _ l0_2 _ _ l0_3 a0_4 t231 t232 _ (Cs HR0_0) HC0_0.out (Cs HR0_1) HC0_1.out (Cs HR0_2) HC0_2.out (Cs HR0_3) HC0_3.out A14.out).mono ?_); rintro e w17 ⟨rfl, hb⟩; refine ⟨_, rfl, ?_⟩; replace BK228 := Bb BK228 hb; replace HB := Bs hb; clear hb))
    go_loopg [7] kj2 (fun kq v7 w' => ∃ (x7_2 : Int), v7 = .int .i64 x7_2 ∧ Aside0 (l11_PolicyBack.l0 kq a1 t231 x7_2 l0_0 l0_1 l0_2 l0_3 a0_4 = some true) ∧ Aside0 (kq ≤ kj2) ∧ Aside0 (w'.heap[gb228]? = some (.cells #[(.slice A0_0 l0_0.length c0_0), (.slice A0_1 l0_1.length c0_1), (.slice A0_2 l0_2.length c0_2), (.slice A0_3 l0_3.length c0_3), .int .i64 a0_4] 25 (0, 0))) ∧ Aside0 (Below w.heap.size w w'))
    case atStart => exact ⟨(0), Rs, H', ⟨Nat.le_refl _⟩, ⟨(Bk BK228)⟩, ⟨Bw⟩⟩
    case round =>
     clear H';(try clear c1);(try clear p2);(try clear c4);(try clear c5);(try clear c6);(try clear c7);(try clear c11);(try clear c15);(try clear c15b0);(try clear c15b1);(try clear Z16_0 Z16_1 Z16_2 Z16_3 Z16_4);(try clear Z7_0 Z7_1 Z7_2 Z7_3 Z7_4);(try clear Z9_0 Z9_1 Z9_2 Z9_3 Z9_4);(try clear Y16_0 Y16_1 Y16_2 Y16_3 Y16_4);(try clear Y7_0 Y7_1 Y7_2 Y7_3 Y7_4);(try clear Y9_0 Y9_1 Y9_2 Y9_3 Y9_4);(try clear p2);obtain ⟨x7_2, rfl, HA, HK2, BK228, HB⟩ := hrel
     cases gk with
     | zero => exact absurd HA.out (by simp [l11_PolicyBack.l0])
     | succ k2 =>
      have H := HA.out;clear HA;simp only [l11_PolicyBack.l0] at H
      by_cases c18 : x7_2 < (a1.size : Int)
      ·rw [if_pos c18] at H;have c18b0 := decide_eq_true c18;clear c18
       by_cases c19 : 0 ≤ x7_2
       ·rw [if_pos c19] at H;have c19b0 := decide_eq_true c19;clear c19
        by_cases c21 : (bt a1 x7_2) = 10
        ·rw [if_pos c21] at H;obtain ⟨c21b0, c21b1⟩ := eqb c21;clear c21;obtain ⟨t235, A22, H⟩ := bx H;replace H : (some t235) = some true := H;have hq_ := si H;clear H;have p20 : 0 ≤ (x7_2 : Int) := Od;have q20 : x7_2 < (a1.size : Int) := Od;have hx20 := bt_at a1 x7_2;replace p20 := eq_true p20;replace q20 := eq_true q20;go_wp2_with (first | ((with_reducible refine gate_callee (f := 6) rfl ?_); refine goL (some 51) Tryz.func6 #[] ?_; (with_reducible refine (l11_alive.calls k2  t235 _ m_ ?hmS A22.out).mono ?_); (case hmS => exact (pw_cell_below Bw HM.out)); rintro e w23 ⟨rfl, hb⟩; refine ⟨_, rfl, ?_⟩; replace BK228 := Bb BK228 hb; replace HB := Bs hb; clear hb));go_ret;exact ⟨Re, Bw⟩
        rw [if_neg c21] at H;obtain ⟨c21b0, c21b1⟩ := neb c21;have H' := Am H;clear H;have p20 : 0 ≤ (x7_2 : Int) := Od;have q20 : x7_2 < (a1.size : Int) := Od;have hx20 := bt_at a1 x7_2;replace p20 := eq_true p20;replace q20 := eq_true q20;go_wp2;go_roundg k2
        case measure => have := HJ2.out; have := HK2.out; omega
        case rel => exact ⟨(wrap64 (x7_2 + 1)), Rs, H', ⟨by have := HJ2.out; have := HK2.out; omega⟩, ⟨(Bk BK228)⟩, ⟨Bw⟩⟩
       rw [if_neg c19] at H;exact absurd H (by simp)
      rw [if_neg c18] at H;have c18b0 := decide_eq_false c18;clear c18
      by_cases c24 : (t231.size : Int) > (wrap64 ((wrap64 (2000 - (a1.size : Int))) - 4))
      ·rw [if_pos c24] at H;have c24b0 := dgt c24;clear c24;obtain ⟨t236, A25, H⟩ := bx H;replace H : (some t236) = some true := H;have hq_ := si H;clear H;go_wp2_with (first | ((with_reducible refine gate_callee (f := 6) rfl ?_); refine goL (some 59) Tryz.func6 #[] ?_; (with_reducible refine (l11_alive.calls k2  t236 _ m_ ?hmS A25.out).mono ?_); (case hmS => exact (pw_cell_below Bw HM.out)); rintro e w26 ⟨rfl, hb⟩; refine ⟨_, rfl, ?_⟩; replace BK228 := Bb BK228 hb; replace HB := Bs hb; clear hb));go_ret;exact ⟨Re, Bw⟩
      rw [if_neg c24] at H;have c24b0 := ngt c24;clear c24;obtain ⟨⟨t237, t240, t243, t246, t249, t250, t251⟩, A27, H⟩ := bx H;(try dsimp -simprocs only at H)
      by_cases c28 : 1 + a1.size ≤ 9223372036854775807
      ·rw [if_pos c28] at H;have c28b0 := eq_true c28;have c28b1 : decide (1 + a1.size ≤ 9223372036854775807) = true := decide_eq_true c28;(try have c28b2 : (9223372036854775807 < 1 + a1.size) = False := eq_false (Nat.not_lt.2 c28))
       by_cases c29 : ((⟨#[35]⟩ : ByteArray) ++ a1).size + 3 ≤ 9223372036854775807
       ·rw [if_pos c29] at H;have c29b0 := eq_true c29;have c29b1 : decide (((⟨#[35]⟩ : ByteArray) ++ a1).size + 3 ≤ 9223372036854775807) = true := decide_eq_true c29;(try have c29b2 : (9223372036854775807 < ((⟨#[35]⟩ : ByteArray) ++ a1).size + 3) = False := eq_false (Nat.not_lt.2 c29))
        by_cases c30 : (((⟨#[35]⟩ : ByteArray) ++ a1) ++ (⟨#[10, 32, 10]⟩ : ByteArray)).size + t231.size ≤ 9223372036854775807
        ·rw [if_pos c30] at H;have c30b0 := eq_true c30;have c30b1 : decide ((((⟨#[35]⟩ : ByteArray) ++ a1) ++ (⟨#[10, 32, 10]⟩ : ByteArray)).size + t231.size ≤ 9223372036854775807) = true := decide_eq_true c30;(try have c30b2 : (9223372036854775807 < (((⟨#[35]⟩ : ByteArray) ++ a1) ++ (⟨#[10, 32, 10]⟩ : ByteArray)).size + t231.size) = False := eq_false (Nat.not_lt.2 c30));obtain ⟨⟨t253, t256, t259, t262, t265, t266, t267⟩, A31, H⟩ := bx H;(try dsimp -simprocs only at H);obtain ⟨t269, A32, H⟩ := bx H;(try dsimp -simprocs only at H)
         by_cases c33 : t269 = true
         ·subst c33;rw [if_pos rfl] at H
          by_cases c34 : t251 = 0
          ·rw [if_pos c34] at H;obtain ⟨c34b0, c34b1⟩ := eqb c34;clear c34
           by_cases c35 : t267 = 0
           ·rw [if_pos c35] at H;obtain ⟨c35b0, c35b1⟩ := eqb c35;clear c35
            by_cases c36 : t250 = 0
            ·rw [if_pos c36] at H;obtain ⟨c36b0, c36b1⟩ := eqb c36;clear c36
             by_cases c37 : t266 = 0
             ·rw [if_pos c37] at H;obtain ⟨c37b0, c37b1⟩ := eqb c37;clear c37;obtain ⟨t270, A38, H⟩ := bx H;(try dsimp -simprocs only at H)
              by_cases c39 : t270 = true
              ·subst c39;rw [if_pos rfl] at H;obtain ⟨t271, A40, H⟩ := bx H;replace H : (some t271) = some true := H;have hq_ := si H;clear H;have c24b2 : decide (2000 - (a1.size : Int) - 4 < (t231.size : Int)) = false := by rw [decide_eq_false_iff_not]; have h_ := of_decide_eq_false c24b0; unfold wrap64 at h_; omega
               have e1_ : (⟨#[35]⟩ : ByteArray).size = 1 := rfl;have e3_ : (⟨#[10, 32, 10]⟩ : ByteArray).size = 3 := rfl;have hq1_ : (9223372036854775807 < 1 + a1.size + 3) = False := eq_false (by have h_ := of_eq_true c29b0; rw [ByteArray.size_append] at h_; omega);have hq2_ : (9223372036854775807 < 1 + a1.size + 3 + t231.size) = False := eq_false (by have h_ := of_eq_true c30b0; rw [ByteArray.size_append, ByteArray.size_append] at h_; omega);clear e1_ e3_;go_wp2_with (first | ((with_reducible refine gate_callee (f := 10) rfl ?_); refine goL (some 62) Tryz.func10 #[.string t231] ?_; (with_reducible refine (p_Parse.calls k2 t231 t237 t240 t243 t246 t249 t250 t251 _ m_ ?hmS A27.out).mono ?_); (case hmS => exact (pw_cell_below Bw HM.out)); rintro e w41 ⟨v238, v241, v244, v247, rfl, ho0, ho1, ho2, ho3, hb⟩; refine ⟨_, rfl, ?_⟩; replace HO239 := Am (Kd.S_lower ho0 (below_size Bw)); replace HO242 := Am (Kd.R_lower ho1 (below_size Bw)); replace HO245 := Am (Kd.R_lower ho2 (below_size Bw)); replace HO248 := Am (Kd.R_lower ho3 (below_size Bw)); replace BK228 := Bb BK228 hb; replace HB := Bs hb; (try clear hb); (try clear hb2); (try clear hk); (try clear hi); (try clear ho0); (try clear ho1); (try clear ho2); (try clear ho3)) | ((with_reducible refine gate_dst (N := 8) rfl ?_); (try (refine gate_guard (by rfl) ?_; dsimp only)); refine boxE 25 8 (cs := #[.slice none 0 0, .slice none 0 0, .slice none 0 0, .slice none 0 0, .int .i64 0]) ?_; intro gb252 hg w42 hbox hb; have n0_ := Am (Kd.S_below (Sk HO239.out) hb); have n1_ := Am (Kd.R_below (Rk HO242.out) hb); have n2_ := Am (Kd.R_below (Rk HO245.out) hb); have n3_ := Am (Kd.R_below (Rk HO248.out) hb); have n4_ := Bb BK228 hb; have n5_ := Bs hb; have n6_ := Am (hbox); have n7_ := Am (Gg hg); have n8_ := Am (Gg hg); have n9_ := Nl hg BK228; have n10_ := Ng hg BK228; clear HO239; clear HO242; clear HO245; clear HO248; clear BK228; clear HB; have HO239 := n0_; have HO242 := n1_; have HO245 := n2_; have HO248 := n3_; have BK228 := n4_; have HB := n5_; have BK252 := n6_; have GW252 := n7_; have GE252 := n8_; have NB228_252 := n9_; have NB252_228 := n10_; clear n0_ n1_ n2_ n3_ n4_ n5_ n6_ n7_ n8_ n9_ n10_; clear hb hbox hg; obtain ⟨Ao43, co43, eo43⟩ := Kd.S_slice HO239.out; subst eo43; have hnb44 := NB252_228.out; have hnc44 := NB228_252.out; obtain ⟨Z45_0, Z45_1, Z45_2, Z45_3, Z45_4, Y45_0, Y45_1, Y45_2, Y45_3, Y45_4⟩ := cells5 BK252; obtain ⟨Ao46, co46, eo46⟩ := Kd.R_slice HO242.out; subst eo46; obtain ⟨Ao47, co47, eo47⟩ := Kd.R_slice HO245.out; subst eo47; obtain ⟨Ao48, co48, eo48⟩ := Kd.R_slice HO248.out; subst eo48) | ((with_reducible refine gate_callee (f := 10) rfl ?_); refine goL (some 72) Tryz.func10 #[.string ((((⟨#[35]⟩ : ByteArray) ++ a1) ++ (⟨#[10, 32, 10]⟩ : ByteArray)) ++ t231)] ?_; (with_reducible refine (p_Parse.calls k2 ((((⟨#[35]⟩ : ByteArray) ++ a1) ++ (⟨#[10, 32, 10]⟩ : ByteArray)) ++ t231) t253 t256 t259 t262 t265 t266 t267 _ m_ ?hmS A31.out).mono ?_); (case hmS => exact (pw_cell_below Bw HM.out)); rintro e w49 ⟨v254, v257, v260, v263, rfl, ho0, ho1, ho2, ho3, hb⟩; refine ⟨_, rfl, ?_⟩; have n0_ := Am (Kd.S_mono (Kd.S_told (Kd.S_told (Kd.S_told (Kd.S_told (Kd.S_old (Sk (Kd.S_mono (Kd.S_far (p := ⟨gb252, 4, none⟩) (Kd.S_far (p := ⟨gb252, 3, none⟩) (Kd.S_far (p := ⟨gb252, 2, none⟩) (Kd.S_far (p := ⟨gb252, 1, none⟩) (Kd.S_far (p := ⟨gb252, 0, none⟩) (Kd.S_types HO239.out BK252.out (by decide)) (fun _ hk => hk.2) (.slice Ao43 t237.length co43)) (fun _ hk => hk.2) (.slice Ao46 t240.length co46)) (fun _ hk => hk.2) (.slice Ao47 t243.length co47)) (fun _ hk => hk.2) (.slice Ao48 t246.length co48)) (fun _ hk => hk.2) (.int .i64 t249)) (fun _ h_ => h_.1))) hb) (Kd.S_base ho0)) (Kd.R_base ho1)) (Kd.R_base ho2)) (Kd.R_base ho3)) (fun _ h_ => h_.1)); have n1_ := Am (Kd.R_mono (Kd.R_told (Kd.R_told (Kd.R_told (Kd.R_old (Rk (Kd.R_mono (Kd.R_far (p := ⟨gb252, 4, none⟩) (Kd.R_far (p := ⟨gb252, 3, none⟩) (Kd.R_far (p := ⟨gb252, 2, none⟩) (Kd.R_far (p := ⟨gb252, 1, none⟩) (Kd.R_far (p := ⟨gb252, 0, none⟩) (Kd.R_types HO242.out BK252.out (by decide)) (fun _ hk => hk.2) (.slice Ao43 t237.length co43)) (fun _ hk => hk.2) (.slice Ao46 t240.length co46)) (fun _ hk => hk.2) (.slice Ao47 t243.length co47)) (fun _ hk => hk.2) (.slice Ao48 t246.length co48)) (fun _ hk => hk.2) (.int .i64 t249)) (fun _ h_ => h_.1))) hb) (Kd.R_base ho1)) (Kd.R_base ho2)) (Kd.R_base ho3)) (fun _ h_ => h_.1)); have n2_ := Am (Kd.R_mono (Kd.R_told (Kd.R_told (Kd.R_told (Kd.R_old (Rk (Kd.R_mono (Kd.R_far (p := ⟨gb252, 4, none⟩) (Kd.R_far (p := ⟨gb252, 3, none⟩) (Kd.R_far (p := ⟨gb252, 2, none⟩) (Kd.R_far (p := ⟨gb252, 1, none⟩) (Kd.R_far (p := ⟨gb252, 0, none⟩) (Kd.R_types HO245.out BK252.out (by decide)) (fun _ hk => hk.2) (.slice Ao43 t237.length co43)) (fun _ hk => hk.2) (.slice Ao46 t240.length co46)) (fun _ hk => hk.2) (.slice Ao47 t243.length co47)) (fun _ hk => hk.2) (.slice Ao48 t246.length co48)) (fun _ hk => hk.2) (.int .i64 t249)) (fun _ h_ => h_.1))) hb) (Kd.R_base ho1)) (Kd.R_base ho2)) (Kd.R_base ho3)) (fun _ h_ => h_.1)); have n3_ := Am (Kd.R_mono (Kd.R_told (Kd.R_told (Kd.R_told (Kd.R_old (Rk (Kd.R_mono (Kd.R_far (p := ⟨gb252, 4, none⟩) (Kd.R_far (p := ⟨gb252, 3, none⟩) (Kd.R_far (p := ⟨gb252, 2, none⟩) (Kd.R_far (p := ⟨gb252, 1, none⟩) (Kd.R_far (p := ⟨gb252, 0, none⟩) (Kd.R_types HO248.out BK252.out (by decide)) (fun _ hk => hk.2) (.slice Ao43 t237.length co43)) (fun _ hk => hk.2) (.slice Ao46 t240.length co46)) (fun _ hk => hk.2) (.slice Ao47 t243.length co47)) (fun _ hk => hk.2) (.slice Ao48 t246.length co48)) (fun _ hk => hk.2) (.int .i64 t249)) (fun _ h_ => h_.1))) hb) (Kd.R_base ho1)) (Kd.R_base ho2)) (Kd.R_base ho3)) (fun _ h_ => h_.1)); have n4_ := Am (Kd.S_lower (Kd.S_new' (Kd.S_new' (Kd.S_new' (Kd.S_new' ho0 (Kd.S_lt (Sk (Kd.S_mono (Kd.S_far (p := ⟨gb252, 4, none⟩) (Kd.S_far (p := ⟨gb252, 3, none⟩) (Kd.S_far (p := ⟨gb252, 2, none⟩) (Kd.S_far (p := ⟨gb252, 1, none⟩) (Kd.S_far (p := ⟨gb252, 0, none⟩) (Kd.S_types HO239.out BK252.out (by decide)) (fun _ hk => hk.2) (.slice Ao43 t237.length co43)) (fun _ hk => hk.2) (.slice Ao46 t240.length co46)) (fun _ hk => hk.2) (.slice Ao47 t243.length co47)) (fun _ hk => hk.2) (.slice Ao48 t246.length co48)) (fun _ hk => hk.2) (.int .i64 t249)) (fun _ h_ => h_.1))))) (Kd.R_lt (Rk (Kd.R_mono (Kd.R_far (p := ⟨gb252, 4, none⟩) (Kd.R_far (p := ⟨gb252, 3, none⟩) (Kd.R_far (p := ⟨gb252, 2, none⟩) (Kd.R_far (p := ⟨gb252, 1, none⟩) (Kd.R_far (p := ⟨gb252, 0, none⟩) (Kd.R_types HO242.out BK252.out (by decide)) (fun _ hk => hk.2) (.slice Ao43 t237.length co43)) (fun _ hk => hk.2) (.slice Ao46 t240.length co46)) (fun _ hk => hk.2) (.slice Ao47 t243.length co47)) (fun _ hk => hk.2) (.slice Ao48 t246.length co48)) (fun _ hk => hk.2) (.int .i64 t249)) (fun _ h_ => h_.1))))) (Kd.R_lt (Rk (Kd.R_mono (Kd.R_far (p := ⟨gb252, 4, none⟩) (Kd.R_far (p := ⟨gb252, 3, none⟩) (Kd.R_far (p := ⟨gb252, 2, none⟩) (Kd.R_far (p := ⟨gb252, 1, none⟩) (Kd.R_far (p := ⟨gb252, 0, none⟩) (Kd.R_types HO245.out BK252.out (by decide)) (fun _ hk => hk.2) (.slice Ao43 t237.length co43)) (fun _ hk => hk.2) (.slice Ao46 t240.length co46)) (fun _ hk => hk.2) (.slice Ao47 t243.length co47)) (fun _ hk => hk.2) (.slice Ao48 t246.length co48)) (fun _ hk => hk.2) (.int .i64 t249)) (fun _ h_ => h_.1))))) (Kd.R_lt (Rk (Kd.R_mono (Kd.R_far (p := ⟨gb252, 4, none⟩) (Kd.R_far (p := ⟨gb252, 3, none⟩) (Kd.R_far (p := ⟨gb252, 2, none⟩) (Kd.R_far (p := ⟨gb252, 1, none⟩) (Kd.R_far (p := ⟨gb252, 0, none⟩) (Kd.R_types HO248.out BK252.out (by decide)) (fun _ hk => hk.2) (.slice Ao43 t237.length co43)) (fun _ hk => hk.2) (.slice Ao46 t240.length co46)) (fun _ hk => hk.2) (.slice Ao47 t243.length co47)) (fun _ hk => hk.2) (.slice Ao48 t246.length co48)) (fun _ hk => hk.2) (.int .i64 t249)) (fun _ h_ => h_.1))))) (below_size Bw)); have n5_ := Am (Kd.R_lower (Kd.R_new' (Kd.R_new' (Kd.R_new' ho1 (Kd.R_lt (Rk (Kd.R_mono (Kd.R_far (p := ⟨gb252, 4, none⟩) (Kd.R_far (p := ⟨gb252, 3, none⟩) (Kd.R_far (p := ⟨gb252, 2, none⟩) (Kd.R_far (p := ⟨gb252, 1, none⟩) (Kd.R_far (p := ⟨gb252, 0, none⟩) (Kd.R_types HO242.out BK252.out (by decide)) (fun _ hk => hk.2) (.slice Ao43 t237.length co43)) (fun _ hk => hk.2) (.slice Ao46 t240.length co46)) (fun _ hk => hk.2) (.slice Ao47 t243.length co47)) (fun _ hk => hk.2) (.slice Ao48 t246.length co48)) (fun _ hk => hk.2) (.int .i64 t249)) (fun _ h_ => h_.1))))) (Kd.R_lt (Rk (Kd.R_mono (Kd.R_far (p := ⟨gb252, 4, none⟩) (Kd.R_far (p := ⟨gb252, 3, none⟩) (Kd.R_far (p := ⟨gb252, 2, none⟩) (Kd.R_far (p := ⟨gb252, 1, none⟩) (Kd.R_far (p := ⟨gb252, 0, none⟩) (Kd.R_types HO245.out BK252.out (by decide)) (fun _ hk => hk.2) (.slice Ao43 t237.length co43)) (fun _ hk => hk.2) (.slice Ao46 t240.length co46)) (fun _ hk => hk.2) (.slice Ao47 t243.length co47)) (fun _ hk => hk.2) (.slice Ao48 t246.length co48)) (fun _ hk => hk.2) (.int .i64 t249)) (fun _ h_ => h_.1))))) (Kd.R_lt (Rk (Kd.R_mono (Kd.R_far (p := ⟨gb252, 4, none⟩) (Kd.R_far (p := ⟨gb252, 3, none⟩) (Kd.R_far (p := ⟨gb252, 2, none⟩) (Kd.R_far (p := ⟨gb252, 1, none⟩) (Kd.R_far (p := ⟨gb252, 0, none⟩) (Kd.R_types HO248.out BK252.out (by decide)) (fun _ hk => hk.2) (.slice Ao43 t237.length co43)) (fun _ hk => hk.2) (.slice Ao46 t240.length co46)) (fun _ hk => hk.2) (.slice Ao47 t243.length co47)) (fun _ hk => hk.2) (.slice Ao48 t246.length co48)) (fun _ hk => hk.2) (.int .i64 t249)) (fun _ h_ => h_.1))))) (below_size Bw)); have n6_ := Am (Kd.R_lower (Kd.R_new' (Kd.R_new' (Kd.R_new' ho2 (Kd.R_lt (Rk (Kd.R_mono (Kd.R_far (p := ⟨gb252, 4, none⟩) (Kd.R_far (p := ⟨gb252, 3, none⟩) (Kd.R_far (p := ⟨gb252, 2, none⟩) (Kd.R_far (p := ⟨gb252, 1, none⟩) (Kd.R_far (p := ⟨gb252, 0, none⟩) (Kd.R_types HO242.out BK252.out (by decide)) (fun _ hk => hk.2) (.slice Ao43 t237.length co43)) (fun _ hk => hk.2) (.slice Ao46 t240.length co46)) (fun _ hk => hk.2) (.slice Ao47 t243.length co47)) (fun _ hk => hk.2) (.slice Ao48 t246.length co48)) (fun _ hk => hk.2) (.int .i64 t249)) (fun _ h_ => h_.1))))) (Kd.R_lt (Rk (Kd.R_mono (Kd.R_far (p := ⟨gb252, 4, none⟩) (Kd.R_far (p := ⟨gb252, 3, none⟩) (Kd.R_far (p := ⟨gb252, 2, none⟩) (Kd.R_far (p := ⟨gb252, 1, none⟩) (Kd.R_far (p := ⟨gb252, 0, none⟩) (Kd.R_types HO245.out BK252.out (by decide)) (fun _ hk => hk.2) (.slice Ao43 t237.length co43)) (fun _ hk => hk.2) (.slice Ao46 t240.length co46)) (fun _ hk => hk.2) (.slice Ao47 t243.length co47)) (fun _ hk => hk.2) (.slice Ao48 t246.length co48)) (fun _ hk => hk.2) (.int .i64 t249)) (fun _ h_ => h_.1))))) (Kd.R_lt (Rk (Kd.R_mono (Kd.R_far (p := ⟨gb252, 4, none⟩) (Kd.R_far (p := ⟨gb252, 3, none⟩) (Kd.R_far (p := ⟨gb252, 2, none⟩) (Kd.R_far (p := ⟨gb252, 1, none⟩) (Kd.R_far (p := ⟨gb252, 0, none⟩) (Kd.R_types HO248.out BK252.out (by decide)) (fun _ hk => hk.2) (.slice Ao43 t237.length co43)) (fun _ hk => hk.2) (.slice Ao46 t240.length co46)) (fun _ hk => hk.2) (.slice Ao47 t243.length co47)) (fun _ hk => hk.2) (.slice Ao48 t246.length co48)) (fun _ hk => hk.2) (.int .i64 t249)) (fun _ h_ => h_.1))))) (below_size Bw)); have n7_ := Am (Kd.R_lower (Kd.R_new' (Kd.R_new' (Kd.R_new' ho3 (Kd.R_lt (Rk (Kd.R_mono (Kd.R_far (p := ⟨gb252, 4, none⟩) (Kd.R_far (p := ⟨gb252, 3, none⟩) (Kd.R_far (p := ⟨gb252, 2, none⟩) (Kd.R_far (p := ⟨gb252, 1, none⟩) (Kd.R_far (p := ⟨gb252, 0, none⟩) (Kd.R_types HO242.out BK252.out (by decide)) (fun _ hk => hk.2) (.slice Ao43 t237.length co43)) (fun _ hk => hk.2) (.slice Ao46 t240.length co46)) (fun _ hk => hk.2) (.slice Ao47 t243.length co47)) (fun _ hk => hk.2) (.slice Ao48 t246.length co48)) (fun _ hk => hk.2) (.int .i64 t249)) (fun _ h_ => h_.1))))) (Kd.R_lt (Rk (Kd.R_mono (Kd.R_far (p := ⟨gb252, 4, none⟩) (Kd.R_far (p := ⟨gb252, 3, none⟩) (Kd.R_far (p := ⟨gb252, 2, none⟩) (Kd.R_far (p := ⟨gb252, 1, none⟩) (Kd.R_far (p := ⟨gb252, 0, none⟩) (Kd.R_types HO245.out BK252.out (by decide)) (fun _ hk => hk.2) (.slice Ao43 t237.length co43)) (fun _ hk => hk.2) (.slice Ao46 t240.length co46)) (fun _ hk => hk.2) (.slice Ao47 t243.length co47)) (fun _ hk => hk.2) (.slice Ao48 t246.length co48)) (fun _ hk => hk.2) (.int .i64 t249)) (fun _ h_ => h_.1))))) (Kd.R_lt (Rk (Kd.R_mono (Kd.R_far (p := ⟨gb252, 4, none⟩) (Kd.R_far (p := ⟨gb252, 3, none⟩) (Kd.R_far (p := ⟨gb252, 2, none⟩) (Kd.R_far (p := ⟨gb252, 1, none⟩) (Kd.R_far (p := ⟨gb252, 0, none⟩) (Kd.R_types HO248.out BK252.out (by decide)) (fun _ hk => hk.2) (.slice Ao43 t237.length co43)) (fun _ hk => hk.2) (.slice Ao46 t240.length co46)) (fun _ hk => hk.2) (.slice Ao47 t243.length co47)) (fun _ hk => hk.2) (.slice Ao48 t246.length co48)) (fun _ hk => hk.2) (.int .i64 t249)) (fun _ h_ => h_.1))))) (below_size Bw)); have n8_ := Am (blk_below (g := gb228) (o := .cells #[.slice A0_0 l0_0.length c0_0, .slice A0_1 l0_1.length c0_1, .slice A0_2 l0_2.length c0_2, .slice A0_3 l0_3.length c0_3, .int .i64 a0_4] 25 (0, 0)) (Bf BK228) hb); have n9_ := Am (blk_below (g := gb252) (o := .cells #[.slice Ao43 t237.length co43, .slice Ao46 t240.length co46, .slice Ao47 t243.length co47, .slice Ao48 t246.length co48, .int .i64 t249] 25 (0, 0)) (Bp BK252) hb); have n10_ := Bs hb; clear HO239; clear HO242; clear HO245; clear HO248; clear BK228; clear BK252; clear HB; have HO239 := n0_; have HO242 := n1_; have HO245 := n2_; have HO248 := n3_; have HO255 := n4_; have HO258 := n5_; have HO261 := n6_; have HO264 := n7_; have BK228 := n8_; have BK252 := n9_; have HB := n10_; clear n0_ n1_ n2_ n3_ n4_ n5_ n6_ n7_ n8_ n9_ n10_; (try clear hb); (try clear hb2); (try clear hk); (try clear hi); (try clear ho0); (try clear ho1); (try clear ho2); (try clear ho3)) | ((with_reducible refine gate_dst (N := 11) rfl ?_); (try (refine gate_guard (by rfl) ?_; dsimp only)); refine boxE 25 11 (cs := #[.slice none 0 0, .slice none 0 0, .slice none 0 0, .slice none 0 0, .int .i64 0]) ?_; intro gb268 hg w50 hbox hb; have n0_ := Am (Kd.S_below (Sk HO239.out) hb); have n1_ := Am (Kd.R_below (Rk HO242.out) hb); have n2_ := Am (Kd.R_below (Rk HO245.out) hb); have n3_ := Am (Kd.R_below (Rk HO248.out) hb); have n4_ := Am (Kd.S_below (Sk HO255.out) hb); have n5_ := Am (Kd.R_below (Rk HO258.out) hb); have n6_ := Am (Kd.R_below (Rk HO261.out) hb); have n7_ := Am (Kd.R_below (Rk HO264.out) hb); have n8_ := Bb BK228 hb; have n9_ := Bb BK252 hb; have n10_ := Bs hb; have n11_ := Am (hbox); have n12_ := Am (Gg hg); have n13_ := Am (Gg hg); have n14_ := Nl hg BK228; have n15_ := Ng hg BK228; have n16_ := Nl hg BK252; have n17_ := Ng hg BK252; clear HO239; clear HO242; clear HO245; clear HO248; clear HO255; clear HO258; clear HO261; clear HO264; clear BK228; clear BK252; clear HB; have HO239 := n0_; have HO242 := n1_; have HO245 := n2_; have HO248 := n3_; have HO255 := n4_; have HO258 := n5_; have HO261 := n6_; have HO264 := n7_; have BK228 := n8_; have BK252 := n9_; have HB := n10_; have BK268 := n11_; have GW268 := n12_; have GE268 := n13_; have NB228_268 := n14_; have NB268_228 := n15_; have NB252_268 := n16_; have NB268_252 := n17_; clear n0_ n1_ n2_ n3_ n4_ n5_ n6_ n7_ n8_ n9_ n10_ n11_ n12_ n13_ n14_ n15_ n16_ n17_; clear hb hbox hg; obtain ⟨Ao51, co51, eo51⟩ := Kd.S_slice HO255.out; subst eo51; have hnb52 := NB268_228.out; have hnc52 := NB228_268.out; have hnb53 := NB268_252.out; have hnc53 := NB252_268.out; obtain ⟨Z54_0, Z54_1, Z54_2, Z54_3, Z54_4, Y54_0, Y54_1, Y54_2, Y54_3, Y54_4⟩ := cells5 BK268; obtain ⟨Ao55, co55, eo55⟩ := Kd.R_slice HO258.out; subst eo55; obtain ⟨Ao56, co56, eo56⟩ := Kd.R_slice HO261.out; subst eo56; obtain ⟨Ao57, co57, eo57⟩ := Kd.R_slice HO264.out; subst eo57) | ((with_reducible refine gate_callee (f := 6) rfl ?_); refine goL (some 76) Tryz.func6 #[] ?_; (with_reducible refine (l11_alive.calls k2  true _ m_ ?hmS A32.out).mono ?_); (case hmS => exact (pw_cell_below Bw HM.out)); rintro e w58 ⟨rfl, hb⟩; refine ⟨_, rfl, ?_⟩; have n0_ := Am (Kd.S_below (Sk (Kd.S_mono (Kd.S_far (p := ⟨gb268, 4, none⟩) (Kd.S_far (p := ⟨gb268, 3, none⟩) (Kd.S_far (p := ⟨gb268, 2, none⟩) (Kd.S_far (p := ⟨gb268, 1, none⟩) (Kd.S_far (p := ⟨gb268, 0, none⟩) (Kd.S_types HO239.out BK268.out (by decide)) (fun _ hk => hk.2) (.slice Ao51 t253.length co51)) (fun _ hk => hk.2) (.slice Ao55 t256.length co55)) (fun _ hk => hk.2) (.slice Ao56 t259.length co56)) (fun _ hk => hk.2) (.slice Ao57 t262.length co57)) (fun _ hk => hk.2) (.int .i64 t265)) (fun _ h_ => h_.1))) hb); have n1_ := Am (Kd.R_below (Rk (Kd.R_mono (Kd.R_far (p := ⟨gb268, 4, none⟩) (Kd.R_far (p := ⟨gb268, 3, none⟩) (Kd.R_far (p := ⟨gb268, 2, none⟩) (Kd.R_far (p := ⟨gb268, 1, none⟩) (Kd.R_far (p := ⟨gb268, 0, none⟩) (Kd.R_types HO242.out BK268.out (by decide)) (fun _ hk => hk.2) (.slice Ao51 t253.length co51)) (fun _ hk => hk.2) (.slice Ao55 t256.length co55)) (fun _ hk => hk.2) (.slice Ao56 t259.length co56)) (fun _ hk => hk.2) (.slice Ao57 t262.length co57)) (fun _ hk => hk.2) (.int .i64 t265)) (fun _ h_ => h_.1))) hb); have n2_ := Am (Kd.R_below (Rk (Kd.R_mono (Kd.R_far (p := ⟨gb268, 4, none⟩) (Kd.R_far (p := ⟨gb268, 3, none⟩) (Kd.R_far (p := ⟨gb268, 2, none⟩) (Kd.R_far (p := ⟨gb268, 1, none⟩) (Kd.R_far (p := ⟨gb268, 0, none⟩) (Kd.R_types HO245.out BK268.out (by decide)) (fun _ hk => hk.2) (.slice Ao51 t253.length co51)) (fun _ hk => hk.2) (.slice Ao55 t256.length co55)) (fun _ hk => hk.2) (.slice Ao56 t259.length co56)) (fun _ hk => hk.2) (.slice Ao57 t262.length co57)) (fun _ hk => hk.2) (.int .i64 t265)) (fun _ h_ => h_.1))) hb); have n3_ := Am (Kd.R_below (Rk (Kd.R_mono (Kd.R_far (p := ⟨gb268, 4, none⟩) (Kd.R_far (p := ⟨gb268, 3, none⟩) (Kd.R_far (p := ⟨gb268, 2, none⟩) (Kd.R_far (p := ⟨gb268, 1, none⟩) (Kd.R_far (p := ⟨gb268, 0, none⟩) (Kd.R_types HO248.out BK268.out (by decide)) (fun _ hk => hk.2) (.slice Ao51 t253.length co51)) (fun _ hk => hk.2) (.slice Ao55 t256.length co55)) (fun _ hk => hk.2) (.slice Ao56 t259.length co56)) (fun _ hk => hk.2) (.slice Ao57 t262.length co57)) (fun _ hk => hk.2) (.int .i64 t265)) (fun _ h_ => h_.1))) hb); have n4_ := Am (Kd.S_below (Sk (Kd.S_mono (Kd.S_far (p := ⟨gb268, 4, none⟩) (Kd.S_far (p := ⟨gb268, 3, none⟩) (Kd.S_far (p := ⟨gb268, 2, none⟩) (Kd.S_far (p := ⟨gb268, 1, none⟩) (Kd.S_far (p := ⟨gb268, 0, none⟩) (Kd.S_types HO255.out BK268.out (by decide)) (fun _ hk => hk.2) (.slice Ao51 t253.length co51)) (fun _ hk => hk.2) (.slice Ao55 t256.length co55)) (fun _ hk => hk.2) (.slice Ao56 t259.length co56)) (fun _ hk => hk.2) (.slice Ao57 t262.length co57)) (fun _ hk => hk.2) (.int .i64 t265)) (fun _ h_ => h_.1))) hb); have n5_ := Am (Kd.R_below (Rk (Kd.R_mono (Kd.R_far (p := ⟨gb268, 4, none⟩) (Kd.R_far (p := ⟨gb268, 3, none⟩) (Kd.R_far (p := ⟨gb268, 2, none⟩) (Kd.R_far (p := ⟨gb268, 1, none⟩) (Kd.R_far (p := ⟨gb268, 0, none⟩) (Kd.R_types HO258.out BK268.out (by decide)) (fun _ hk => hk.2) (.slice Ao51 t253.length co51)) (fun _ hk => hk.2) (.slice Ao55 t256.length co55)) (fun _ hk => hk.2) (.slice Ao56 t259.length co56)) (fun _ hk => hk.2) (.slice Ao57 t262.length co57)) (fun _ hk => hk.2) (.int .i64 t265)) (fun _ h_ => h_.1))) hb); have n6_ := Am (Kd.R_below (Rk (Kd.R_mono (Kd.R_far (p := ⟨gb268, 4, none⟩) (Kd.R_far (p := ⟨gb268, 3, none⟩) (Kd.R_far (p := ⟨gb268, 2, none⟩) (Kd.R_far (p := ⟨gb268, 1, none⟩) (Kd.R_far (p := ⟨gb268, 0, none⟩) (Kd.R_types HO261.out BK268.out (by decide)) (fun _ hk => hk.2) (.slice Ao51 t253.length co51)) (fun _ hk => hk.2) (.slice Ao55 t256.length co55)) (fun _ hk => hk.2) (.slice Ao56 t259.length co56)) (fun _ hk => hk.2) (.slice Ao57 t262.length co57)) (fun _ hk => hk.2) (.int .i64 t265)) (fun _ h_ => h_.1))) hb); have n7_ := Am (Kd.R_below (Rk (Kd.R_mono (Kd.R_far (p := ⟨gb268, 4, none⟩) (Kd.R_far (p := ⟨gb268, 3, none⟩) (Kd.R_far (p := ⟨gb268, 2, none⟩) (Kd.R_far (p := ⟨gb268, 1, none⟩) (Kd.R_far (p := ⟨gb268, 0, none⟩) (Kd.R_types HO264.out BK268.out (by decide)) (fun _ hk => hk.2) (.slice Ao51 t253.length co51)) (fun _ hk => hk.2) (.slice Ao55 t256.length co55)) (fun _ hk => hk.2) (.slice Ao56 t259.length co56)) (fun _ hk => hk.2) (.slice Ao57 t262.length co57)) (fun _ hk => hk.2) (.int .i64 t265)) (fun _ h_ => h_.1))) hb); have n8_ := Am (blk_below (g := gb228) (o := .cells #[.slice A0_0 l0_0.length c0_0, .slice A0_1 l0_1.length c0_1, .slice A0_2 l0_2.length c0_2, .slice A0_3 l0_3.length c0_3, .int .i64 a0_4] 25 (0, 0)) (Bf BK228) hb); have n9_ := Am (blk_below (g := gb252) (o := .cells #[.slice Ao43 t237.length co43, .slice Ao46 t240.length co46, .slice Ao47 t243.length co47, .slice Ao48 t246.length co48, .int .i64 t249] 25 (0, 0)) (Bf BK252) hb); have n10_ := Am (blk_below (g := gb268) (o := .cells #[.slice Ao51 t253.length co51, .slice Ao55 t256.length co55, .slice Ao56 t259.length co56, .slice Ao57 t262.length co57, .int .i64 t265] 25 (0, 0)) (Bp BK268) hb); have n11_ := Bs hb; clear HO239; clear HO242; clear HO245; clear HO248; clear HO255; clear HO258; clear HO261; clear HO264; clear BK228; clear BK252; clear BK268; clear HB; have HO239 := n0_; have HO242 := n1_; have HO245 := n2_; have HO248 := n3_; have HO255 := n4_; have HO258 := n5_; have HO261 := n6_; have HO264 := n7_; have BK228 := n8_; have BK252 := n9_; have BK268 := n10_; have HB := n11_; clear n0_ n1_ n2_ n3_ n4_ n5_ n6_ n7_ n8_ n9_ n10_ n11_; (try clear hb); (try clear hb2); (try clear hk); (try clear hi); obtain ⟨Z59_0, Z59_1, Z59_2, Z59_3, Z59_4, Y59_0, Y59_1, Y59_2, Y59_3, Y59_4⟩ := cells5 BK228; obtain ⟨Z60_0, Z60_1, Z60_2, Z60_3, Z60_4, Y60_0, Y60_1, Y60_2, Y60_3, Y60_4⟩ := cells5 BK252) | (go_at_call 11; (with_reducible refine (r11_Same.calls k2 _ _ l0_0 _ _ l0_1 _ _ l0_2 _ _ l0_3 a0_4 _ _ t237 _ _ t240 _ _ t243 _ _ t246 t249 true _ (Cs HR0_0) HC0_0.out (Cs HR0_1) HC0_1.out (Cs HR0_2) HC0_2.out (Cs HR0_3) HC0_3.out ?side9 ?side10 ?side11 ?side12 ?side13 ?side14 ?side15 ?side16 A38.out).mono ?_); (case side9 => repeat (first | exact (Kd.S_reads' HO239.out).2.2 | (with_reducible refine Kd.C_alloc ?_ _) | (with_reducible refine Kd.C_drewN ?_ _) | (with_reducible refine Kd.C_drew ?_))); (case side10 => exact (Kd.S_reads' HO239.out).2.1); (case side11 => repeat (first | exact (Kd.R_reads' HO242.out).2.2 | (with_reducible refine Kd.C_alloc ?_ _) | (with_reducible refine Kd.C_drewN ?_ _) | (with_reducible refine Kd.C_drew ?_))); (case side12 => exact (Kd.R_reads' HO242.out).2.1); (case side13 => repeat (first | exact (Kd.R_reads' HO245.out).2.2 | (with_reducible refine Kd.C_alloc ?_ _) | (with_reducible refine Kd.C_drewN ?_ _) | (with_reducible refine Kd.C_drew ?_))); (case side14 => exact (Kd.R_reads' HO245.out).2.1); (case side15 => repeat (first | exact (Kd.R_reads' HO248.out).2.2 | (with_reducible refine Kd.C_alloc ?_ _) | (with_reducible refine Kd.C_drewN ?_ _) | (with_reducible refine Kd.C_drew ?_))); (case side16 => exact (Kd.R_reads' HO248.out).2.1); rintro e w61 ⟨rfl, hb⟩; have n0_ := Am (Kd.S_below (Sk HO239.out) hb); have n1_ := Am (Kd.R_below (Rk HO242.out) hb); have n2_ := Am (Kd.R_below (Rk HO245.out) hb); have n3_ := Am (Kd.R_below (Rk HO248.out) hb); have n4_ := Am (Kd.S_below (Sk HO255.out) hb); have n5_ := Am (Kd.R_below (Rk HO258.out) hb); have n6_ := Am (Kd.R_below (Rk HO261.out) hb); have n7_ := Am (Kd.R_below (Rk HO264.out) hb); have n8_ := Bb BK228 hb; have n9_ := Bb BK252 hb; have n10_ := Bb BK268 hb; have n11_ := Bs hb; clear HO239; clear HO242; clear HO245; clear HO248; clear HO255; clear HO258; clear HO261; clear HO264; clear BK228; clear BK252; clear BK268; clear HB; have HO239 := n0_; have HO242 := n1_; have HO245 := n2_; have HO248 := n3_; have HO255 := n4_; have HO258 := n5_; have HO261 := n6_; have HO264 := n7_; have BK228 := n8_; have BK252 := n9_; have BK268 := n10_; have HB := n11_; clear n0_ n1_ n2_ n3_ n4_ n5_ n6_ n7_ n8_ n9_ n10_ n11_; (try clear hb); (try clear hb2); (try clear hk); (try clear hi); obtain ⟨Z62_0, Z62_1, Z62_2, Z62_3, Z62_4, Y62_0, Y62_1, Y62_2, Y62_3, Y62_4⟩ := cells5 BK228; obtain ⟨Z63_0, Z63_1, Z63_2, Z63_3, Z63_4, Y63_0, Y63_1, Y63_2, Y63_3, Y63_4⟩ := cells5 BK268) | (go_at_call 11; (with_reducible refine (r11_Same.calls k2 _ _ l0_0 _ _ l0_1 _ _ l0_2 _ _ l0_3 a0_4 _ _ t253 _ _ t256 _ _ t259 _ _ t262 t265 t271 _ (Cs HR0_0) HC0_0.out (Cs HR0_1) HC0_1.out (Cs HR0_2) HC0_2.out (Cs HR0_3) HC0_3.out ?side9 ?side10 ?side11 ?side12 ?side13 ?side14 ?side15 ?side16 A40.out).mono ?_); (case side9 => repeat (first | exact (Kd.S_reads' HO255.out).2.2 | (with_reducible refine Kd.C_alloc ?_ _) | (with_reducible refine Kd.C_drewN ?_ _) | (with_reducible refine Kd.C_drew ?_))); (case side10 => exact (Kd.S_reads' HO255.out).2.1); (case side11 => repeat (first | exact (Kd.R_reads' HO258.out).2.2 | (with_reducible refine Kd.C_alloc ?_ _) | (with_reducible refine Kd.C_drewN ?_ _) | (with_reducible refine Kd.C_drew ?_))); (case side12 => exact (Kd.R_reads' HO258.out).2.1); (case side13 => repeat (first | exact (Kd.R_reads' HO261.out).2.2 | (with_reducible refine Kd.C_alloc ?_ _) | (with_reducible refine Kd.C_drewN ?_ _) | (with_reducible refine Kd.C_drew ?_))); (case side14 => exact (Kd.R_reads' HO261.out).2.1); (case side15 => repeat (first | exact (Kd.R_reads' HO264.out).2.2 | (with_reducible refine Kd.C_alloc ?_ _) | (with_reducible refine Kd.C_drewN ?_ _) | (with_reducible refine Kd.C_drew ?_))); (case side16 => exact (Kd.R_reads' HO264.out).2.1); rintro e w64 ⟨rfl, hb⟩; have n0_ := Am (Kd.S_below (Sk HO239.out) hb); have n1_ := Am (Kd.R_below (Rk HO242.out) hb); have n2_ := Am (Kd.R_below (Rk HO245.out) hb); have n3_ := Am (Kd.R_below (Rk HO248.out) hb); have n4_ := Am (Kd.S_below (Sk HO255.out) hb); have n5_ := Am (Kd.R_below (Rk HO258.out) hb); have n6_ := Am (Kd.R_below (Rk HO261.out) hb); have n7_ := Am (Kd.R_below (Rk HO264.out) hb); have n8_ := Bb BK228 hb; have n9_ := Bb BK252 hb; have n10_ := Bb BK268 hb; have n11_ := Bs hb; clear HO239; clear HO242; clear HO245; clear HO248; clear HO255; clear HO258; clear HO261; clear HO264; clear BK228; clear BK252; clear BK268; clear HB; have HO239 := n0_; have HO242 := n1_; have HO245 := n2_; have HO248 := n3_; have HO255 := n4_; have HO258 := n5_; have HO261 := n6_; have HO264 := n7_; have BK228 := n8_; have BK252 := n9_; have BK268 := n10_; have HB := n11_; clear n0_ n1_ n2_ n3_ n4_ n5_ n6_ n7_ n8_ n9_ n10_ n11_; (try clear hb); (try clear hb2); (try clear hk); (try clear hi)))
               go_ret;exact ⟨Re, Bw⟩
              replace c39 := bf c39;subst c39;rw [if_neg (show ¬ (false = true) by decide)] at H;exact absurd H (by simp)
             rw [if_neg c37] at H;obtain ⟨c37b0, c37b1⟩ := neb c37;exact absurd H (by simp)
            rw [if_neg c36] at H;obtain ⟨c36b0, c36b1⟩ := neb c36;exact absurd H (by simp)
           rw [if_neg c35] at H;obtain ⟨c35b0, c35b1⟩ := neb c35;exact absurd H (by simp)
          rw [if_neg c34] at H;obtain ⟨c34b0, c34b1⟩ := neb c34;exact absurd H (by simp)
         replace c33 := bf c33;subst c33;rw [if_neg (show ¬ (false = true) by decide)] at H;exact absurd H (by simp)
        rw [if_neg c30] at H;exact absurd H (by simp)
       rw [if_neg c29] at H;exact absurd H (by simp)
      rw [if_neg c28] at H;exact absurd H (by simp)
   rw [if_neg c15] at H;obtain ⟨c15b0, c15b1⟩ := neb c15;obtain ⟨t233, A176, H⟩ := bx H;(try dsimp -simprocs only at H)
   by_cases c177 : t233 = true
   ·subst c177;rw [if_pos rfl] at H
    by_cases c178 : t231.toList = ([] : List UInt8)
    ·rw [if_pos c178] at H;obtain ⟨c178b0, c178b1⟩ := eqb c178;clear c178;obtain ⟨t234, A179, H⟩ := bx H;replace H : (some (t234 == t232)) = some true := H;have hq_ := si H;clear H;obtain ⟨Z180_0, Z180_1, Z180_2, Z180_3, Z180_4, Y180_0, Y180_1, Y180_2, Y180_3, Y180_4⟩ := cells5 BK228;go_wp2_with (first | ((with_reducible refine gate_callee (f := 7) rfl ?_); refine goL (some 25) Tryz.func7 #[.agg #[.slice A0_0 l0_0.length c0_0, .slice A0_1 l0_1.length c0_1, .slice A0_2 l0_2.length c0_2, .slice A0_3 l0_3.length c0_3, .int .i64 a0_4]] ?_; (with_reducible refine (p_Print.calls kj2 _ _ l0_0 _ _ l0_1 _ _ l0_2 _ _ l0_3 a0_4 t231 t232 _ (Cs HR0_0) HC0_0.out (Cs HR0_1) HC0_1.out (Cs HR0_2) HC0_2.out (Cs HR0_3) HC0_3.out A14.out).mono ?_); rintro e w181 ⟨rfl, hb⟩; refine ⟨_, rfl, ?_⟩; replace BK228 := Bb BK228 hb; replace HB := Bs hb; clear hb) | ((with_reducible refine gate_callee (f := 6) rfl ?_); refine goL (some 30) Tryz.func6 #[] ?_; (with_reducible refine (l11_alive.calls kj2  true _ m_ ?hmS A176.out).mono ?_); (case hmS => exact (pw_cell_below Bw HM.out)); rintro e w182 ⟨rfl, hb⟩; refine ⟨_, rfl, ?_⟩; replace BK228 := Bb BK228 hb; replace HB := Bs hb; clear hb; obtain ⟨Z183_0, Z183_1, Z183_2, Z183_3, Z183_4, Y183_0, Y183_1, Y183_2, Y183_3, Y183_4⟩ := cells5 BK228) | (go_at_call 9; (with_reducible refine (p_Check.calls kj2 _ _ l0_0 _ _ l0_1 _ _ l0_2 _ _ l0_3 a0_4 t234 _ (Cs HR0_0) HC0_0.out (Cs HR0_1) HC0_1.out (Cs HR0_2) HC0_2.out (Cs HR0_3) HC0_3.out A179.out).mono ?_); rintro e w184 ⟨rfl, hb⟩; replace BK228 := Bb BK228 hb; replace HB := Bs hb; clear hb));go_ret;exact ⟨Re, Bw⟩
    rw [if_neg c178] at H;obtain ⟨c178b0, c178b1⟩ := neb c178;exact absurd H (by simp)
   replace c177 := bf c177;subst c177;rw [if_neg (show ¬ (false = true) by decide)] at H;exact absurd H (by simp)

end Go.Proofs.YtnbghhddmlohoaaGreatDoor.PAll

end

section
namespace Go.Proofs.YtnbghhddmlohoaaGreatDoor.RowOpen
open Go.RowKit Go.Proofs.YtnbghhddmlohoaaGreatDoorW.PrintWords

section
variable {P : Program}
def Opens (P : Program) {α : Type} (t : TypeId) (d : Kd α) (g : α → Prop) : Prop :=
  ∀ (H : Type) (enc : TypeId × Value → H) (fuel : Nat) (w : World) (cs : List Value) (x : DataW H × List MemPlace), DataW.trod enc P w 0 (fun _ => true) true fuel t cs = some x → ∃ a, d.K w a cs ∧ g a
theorem Opens.imp {α : Type} {t : TypeId} {d : Kd α} {g g' : α → Prop} (h : Opens P t d g) (hg : ∀ a, g a → g' a) : Opens P t d g' := fun H enc fuel w cs x hx => by
  obtain ⟨a, hK, ha⟩ := h H enc fuel w cs x hx
  exact ⟨a, hK, hg a ha⟩
theorem opens_int {t : TypeId} {k : IntKind} (hu : P.underlying t = some (.int k)) : Opens P t (Kd.int k) (fun n => (Lit.int k n).wf = true) := fun H enc fuel w cs x hx => by
  cases fuel with
  | zero => simp [DataW.trod] at hx
  | succ m =>
    unfold DataW.trod at hx
    rw [hu] at hx
    split at hx <;> simp_all
    obtain ⟨⟨rfl, hw⟩, _⟩ := hx
    exact ⟨_, rfl, hw⟩
theorem opens_string {t : TypeId} (hu : P.underlying t = some .string) : Opens P t Kd.string (fun s => s.size ≤ maxLen) := fun H enc fuel w cs x hx => by
  cases fuel with
  | zero => simp [DataW.trod] at hx
  | succ m =>
    unfold DataW.trod at hx
    rw [hu] at hx
    split at hx <;> simp_all
    exact ⟨_, rfl, hx.1⟩
theorem cells_get {w : World} {a : Addr} {n : Nat} {cs : List Value} (h : w.cells? 0 a n = some cs) : cs.length = n ∧ ∀ j u, cs[j]? = some u → w.cell? (a.add j) = some u := by
 unfold World.cells? at h;rw [if_pos (Nat.zero_le _)] at h;have hl := mapM_some_length h;rw [List.length_range] at hl;refine ⟨hl, fun j u hj => ?_⟩;have hlt : j < cs.length := (List.getElem?_eq_some_iff.1 hj).1;have := mapM_some_get h j j (by rw [List.getElem?_range (by omega)]);rw [this, hj]
theorem list_of {α : Type} {p : Nat → α → Prop} : ∀ n : Nat, (∀ i, i < n → ∃ a, p i a) → ∃ xs : List α, xs.length = n ∧ ∀ i a, xs[i]? = some a → p i a
 | 0, _ => ⟨[], rfl, fun i a h => by simp at h⟩
 | n + 1, h => by
  obtain ⟨xs, hl, hx⟩ := list_of n (fun i hi => h i (by omega))
  obtain ⟨a, ha⟩ := h n (by omega)
  refine ⟨xs ++ [a], by simp [hl], fun i b hb => ?_⟩
  rcases Nat.lt_trichotomy i n with hi | hi | hi
  ·rw [List.getElem?_append_left (by omega)] at hb
   exact hx i b hb
  ·subst hi
   rw [List.getElem?_append_right (by omega), hl, Nat.sub_self] at hb
   simp at hb
   subst hb
   exact ha
  rw [List.getElem?_eq_none (by simp; omega)] at hb
  cases hb
theorem opens_slice {α : Type} {t e : TypeId} {d : Kd α} {g : α → Prop} (hu : P.underlying t = some (.slice e)) (hsz : P.cellsOf e = d.sz) (h : Opens P e d g) :
  Opens P t (Kd.slice e d) (fun xs => xs.length ≤ maxLen ∧ ∀ x ∈ xs, g x) := fun H enc fuel w cs x hx => by
 rcases Go.Deep.open_slice hu hx with ⟨rfl, _⟩ | ⟨a, len, cap, m, n, D, Pl, rfl, _, hl, hm, hmm, _, hel⟩
 ·exact ⟨[], ⟨none, 0, rfl, Nat.le_refl _, rfl, by simp, fun h => absurd h (by simp)⟩, by simp, by simp⟩
 rw [if_pos rfl] at hmm
 subst hmm
 obtain ⟨xs, hxl, hxs⟩ := list_of (p := fun i y => ∃ c, w.cells? 0 (a.add (i * d.sz)) d.sz = some c ∧ d.K w y c ∧ g y) len (fun i hi => by
  obtain ⟨c, hc, ht⟩ := hel i (by omega)
  rw [hsz] at hc
  obtain ⟨y, hK, hg⟩ := h H enc n w c _ ht
  exact ⟨y, c, hc, hK, hg⟩)
 subst hxl
 refine ⟨xs, ⟨some a, m, rfl, hl, rfl, ?_, fun _ => ⟨a, rfl, fun j p hp => ?_⟩⟩, by omega, fun y hy => ?_⟩
 ·unfold maxLen at hm; omega
 ·obtain ⟨c, hc, hK, _⟩ := hxs j p hp
  obtain ⟨hcl, hcg⟩ := cells_get hc
  exact ⟨c, hcl, hK, fun i u hu' => by rw [← Addr.add_add]; exact hcg i u hu'⟩
 obtain ⟨j, hj⟩ := List.getElem?_of_mem hy
 obtain ⟨c, _, _, hg⟩ := hxs j y hj
 exact hg
def OpensF (P : Program) {α : Type} (fs : List Field) (d : Kd α) (g : α → Prop) (off : Nat) : Prop :=
  ∀ (H : Type) (enc : TypeId × Value → H) (fuel : Nat) (w : World) (cs : List Value) (xs : List (DataW H × List MemPlace)), cs.length = off + d.sz →
    (∀ (i : Nat) (f : Field), fs[i]? = some f → DataW.trod enc P w 0 (fun _ => true) true fuel f.type ((cs.drop f.offset).take (P.cellsOf f.type)) = xs[i]?) → xs.length = fs.length → ∃ a, d.K w a (cs.drop off) ∧ g a
theorem opensF_one {α : Type} {f : Field} {d : Kd α} {g : α → Prop} {off : Nat} (ho : f.offset = off) (hsz : P.cellsOf f.type = d.sz) (h : Opens P f.type d g) : OpensF P [f] d g off := fun H enc fuel w cs xs hl hx hn => by
  have h0 := hx 0 f rfl
  match xs, hn with
  | [x], _ =>
    rw [ho, hsz, List.take_of_length_le (by rw [List.length_drop]; omega)] at h0
    exact h H enc fuel w _ x h0
theorem opensF_cons {α β : Type} {f : Field} {fs : List Field} {d : Kd α} {d' : Kd β} {g : α → Prop} {g' : β → Prop} {off : Nat} (ho : f.offset = off) (hsz : P.cellsOf f.type = d.sz) (h : Opens P f.type d g) (hf : OpensF P fs d' g' (off + d.sz)) :
  OpensF P (f :: fs) (Kd.pair d d') (fun x => g x.1 ∧ g' x.2) off := fun H enc fuel w cs xs hl hx hn => by
 match xs, hn with
 | x :: xs, hn =>
  have h0 := hx 0 f rfl
  rw [ho, hsz] at h0
  obtain ⟨a, hK, hg⟩ := h H enc fuel w _ x h0
  have hl' : cs.length = off + (d.sz + d'.sz) := hl
  obtain ⟨b, hK', hg'⟩ := hf H enc fuel w cs xs (by omega) (fun i q hq => hx (i + 1) q hq) (by simpa using hn)
  refine ⟨(a, b), ⟨(cs.drop off).take d.sz, cs.drop (off + d.sz), ?_, hK, hK'⟩, hg, hg'⟩
  rw [← List.drop_drop, List.take_append_drop]
theorem opens_struct {α : Type} {t : TypeId} {fs : Array Field} {d : Kd α} {g : α → Prop} (hu : P.underlying t = some (.struct fs)) (hsz : P.cellsOf t = d.sz) (hf : OpensF P fs.toList d g 0) : Opens P t d g := fun H enc fuel w cs x hx => by
 obtain ⟨xs, m, rfl, _, hl, hlen, hel⟩ := DataW.trod_struct hu hx
 obtain ⟨a, hK, hg⟩ := hf H enc m w cs xs (by omega) (fun i f hi => hel i f (by rw [← Array.getElem?_toList]; exact hi)) (by simpa using hlen)
 exact ⟨a, hK, hg⟩
theorem opens_iso {α β : Type} {t : TypeId} {d : Kd α} {g : α → Prop} {f : β → α} (inv : α → β) (hi : ∀ x, f (inv x) = x) (h : Opens P t d g) : Opens P t (Kd.iso d f) (fun y => g (f y)) := fun H enc fuel w cs x hx => by
  obtain ⟨a, hK, hg⟩ := h H enc fuel w cs x hx
  refine ⟨inv a, ?_, by show g (f (inv a)); rw [hi]; exact hg⟩
  show d.K w (f (inv a)) cs
  rw [hi]
  exact hK
end
end Go.Proofs.YtnbghhddmlohoaaGreatDoor.RowOpen

end

section
namespace Go.Proofs.YtnbghhddmlohoaaGreatDoor.policyBackOp
open Go.RowKit Go.Proofs.YtnbghhddmlohoaaGreatDoor.PAll Go.Proofs.YtnbghhddmlohoaaGreatDoorW.PrintWords Go.Proofs.YtnbghhddmlohoaaGreatDoor.RowOpen
def G38 (y : S38) : Prop := y.f0.size ≤ maxLen ∧ (y.f1.length ≤ maxLen ∧ ∀ y4 ∈ y.f1, y4.size ≤ maxLen)
theorem o38 : Opens Tryz.prog 38 k38 G38 := Opens.imp (opens_iso (f := fun x : S38 => (x.f0, x.f1)) (fun x => (⟨x.1, x.2⟩ : S38)) (fun _ => rfl) (opens_struct Tryz.underlying38 (by kernel_rfl) (opensF_cons rfl (by kernel_rfl) (opens_string Tryz.underlying9) (opensF_one rfl (by kernel_rfl) (opens_slice Tryz.underlying23 (by kernel_rfl) (opens_string Tryz.underlying9)))))) (fun y h => h)
def G25 (y : S25) : Prop := (y.f0.length ≤ maxLen ∧ ∀ y4 ∈ y.f0, G38 y4) ∧ (y.f1.length ≤ maxLen ∧ ∀ y4 ∈ y.f1, y4.size ≤ maxLen) ∧ (y.f2.length ≤ maxLen ∧ ∀ y4 ∈ y.f2, y4.size ≤ maxLen) ∧ (y.f3.length ≤ maxLen ∧ ∀ y4 ∈ y.f3, y4.size ≤ maxLen) ∧ (Lit.int .i64 y.f4).wf = true
theorem o25 : Opens Tryz.prog 25 k25 G25 := Opens.imp (opens_iso (f := fun x : S25 => (x.f0, x.f1, x.f2, x.f3, x.f4)) (fun x => (⟨x.1, x.2.1, x.2.2.1, x.2.2.2.1, x.2.2.2.2⟩ : S25)) (fun _ => rfl) (opens_struct Tryz.underlying25 (by kernel_rfl) (opensF_cons rfl (by kernel_rfl) (opens_slice Tryz.underlying22 (by kernel_rfl) o38) (opensF_cons rfl (by kernel_rfl) (opens_slice Tryz.underlying23 (by kernel_rfl) (opens_string Tryz.underlying9)) (opensF_cons rfl (by kernel_rfl) (opens_slice Tryz.underlying23 (by kernel_rfl) (opens_string Tryz.underlying9)) (opensF_cons rfl (by kernel_rfl) (opens_slice Tryz.underlying23 (by kernel_rfl) (opens_string Tryz.underlying9)) (opensF_one rfl (by kernel_rfl) (opens_int Tryz.underlying3)))))))) (fun y h => h)
def Plain : Prop := ∀ (x0 : S25) (a1 : ByteArray), G25 x0 → a1.size ≤ maxLen → ∃ k, l11_PolicyBack.f k x0.f0 x0.f1 x0.f2 x0.f3 x0.f4 a1 = some true
end Go.Proofs.YtnbghhddmlohoaaGreatDoor.policyBackOp

end

section
namespace Go.Proofs.YtnbghhddmlohoaaGreatDoor.Pure
open Go.RowKit Go.Proofs.YtnbghhddmlohoaaGreatDoor.PAll Go.Proofs.YtnbghhddmlohoaaGreatDoorW.PrintWords Go.Proofs.YtnbghhddmlohoaaGreatDoorW.PrintLast

theorem wrap_next {i : Nat} (h : i < 9223372036854775807) : wrap64 ((i : Int) + 1) = ((i + 1 : Nat) : Int) := by
  unfold wrap64
  omega
theorem bytes_data (s : ByteArray) : s.toList = s.data.toList := ByteArray.toList_eq s
theorem data_len (s : ByteArray) : s.data.toList.length = s.size := by simp
theorem bt_get (s : ByteArray) (i : Nat) (c : UInt8) (h : s.data.toList[i]? = some c) : bt s (i : Int) = (c.toNat : Int) := by
  obtain ⟨h1, h2⟩ := List.getElem?_eq_some_iff.1 h
  have h3 : i < s.size := by simpa using h1
  unfold bt
  rw [dif_pos (by omega), ← h2]
  rfl
theorem ba_ext {a b : ByteArray} (h : a.data.toList = b.data.toList) : a = b := by
  obtain ⟨⟨a⟩⟩ := a
  obtain ⟨⟨b⟩⟩ := b
  simp at h
  rw [h]
theorem drop_get (s : ByteArray) (i : Nat) (h : i < s.size) : ∃ c, s.data.toList[i]? = some c ∧ s.data.toList.drop i = c :: s.data.toList.drop (i + 1) := by
  have h' : i < s.data.toList.length := by rw [data_len]; exact h
  exact ⟨s.data.toList[i], List.getElem?_eq_getElem h', List.drop_eq_getElem_cons h'⟩
theorem rd_at (l : List ByteArray) (i : Nat) (h : i < l.length) : rdOf ByteArray.empty l (i : Int) = l[i] := by
  simp [rdOf, List.getD_eq_getElem?_getD, h]
theorem index_l0 (l : List ByteArray) (x : ByteArray) (hl : l.length ≤ 1000000) : ∀ (d i : Nat), i + d = l.length →
  ∃ n : Int, Ev (fun k => slI_.l0 k l x (l.length : Int) (i : Int)) n ∧ decide (n ≥ 0) = (l.drop i).any (fun y => y.data.toList == x.data.toList) := by
 intro d
 induction d with
 | zero =>
  intro i hi;refine ⟨-1, Ev.step (f := fun _ => some (-1)) (fun k => ?_) (Ev.now _), ?_⟩
  ·simp only [slI_.l0];rw [if_neg (by omega)]
  rw [List.drop_of_length_le (by omega)]; rfl
 | succ d ih =>
  intro i hi;have hlt : i < l.length := by omega
  rw [List.drop_eq_getElem_cons hlt, List.any_cons]
  by_cases h : l[i].data.toList = x.data.toList
  ·refine ⟨(i : Int), Ev.step (f := fun _ => some (i : Int)) (fun k => ?_) (Ev.now _), ?_⟩
   ·simp only [slI_.l0];rw [if_pos (by omega), if_pos (by omega), if_pos (by omega), rd_at l i hlt, bytes_data, bytes_data, if_pos h.symm]
   rw [h, beq_self_eq_true, Bool.true_or, decide_eq_true (by omega)]
  obtain ⟨n, h1, h2⟩ := ih (i + 1) (by omega);refine ⟨n, Ev.step (f := fun k => slI_.l0 k l x (l.length : Int) ((i + 1 : Nat) : Int)) (fun k => ?_) h1, ?_⟩
  ·simp only [slI_.l0];rw [if_pos (by omega), if_pos (by omega), if_pos (by omega), rd_at l i hlt, bytes_data, bytes_data, if_neg (fun e => h e.symm), wrap_next (by omega)]
  have e : (l[i].data.toList == x.data.toList) = false := beq_eq_false_iff_ne.mpr h;rw [h2, e, Bool.false_or]
theorem contains_ev (l : List ByteArray) (x : ByteArray) (hl : l.length ≤ 1000000) : Ev (fun k => slC_.f k l x) (l.any fun y => y.data.toList == x.data.toList) := by
 obtain ⟨n, h1, h2⟩ := index_l0 l x hl l.length 0 (by omega);rw [List.drop_zero] at h2;rw [← h2];unfold slC_.f;exact Ev.bind (f := fun _ t => some (decide (t ≥ 0))) h1 (Ev.now _)
end Go.Proofs.YtnbghhddmlohoaaGreatDoor.Pure

end

section
namespace Go.Proofs.YtnbghhddmlohoaaGreatDoor.Pure
open Go.RowKit Go.Proofs.YtnbghhddmlohoaaGreatDoor.PAll Go.Proofs.YtnbghhddmlohoaaGreatDoorW.PrintWords Go.Proofs.YtnbghhddmlohoaaGreatDoorW.PrintLast
set_option linter.unusedSimpArgs false
set_option linter.unusedVariables false

def cutL (c : UInt8) : List UInt8 → List (List UInt8)
  | [] => [[]]
  | b :: l => if b = c then [] :: cutL c l else match cutL c l with
    | [] => [[b]]
    | x :: xs => (b :: x) :: xs
theorem cutL_ne (c : UInt8) (l : List UInt8) : ∃ x xs, cutL c l = x :: xs := by
  cases l with
  | nil => exact ⟨_, _, rfl⟩
  | cons b l =>
    unfold cutL
    split
    · exact ⟨_, _, rfl⟩
    · split
      · exact ⟨_, _, rfl⟩
      · exact ⟨_, _, rfl⟩
theorem index_cons (b c : UInt8) (l : List UInt8) (h : b ≠ c) : Lib.index (b :: l) [c] = if Lib.index l [c] == -1 then -1 else Lib.index l [c] + 1 := by
  have hp : ([c] : List UInt8).isPrefixOf (b :: l) = false := by simp [List.isPrefixOf, Ne.symm h]
  rw [Lib.index, hp]; simp
theorem splitK_cons (b c : UInt8) (l : List UInt8) (h : b ≠ c) : ∀ k x xs, Lib.splitK [c] 0 k l = x :: xs → Lib.splitK [c] 0 k (b :: l) = (b :: x) :: xs := by
 intro k x xs hk
 cases k with
 | zero =>
  simp only [Lib.splitK] at hk ⊢;simp only [List.cons.injEq] at hk;obtain ⟨rfl, rfl⟩ := hk;rfl
 | succ k =>
  unfold Lib.splitK at hk ⊢;rw [index_cons b c l h]
  by_cases hm : Lib.index l [c] = -1
  ·rw [hm] at hk ⊢
   simp at hk ⊢
   exact ⟨hk.1, hk.2⟩
  have hge := Lib.index_ge l [c];obtain ⟨j, hj⟩ : ∃ j : Nat, Lib.index l [c] = j := ⟨(Lib.index l [c]).toNat, by omega⟩;rw [if_neg (fun e => hm (beq_iff_eq.1 e))] at hk;rw [if_neg (fun e => hm (beq_iff_eq.1 e)), if_neg (by rw [hj]; intro e; have := beq_iff_eq.1 e; omega)];rw [hj] at hk ⊢;have e1 : (((j : Int) + 1).toNat + 0) = (((j : Int).toNat + 0) + 1) := by omega
  have e2 : (((j : Int) + 1).toNat + ([c] : List UInt8).length) = (((j : Int).toNat + ([c] : List UInt8).length) + 1) := by simp <;> omega
  rw [e1, e2, List.take_succ_cons, List.drop_succ_cons];simp only [List.cons.injEq] at hk ⊢;exact ⟨⟨trivial, hk.1⟩, hk.2⟩
theorem splitK_cut (c : UInt8) : ∀ l : List UInt8, Lib.splitK [c] 0 (Lib.count l [c]) l = cutL c l
 | [] => by
  rw [Lib.count_one]
  rfl
 | b :: l => by
  by_cases h : b = c
  ·subst h
   rw [Lib.count_cons_eq, Nat.add_comm]
   unfold cutL
   rw [if_pos rfl, ← splitK_cut b l]
   have hix : Lib.index (b :: l) [b] = 0 := by rw [Lib.index]; simp [List.isPrefixOf]
   conv => lhs; unfold Lib.splitK
   rw [hix]
   simp
  rw [Lib.count_cons_ne b c l h];obtain ⟨x, xs, hx⟩ := cutL_ne c l;have ih := splitK_cut c l;rw [hx] at ih;rw [splitK_cons b c l h _ x xs ih];unfold cutL;rw [if_neg h, hx]
theorem pieces_cut (c : UInt8) (s : ByteArray) : (plPieces c s).map (fun x => x.data.toList) = cutL c s.data.toList := by
  unfold plPieces
  rw [Lib.splitB_data]
  exact splitK_cut c s.data.toList
theorem map_inj {l m : List ByteArray} (h : l.map (fun x => x.data.toList) = m.map (fun x => x.data.toList)) : l = m := by
  induction l generalizing m with
  | nil => cases m with
    | nil => rfl
    | cons a m => simp at h
  | cons a l ih => cases m with
    | nil => simp at h
    | cons b m =>
      simp only [List.map_cons, List.cons.injEq] at h
      rw [ba_ext h.1, ih h.2]
def wsum (l : List ByteArray) : Nat := (l.map fun x => x.size + 1).sum
theorem cut_sum (c : UInt8) : ∀ l : List UInt8, ((cutL c l).map fun x => x.length + 1).sum = l.length + 1
  | [] => rfl
  | b :: l => by
    have ih := cut_sum c l
    unfold cutL
    split
    · rw [List.map_cons, List.sum_cons, ih]; simp; omega
    · obtain ⟨x, xs, hx⟩ := cutL_ne c l
      rw [hx] at ih ⊢
      simp only [List.map_cons, List.sum_cons, List.length_cons] at ih ⊢
      omega
theorem pieces_sum (c : UInt8) (s : ByteArray) : wsum (plPieces c s) = s.size + 1 := by
  have h := cut_sum c s.data.toList
  rw [← pieces_cut, List.map_map, data_len] at h
  rw [← h]
  unfold wsum
  congr 1
  first | done | (apply List.map_congr_left; intro x _; simp)
theorem filter_two : ∀ L : List ByteArray, 2 * (L.filter fun x => !plEmpty x).length ≤ wsum L
 | [] => Nat.zero_le _
 | a :: L => by
  have ih := filter_two L
  unfold wsum at ih ⊢
  rw [List.map_cons, List.sum_cons, List.filter_cons]
  split
  ·next h =>
   have hp : 1 ≤ a.size := by
    unfold plEmpty at h;rw [bytes_data] at h
    rcases hl : a.data.toList with _ | ⟨b, l⟩
    ·rw [hl] at h; simp at h
    have := data_len a;rw [hl] at this
    simp at this
    omega
   rw [List.length_cons]
   omega
  omega
theorem words_two (s : ByteArray) : 2 * (plWords s).length ≤ s.size + 1 := by
  rw [← pieces_sum 32 s]
  exact filter_two _
end Go.Proofs.YtnbghhddmlohoaaGreatDoor.Pure

end

section
namespace Go.Proofs.YtnbghhddmlohoaaGreatDoor.Pure
open Go.RowKit Go.Proofs.YtnbghhddmlohoaaGreatDoor.PAll Go.Proofs.YtnbghhddmlohoaaGreatDoorW.PrintWords Go.Proofs.YtnbghhddmlohoaaGreatDoorW.PrintLast

def w_raw : List (List UInt8) := [[105, 102, 114, 97, 109, 101], [110, 111, 101, 109, 98, 101, 100], [110, 111, 102, 114, 97, 109, 101, 115], [115, 99, 114, 105, 112, 116], [115, 116, 121, 108, 101], [120, 109, 112]]
def w_rcdata : List (List UInt8) := [[116, 101, 120, 116, 97, 114, 101, 97], [116, 105, 116, 108, 101]]
def w_table : List (List UInt8) := [[99, 97, 112, 116, 105, 111, 110], [99, 111, 108], [99, 111, 108, 103, 114, 111, 117, 112], [116, 98, 111, 100, 121], [116, 100], [116, 102, 111, 111, 116], [116, 104], [116, 104, 101, 97, 100], [116, 114]]
def w_skip : List (List UInt8) := [[98, 111, 100, 121], [102, 114, 97, 109, 101], [102, 114, 97, 109, 101, 115, 101, 116], [104, 101, 97, 100], [104, 116, 109, 108]]

def setK (k : Int) : List (List UInt8) :=
  if k = 2 then w_raw else if k = 3 then w_rcdata else if k = 12 then w_table ++ w_skip else []
def inK (k : Int) (name : ByteArray) : Bool := (setK k).contains name.data.toList

theorem among_l0 (a0 : ByteArray) (xs : List ByteArray) (hx : xs.length ≤ 1000000) : ∀ (d i k : Nat), i + d = xs.length → d < k →
  kind_among.l0 k a0 xs (xs.length : Int) (i : Int) = some ((xs.drop i).any fun s => s.toList == a0.toList) := by
 intro d
 induction d with
 | zero =>
  intro i k hi hk;obtain ⟨k, rfl⟩ : ∃ m, k = m + 1 := ⟨k - 1, by omega⟩;simp only [kind_among.l0];rw [if_neg (by omega), List.drop_of_length_le (by omega)];rfl
 | succ d ih =>
  intro i k hi hk;obtain ⟨k, rfl⟩ : ∃ m, k = m + 1 := ⟨k - 1, by omega⟩;have hlt : i < xs.length := by omega
  simp only [kind_among.l0];rw [if_pos (by omega), if_pos (by omega), if_pos (by omega), wrap_next (by omega), ih (i + 1) k (by omega) (by omega)];have e : rdOf ByteArray.empty xs (i : Int) = xs[i] := by simp [rdOf, List.getD_eq_getElem?_getD, hlt]
  rw [e, List.drop_eq_getElem_cons hlt, List.any_cons]
  by_cases h : xs[i].toList = a0.toList
  ·rw [if_pos h]; simp [h]
  rw [if_neg h]; simp [h]
theorem among_ev (a0 : ByteArray) (xs : List ByteArray) (hx : xs.length ≤ 1000000) : Ev (fun k => kind_among.f k a0 xs) ((xs.map fun s => s.data.toList).contains a0.data.toList) := by
 refine ⟨xs.length + 1, fun k hk => ?_⟩;have h := among_l0 a0 xs hx xs.length 0 k (by omega) (by omega);unfold kind_among.f;rw [List.drop_zero] at h;refine Eq.trans h ?_
 congr 1
 rw [List.contains_eq_any_beq, List.any_map]
 apply congrArg (fun p => List.any xs p)
 funext s
 rw [bytes_data, bytes_data];exact Bool.beq_comm
theorem raw_ev (a0 : ByteArray) : Ev (fun k => kind_raw.f k a0) (w_raw.contains a0.data.toList) := by
  unfold kind_raw.f
  refine Ev.bind (among_ev a0 _ (by decide)) ?_
  exact ⟨0, fun _ _ => rfl⟩
theorem rcdata_ev (a0 : ByteArray) : Ev (fun k => kind_rcdata.f k a0) (w_rcdata.contains a0.data.toList) := by
  unfold kind_rcdata.f
  refine Ev.bind (among_ev a0 _ (by decide)) ?_
  exact ⟨0, fun _ _ => rfl⟩
theorem table_ev (a0 : ByteArray) : Ev (fun k => kind_table.f k a0) (w_table.contains a0.data.toList) := by
  unfold kind_table.f
  refine Ev.bind (among_ev a0 _ (by decide)) ?_
  exact ⟨0, fun _ _ => rfl⟩
theorem Ev.or {g : Nat → Option Bool} {f : Nat → Option Bool} {b c : Bool} (h : Ev g b) (h' : Ev f c) : Ev (fun n => (g n).bind fun t => if t = true then some true else f n) (b || c) := by
  refine Ev.bind h ?_
  cases b with
  | true => exact ⟨0, fun _ _ => rfl⟩
  | false => exact Ev.congr (fun _ => rfl) h'
theorem Ev.pass {g : Nat → Option Bool} {b : Bool} (h : Ev g b) : Ev (fun n => (g n).bind fun t => some t) b := by
  refine Ev.bind h ?_
  exact ⟨0, fun _ _ => rfl⟩
theorem contains_append (a b : List (List UInt8)) (x : List UInt8) : (a ++ b).contains x = (a.contains x || b.contains x) := by
  simp
theorem is_ev (k0 : Int) (a1 : ByteArray) (h : k0 = 2 ∨ k0 = 3 ∨ k0 = 12 := by decide) : Ev (fun k => kind_Is.f k k0 a1) (inK k0 a1) := by
 unfold inK
 rcases h with rfl | rfl | rfl
 ·exact Ev.congr (fun _ => rfl) (Ev.pass (raw_ev a1))
 ·exact Ev.congr (fun _ => rfl) (Ev.pass (rcdata_ev a1))
 have e : setK 12 = w_table ++ w_skip := rfl;rw [e, contains_append];exact Ev.congr (fun _ => rfl) (Ev.or (table_ev a1) (Ev.pass (among_ev a1 _ (by decide))))
theorem Ev.way {α : Type} {g : Nat → Option Bool} {b : Bool} {X Y : Nat → Option α} {r : α} (h : Ev g b) (hx : b = true → Ev X r) (hy : b = false → Ev Y r) :
  Ev (fun n => (g n).bind fun t => if t = true then X n else Y n) r := by
 cases b with
 | true => exact Ev.bind (f := fun n t => if t = true then X n else Y n) h (Ev.congr (fun k => if_pos rfl) (hx rfl))
 | false => exact Ev.bind (f := fun n t => if t = true then X n else Y n) h (Ev.congr (fun k => if_neg (by decide)) (hy rfl))
def memB (l : List ByteArray) (x : ByteArray) : Bool := l.any fun y => y.data.toList == x.data.toList
def nmGo : List ByteArray → List ByteArray → Bool
  | _, [] => true
  | pre, x :: r => nameB x && (!memB pre x && nmGo (pre ++ [x]) r)
def namesS (l : List ByteArray) : Bool := nmGo [] l
theorem take_next (l : List ByteArray) (i : Nat) (h : i < l.length) : l.take i ++ [l[i]] = l.take (i + 1) := by
  rw [List.take_add_one, List.getElem?_eq_getElem h]; rfl
theorem areNames_l0 (l : List ByteArray) (hl : l.length ≤ 1000000) : ∀ (d i : Nat), i + d = l.length → Ev (fun k => p_areNames.l0 k l l (l.length : Int) (i : Int)) (nmGo (l.take i) (l.drop i)) := by
 intro d
 induction d with
 | zero =>
  intro i hi;refine Ev.step (f := fun _ => some true) (fun k => ?_) ?_
  ·simp only [p_areNames.l0];rw [if_neg (by omega)]
  rw [List.drop_of_length_le (by omega)]; exact Ev.now _
 | succ d ih =>
  intro i hi;have hlt : i < l.length := by omega
  rw [List.drop_eq_getElem_cons hlt];refine Ev.step (f := fun k => (p_isName.f l[i]).bind fun t => if t = true then ((slC_.f k (l.take i) l[i]).bind fun t2 => if t2 = true then some false else p_areNames.l0 k l l (l.length : Int) ((i + 1 : Nat) : Int)) else some false) (fun k => ?_) ?_
  ·simp only [p_areNames.l0];rw [if_pos (by omega), if_pos (by omega), if_pos (by omega), rd_at l i hlt, wrap_next (by omega), if_pos (show (i : Int) ≤ (l.length : Int) by omega)];rfl
  unfold nmGo;refine Ev.way (g := fun _ => p_isName.f l[i]) (b := nameB l[i]) ⟨0, fun _ _ => rfl⟩ (fun hn => ?_) (fun hn => ?_)
  ·refine Ev.way (contains_ev (l.take i) l[i] (by rw [List.length_take]; omega)) (fun hm => ?_) (fun hm => ?_)
   ·rw [hn, show memB (l.take i) l[i] = true from hm]; exact Ev.now _
   rw [hn, show memB (l.take i) l[i] = false from hm, take_next l i hlt]; exact ih (i + 1) (by omega)
  rw [hn]; exact Ev.now _
theorem areNames_ev (l : List ByteArray) (hl : l.length ≤ 1000000) : Ev (fun k => p_areNames.f k l) (namesS l) := by
  have h := areNames_l0 l hl l.length 0 (by omega)
  rw [List.take_zero, List.drop_zero] at h
  exact h
def hardN : List (List UInt8) := [[109, 97, 116, 104], [110, 111, 115, 99, 114, 105, 112, 116], [112, 108, 97, 105, 110, 116, 101, 120, 116], [115, 118, 103], [116, 101, 109, 112, 108, 97, 116, 101]]
def neverS (s : ByteArray) : Bool := hardN.contains s.data.toList || (inK 2 s || (inK 3 s || inK 12 s))
theorem never_j0 (s : ByteArray) (b : Bool) : Ev (fun k => p_never.j0 k s b) (b || (inK 2 s || (inK 3 s || inK 12 s))) := by
 refine Ev.step (f := fun k => if b = true then some true else ((kind_Is.f k 2 s).bind fun t => if t = true then some true else ((kind_Is.f k 3 s).bind fun t => if t = true then some true else ((kind_Is.f k 12 s).bind fun t => some t)))) (fun k => by simp only [p_never.j0]) ?_
 cases b with
 | true => exact Ev.congr (fun k => if_pos rfl) (Ev.now _)
 | false =>
  refine Ev.congr (fun k => if_neg (by decide)) ?_;rw [Bool.false_or];exact Ev.or (is_ev 2 s) (Ev.or (is_ev 3 s) (Ev.pass (is_ev 12 s)))
theorem never_ev (s : ByteArray) : Ev (fun k => p_never.f k s) (neverS s) := by
 have hc : ∀ L : List UInt8, (s.data.toList == L) = (s.toList == L) := fun L => by rw [bytes_data]
 have e : neverS s = (s.toList == [109, 97, 116, 104] || (s.toList == [110, 111, 115, 99, 114, 105, 112, 116] || (s.toList == [112, 108, 97, 105, 110, 116, 101, 120, 116] || (s.toList == [115, 118, 103] || (s.toList == [116, 101, 109, 112, 108, 97, 116, 101]))))
   || (inK 2 s || (inK 3 s || inK 12 s))) := by
  unfold neverS hardN;simp only [List.contains_cons, List.contains_nil, Bool.or_false, hc]
 rw [e];unfold p_never.f
 by_cases h1 : s.toList = ([109, 97, 116, 104] : List UInt8)
 ·rw [h1];exact Ev.congr (fun k => if_pos rfl) (never_j0 s true)
 rw [beq_eq_false_iff_ne.mpr h1, Bool.false_or];refine Ev.congr (fun k => if_neg h1) ?_
 by_cases h2 : s.toList = ([110, 111, 115, 99, 114, 105, 112, 116] : List UInt8)
 ·rw [h2];exact Ev.congr (fun k => if_pos rfl) (never_j0 s true)
 rw [beq_eq_false_iff_ne.mpr h2, Bool.false_or];refine Ev.congr (fun k => if_neg h2) ?_
 by_cases h3 : s.toList = ([112, 108, 97, 105, 110, 116, 101, 120, 116] : List UInt8)
 ·rw [h3];exact Ev.congr (fun k => if_pos rfl) (never_j0 s true)
 rw [beq_eq_false_iff_ne.mpr h3, Bool.false_or];refine Ev.congr (fun k => if_neg h3) ?_
 by_cases h4 : s.toList = ([115, 118, 103] : List UInt8)
 ·rw [h4];exact Ev.congr (fun k => if_pos rfl) (never_j0 s true)
 rw [beq_eq_false_iff_ne.mpr h4, Bool.false_or];exact Ev.congr (fun k => if_neg h4) (never_j0 s _)
def restB (dr : List ByteArray) (x : S38) : Bool := !neverS x.f0 && (!memB dr x.f0 && (namesS x.f1 && !x.f1.any actsB))
def chkGo (dr : List ByteArray) : List ByteArray → List S38 → Bool
  | all, [] => namesS all
  | all, x :: r => restB dr x && chkGo dr (all ++ [x.f0]) r
theorem rdT_at (l : List S38) (i : Nat) (h : i < l.length) : rd_T38 l (i : Int) = l[i] := by
  simp [rd_T38, List.getD_eq_getElem?_getD, h]
def okE (b : Bool) : Int := if b = true then 0 else 1
theorem check_l0 (l : List S38) (l1 l2 l3 : List ByteArray) (d0 : Int) (hl : l.length ≤ 1000) (h3 : l3.length ≤ 1000) (ha : ∀ x ∈ l, x.f1.length ≤ 1000) : ∀ (d i : Nat) (all : List ByteArray), i + d = l.length → all.length = i →
  Ev (fun k => p_Check.l0 k all l (l.length : Int) (i : Int) l l1 l2 l3 d0) (okE (chkGo l3 all (l.drop i))) := by
 intro d
 induction d with
 | zero =>
  intro i all hi hall;refine Ev.step (f := fun k => (p_areNames.f k all).bind fun t => if t = true then some 0 else some 1) (fun k => ?_) ?_
  ·simp only [p_Check.l0];rw [if_neg (by omega)]
  rw [List.drop_of_length_le (by omega)];show Ev _ (okE (namesS all));refine Ev.way (areNames_ev all (by omega)) (fun h => ?_) (fun h => ?_)
  ·rw [h]; exact Ev.now _
  rw [h]; exact Ev.now _
 | succ d ih =>
  intro i all hi hall;have hlt : i < l.length := by omega
  rw [List.drop_eq_getElem_cons hlt];have hf1 : l[i].f1.length ≤ 1000 := ha _ (List.getElem_mem hlt);refine Ev.step (f := fun k => (p_never.f k l[i].f0).bind fun t => if t = true then some 1 else ((slC_.f k l3 l[i].f0).bind fun t => if t = true then some 1 else ((p_areNames.f k l[i].f1).bind fun t => if t = true then ((cf_acts.f l[i].f1).bind fun t => if t = true then some 1 else p_Check.l0 k (all ++ [l[i].f0]) l (l.length : Int) ((i + 1 : Nat) : Int) l l1 l2 l3 d0) else some 1))) (fun k => ?_) ?_
  ·simp only [p_Check.l0];rw [if_pos (by omega), if_pos (by omega), if_pos (by omega), rdT_at l i hlt, wrap_next (by omega), if_pos (show all.length < 8796093022208 by omega)]
  unfold chkGo restB;refine Ev.way (never_ev l[i].f0) (fun h => ?_) (fun h => ?_)
  ·rw [h]; exact Ev.now _
  rw [h];refine Ev.way (contains_ev l3 l[i].f0 (by omega)) (fun h => ?_) (fun h => ?_)
  ·rw [show memB l3 l[i].f0 = true from h]; exact Ev.now _
  rw [show memB l3 l[i].f0 = false from h];refine Ev.way (areNames_ev l[i].f1 (by omega)) (fun h => ?_) (fun h => ?_)
  ·rw [h];refine Ev.way (g := fun _ => cf_acts.f l[i].f1) (b := l[i].f1.any actsB) ⟨0, fun _ _ => by unfold cf_acts.f; rw [if_pos hf1]⟩ (fun h => ?_) (fun h => ?_)
   ·rw [h]; exact Ev.now _
   rw [h]; exact ih (i + 1) (all ++ [l[i].f0]) (by omega) (by simp; omega)
  rw [h]; exact Ev.now _
def headB (l1 l2 l3 : List ByteArray) (d : Int) : Bool := decide (1 ≤ d ∧ d ≤ 60) && (namesS l1 && (namesS l2 && (namesS l3 && !l2.any runsB)))
def checkS (l0 : List S38) (l1 l2 l3 : List ByteArray) (d : Int) : Int := if largeB l0 l1 l2 l3 = true then 4 else okE (headB l1 l2 l3 d && chkGo l3 [] l0)
structure SmallP (l0 : List S38) (l1 l2 l3 : List ByteArray) : Prop where
  b0 : l0.length ≤ 1000
  b1 : l1.length ≤ 1000
  b2 : l2.length ≤ 1000
  b3 : l3.length ≤ 1000
  ba : ∀ x ∈ l0, x.f1.length ≤ 1000
theorem check_ev (l0 : List S38) (l1 l2 l3 : List ByteArray) (d : Int) (hs : SmallP l0 l1 l2 l3) : Ev (fun k => p_Check.f k l0 l1 l2 l3 d) (checkS l0 l1 l2 l3 d) := by
 obtain ⟨h0, h1, h2, h3, ha⟩ := hs;have hj1 : Ev (fun k => p_Check.j0 k true l0 l1 l2 l3 d) 1 := Ev.step (f := fun _ => some 1) (fun k => by simp only [p_Check.j0]; rfl) (Ev.now _)
 have hj0 : Ev (fun k => p_Check.j0 k false l0 l1 l2 l3 d) (okE (chkGo l3 [] l0)) := by
  refine Ev.step (f := fun k => p_Check.l0 k [] l0 (l0.length : Int) 0 l0 l1 l2 l3 d) (fun k => by simp only [p_Check.j0]; rfl) ?_;have h := check_l0 l0 l1 l2 l3 d h0 h3 ha l0.length 0 [] (by omega) rfl;rw [List.drop_zero] at h;exact h
 unfold p_Check.f checkS;refine Ev.way (g := fun _ => p_large.f l0 l1 l2 l3 d) (b := largeB l0 l1 l2 l3) ⟨0, fun _ _ => rfl⟩ (fun h => ?_) (fun h => ?_)
 ·rw [if_pos h]; exact Ev.now _
 rw [if_neg (by rw [h]; decide)];unfold headB
 by_cases hd1 : d < 1
 ·rw [decide_eq_false (show ¬ (1 ≤ d ∧ d ≤ 60) by omega)];exact Ev.congr (fun k => if_pos hd1) hj1
 by_cases hd2 : d > 60
 ·rw [decide_eq_false (show ¬ (1 ≤ d ∧ d ≤ 60) by omega)];exact Ev.congr (fun k => by rw [if_neg hd1, if_pos hd2]) hj1
 rw [decide_eq_true (show 1 ≤ d ∧ d ≤ 60 by omega)];refine Ev.congr (fun k => by rw [if_neg hd1, if_neg hd2]) ?_;refine Ev.way (areNames_ev l1 (by omega)) (fun h => ?_) (fun h => ?_)
 ·rw [h];refine Ev.way (areNames_ev l2 (by omega)) (fun h => ?_) (fun h => ?_)
  ·rw [h];refine Ev.way (areNames_ev l3 (by omega)) (fun h => ?_) (fun h => ?_)
   ·rw [h];refine Ev.bind (g := fun _ => cf_runs.f l2) (f := fun k t => p_Check.j0 k t l0 l1 l2 l3 d) (a := l2.any runsB) ⟨0, fun _ _ => by unfold cf_runs.f; rw [if_pos h2]⟩ ?_
    cases h : l2.any runsB with
    | true => exact hj1
    | false => exact hj0
   rw [h]; exact hj1
  rw [h]; exact hj1
 rw [h]; exact hj1
end Go.Proofs.YtnbghhddmlohoaaGreatDoor.Pure

end

section
namespace Go.Proofs.YtnbghhddmlohoaaGreatDoor.Pure
open Go.RowKit Go.Proofs.YtnbghhddmlohoaaGreatDoor.PAll Go.Proofs.YtnbghhddmlohoaaGreatDoorW.PrintWords Go.Proofs.YtnbghhddmlohoaaGreatDoorW.PrintLast
set_option linter.unusedSimpArgs false
set_option linter.unusedVariables false

section
variable (l : List S38) (l1 l2 l3 : List ByteArray) (d0 : Int) (hs : SmallP l l1 l2 l3)
include hs
end
theorem chk_eq (dr : List ByteArray) : ∀ (r : List S38) (all : List ByteArray), chkGo dr all r = (r.all (restB dr) && namesS (all ++ r.map S38.f0))
  | [], all => by simp [chkGo]
  | x :: r, all => by
    unfold chkGo
    rw [chk_eq dr r (all ++ [x.f0]), List.all_cons, List.map_cons, List.append_assoc, List.singleton_append, Bool.and_assoc]
end Go.Proofs.YtnbghhddmlohoaaGreatDoor.Pure

end

section
namespace Go.Proofs.YtnbghhddmlohoaaGreatDoor.Pure
open Go.RowKit Go.Proofs.YtnbghhddmlohoaaGreatDoor.PAll Go.Proofs.YtnbghhddmlohoaaGreatDoorW.PrintWords Go.Proofs.YtnbghhddmlohoaaGreatDoorW.PrintLast
theorem nodes_nil (l0 : List S38) (l1 l2 l3 : List ByteArray) (d n : Int) : p_nodes.f l0 l1 l2 l3 d [] n = some true := by
  first | rfl | (unfold p_nodes.f; rw [if_pos ⟨2, rfl⟩])
theorem al_zero : l11_alive0.f 100 = some true := by
  unfold l11_alive0.f p_Allowed.f
  simp only [nodes_nil]
  kernel_rfl
theorem alive_ev : Ev (fun k => l11_alive.f k) true := by
  refine Ev.of l11_alive.mono (k := 100) ?_
  unfold l11_alive.f
  rw [if_pos al_zero]
def textsS (l : List ByteArray) : Bool := decide (l.length ≤ 60) && l.all fun s => decide (s.size ≤ 60)
theorem texts_l0 (l : List ByteArray) (hl : l.length ≤ 1000) : ∀ (d i : Nat), i + d = l.length → Ev (fun k => r11_texts.l0 k l (i : Int)) ((l.drop i).all fun s => decide (s.size ≤ 60)) := by
 intro d
 induction d with
 | zero =>
  intro i hi;refine Ev.step (f := fun _ => some true) (fun k => ?_) ?_
  ·simp only [r11_texts.l0];rw [if_neg (show ¬ ((i : Int) < (l.length : Int)) by omega)]
  rw [List.drop_of_length_le (by omega)]; exact Ev.now _
 | succ d ih =>
  intro i hi;have hlt : i < l.length := by omega
  rw [List.drop_eq_getElem_cons hlt, List.all_cons]
  by_cases h : l[i].size ≤ 60
  ·refine Ev.step (f := fun k => r11_texts.l0 k l ((i + 1 : Nat) : Int)) (fun k => ?_) ?_
   ·simp only [r11_texts.l0];rw [if_pos (show (i : Int) < (l.length : Int) by omega), if_pos (show (0 : Int) ≤ (i : Int) by omega), rd_at l i hlt, if_neg (show ¬ ((l[i].size : Int) > 60) by omega), wrap_next (by omega)]
   rw [decide_eq_true h, Bool.true_and]; exact ih (i + 1) (by omega)
  refine Ev.step (f := fun _ => some false) (fun k => ?_) ?_
  ·simp only [r11_texts.l0];rw [if_pos (show (i : Int) < (l.length : Int) by omega), if_pos (show (0 : Int) ≤ (i : Int) by omega), rd_at l i hlt, if_pos (show (l[i].size : Int) > 60 by omega)]
  rw [decide_eq_false h, Bool.false_and]; exact Ev.now _
theorem texts_ev (l : List ByteArray) : Ev (fun k => r11_texts.f k l) (textsS l) := by
 unfold r11_texts.f textsS
 by_cases h : (l.length : Int) > 60
 ·rw [decide_eq_false (show ¬ l.length ≤ 60 by omega), Bool.false_and];exact Ev.congr (fun k => if_pos h) (Ev.now _)
 rw [decide_eq_true (show l.length ≤ 60 by omega), Bool.true_and];have h0 := texts_l0 l (by omega) l.length 0 (by omega);rw [List.drop_zero] at h0;exact Ev.congr (fun k => if_neg h) h0
def smallS (l0 : List S38) (l1 l2 l3 : List ByteArray) : Bool := decide (l0.length ≤ 60) && (textsS l1 && (textsS l2 && (textsS l3 && l0.all fun x => decide (x.f0.size ≤ 60) && textsS x.f1)))
theorem small_l0 (l : List S38) (l1 l2 l3 : List ByteArray) (d0 : Int) (hl : l.length ≤ 1000) : ∀ (d i : Nat), i + d = l.length → Ev (fun k => r11_Small.l0 k (i : Int) l l1 l2 l3 d0) ((l.drop i).all fun x => decide (x.f0.size ≤ 60) && textsS x.f1) := by
 intro d
 induction d with
 | zero =>
  intro i hi;refine Ev.step (f := fun _ => some true) (fun k => ?_) ?_
  ·simp only [r11_Small.l0];rw [if_neg (show ¬ ((i : Int) < (l.length : Int)) by omega)]
  rw [List.drop_of_length_le (by omega)]; exact Ev.now _
 | succ d ih =>
  intro i hi;have hlt : i < l.length := by omega
  rw [List.drop_eq_getElem_cons hlt, List.all_cons]
  by_cases h : l[i].f0.size ≤ 60
  ·refine Ev.step (f := fun k => (r11_texts.f k l[i].f1).bind fun t => if t = true then r11_Small.l0 k ((i + 1 : Nat) : Int) l l1 l2 l3 d0 else some false) (fun k => ?_) ?_
   ·simp only [r11_Small.l0];rw [if_pos (show (i : Int) < (l.length : Int) by omega), if_pos (show (0 : Int) ≤ (i : Int) by omega), rdT_at l i hlt, if_neg (show ¬ ((l[i].f0.size : Int) > 60) by omega), wrap_next (by omega)]
   rw [decide_eq_true h, Bool.true_and];refine Ev.way (texts_ev l[i].f1) (fun h => ?_) (fun h => ?_)
   ·rw [h]; exact ih (i + 1) (by omega)
   rw [h]; exact Ev.now _
  refine Ev.step (f := fun _ => some false) (fun k => ?_) ?_
  ·simp only [r11_Small.l0];rw [if_pos (show (i : Int) < (l.length : Int) by omega), if_pos (show (0 : Int) ≤ (i : Int) by omega), rdT_at l i hlt, if_pos (show (l[i].f0.size : Int) > 60 by omega)]
  rw [decide_eq_false h, Bool.false_and, Bool.false_and]; exact Ev.now _
theorem small_ev (l0 : List S38) (l1 l2 l3 : List ByteArray) (d : Int) : Ev (fun k => r11_Small.f k l0 l1 l2 l3 d) (smallS l0 l1 l2 l3) := by
 have hjt : Ev (fun k => r11_Small.j0 k true l0 l1 l2 l3 d) false := Ev.step (f := fun _ => some false) (fun k => by simp only [r11_Small.j0]; rfl) (Ev.now _);unfold r11_Small.f smallS
 by_cases h : (l0.length : Int) > 60
 ·rw [decide_eq_false (show ¬ l0.length ≤ 60 by omega), Bool.false_and];exact Ev.congr (fun k => if_pos h) hjt
 have hjf : Ev (fun k => r11_Small.j0 k false l0 l1 l2 l3 d) (l0.all fun x => decide (x.f0.size ≤ 60) && textsS x.f1) := by
  refine Ev.step (f := fun k => r11_Small.l0 k 0 l0 l1 l2 l3 d) (fun k => by simp only [r11_Small.j0]; rfl) ?_;have h0 := small_l0 l0 l1 l2 l3 d (by omega) l0.length 0 (by omega);rw [List.drop_zero] at h0;exact h0
 rw [decide_eq_true (show l0.length ≤ 60 by omega), Bool.true_and];refine Ev.congr (fun k => if_neg h) ?_;refine Ev.way (texts_ev l1) (fun h => ?_) (fun h => ?_)
 ·rw [h];refine Ev.way (texts_ev l2) (fun h => ?_) (fun h => ?_)
  ·rw [h];refine Ev.bind (f := fun k t => r11_Small.j0 k (!t) l0 l1 l2 l3 d) (texts_ev l3) ?_
   cases textsS l3 with
   | true => exact hjf
   | false => exact hjt
  rw [h]; exact hjt
 rw [h]; exact hjt
theorem small_is {l0 : List S38} {l1 l2 l3 : List ByteArray} (h : smallS l0 l1 l2 l3 = true) : SmallP l0 l1 l2 l3 := by
  unfold smallS textsS at h
  simp only [Bool.and_eq_true, decide_eq_true_eq, List.all_eq_true] at h
  obtain ⟨h0, ⟨h1, _⟩, ⟨h2, _⟩, ⟨h3, _⟩, ha⟩ := h
  exact ⟨by omega, by omega, by omega, by omega, fun x hx => by have := (ha x hx).2.1; omega⟩
end Go.Proofs.YtnbghhddmlohoaaGreatDoor.Pure

end

section
namespace Go.Proofs.YtnbghhddmlohoaaGreatDoor.Pure
open Go.RowKit Go.Proofs.YtnbghhddmlohoaaGreatDoor.PAll Go.Proofs.YtnbghhddmlohoaaGreatDoorW.PrintWords Go.Proofs.YtnbghhddmlohoaaGreatDoorW.PrintLast
set_option linter.unusedSimpArgs false
set_option linter.unusedVariables false

def tailL (l : List ByteArray) : List UInt8 := Lib.joinTail [32] (l.map (·.data.toList))
theorem tail_cons (a : ByteArray) (l : List ByteArray) : tailL (a :: l) = 32 :: a.data.toList ++ tailL l := by
  unfold tailL Lib.joinTail
  simp
theorem line_tail (x : List UInt8) (l : List ByteArray) : lineL x l = x ++ tailL l ++ [10] := by
  unfold lineL tailL
  rw [Lib.join_cons]
theorem tail_len : ∀ l : List ByteArray, (tailL l).length = wsum l
  | [] => rfl
  | a :: l => by
    rw [tail_cons]
    have := tail_len l
    unfold wsum at this ⊢
    simp only [List.length_cons, List.length_append, List.map_cons, List.sum_cons, this, data_len] <;> omega
theorem line_len (x : List UInt8) (l : List ByteArray) : (lineL x l).length = x.length + wsum l + 1 := by
  rw [line_tail]
  simp only [List.length_append, tail_len, List.length_cons, List.length_nil]
theorem wsum_le : ∀ l : List ByteArray, (∀ s ∈ l, s.size ≤ 60) → wsum l ≤ 61 * l.length
  | [], _ => Nat.le_refl _
  | a :: l, h => by
    have h1 := wsum_le l (fun s hs => h s (List.mem_cons_of_mem _ hs))
    have h2 := h a (List.mem_cons_self ..)
    unfold wsum at h1 ⊢
    rw [List.map_cons, List.sum_cons, List.length_cons]
    omega
theorem mk_size (l : List UInt8) : (⟨l.toArray⟩ : ByteArray).size = l.length := by simp [ByteArray.size]
structure Lines (l0 : List S38) (l1 l2 l3 : List ByteArray) : Prop where
  n0 : l0.length ≤ 60
  n1 : l1.length ≤ 60
  n2 : l2.length ≤ 60
  n3 : l3.length ≤ 60
  w1 : wsum l1 ≤ 3660
  w2 : wsum l2 ≤ 3660
  w3 : wsum l3 ≤ 3660
  ra : ∀ x ∈ l0, x.f0.size ≤ 60 ∧ x.f1.length ≤ 60 ∧ wsum x.f1 ≤ 3660
theorem texts_w {l : List ByteArray} (h : textsS l = true) : l.length ≤ 60 ∧ wsum l ≤ 3660 := by
  unfold textsS at h
  rw [Bool.and_eq_true, decide_eq_true_eq, List.all_eq_true] at h
  have := wsum_le l (fun s hs => by simpa using h.2 s hs)
  exact ⟨h.1, by omega⟩
theorem small_lines {l0 : List S38} {l1 l2 l3 : List ByteArray} (h : smallS l0 l1 l2 l3 = true) : Lines l0 l1 l2 l3 := by
 unfold smallS at h;simp only [Bool.and_eq_true, decide_eq_true_eq, List.all_eq_true] at h;obtain ⟨a0, a1, a2, a3, a4⟩ := h;exact ⟨a0, (texts_w a1).1, (texts_w a2).1, (texts_w a3).1, (texts_w a1).2, (texts_w a2).2, (texts_w a3).2, fun x hx => ⟨(a4 x hx).1, (texts_w (a4 x hx).2).1, (texts_w (a4 x hx).2).2⟩⟩
theorem some_len (x : List UInt8) (l : List ByteArray) : (someL x l).length ≤ x.length + wsum l + 1 := by
  unfold someL
  split
  · simp
  · rw [line_len]; omega
theorem rules_len : ∀ l0 : List S38, (∀ x ∈ l0, x.f0.size ≤ 60 ∧ x.f1.length ≤ 60 ∧ wsum x.f1 ≤ 3660) → (rulesL l0).length ≤ 3740 * l0.length
 | [], _ => Nat.le_refl _
 | r :: l, h => by
  have h1 := rules_len l (fun x hx => h x (List.mem_cons_of_mem _ hx))
  have h2 := h r (List.mem_cons_self ..)
  unfold rulesL
  rw [List.length_append, line_len, List.length_append, data_len, List.length_cons]
  simp only [List.length_cons, List.length_nil]
  omega
section
variable (l0 : List S38) (l1 l2 l3 : List ByteArray) (d0 : Int) (hL : Lines l0 l1 l2 l3)
include hL
end
theorem dec1 (n : Nat) (h : n < 10) : Lib.decDigits n = [UInt8.ofNat (48 + n)] := by
  rw [Lib.decDigits, dif_pos h]
theorem dec2 (n : Nat) (h : n < 100) (h' : 10 ≤ n) : Lib.decDigits n = [UInt8.ofNat (48 + n / 10), UInt8.ofNat (48 + n % 10)] := by
  rw [Lib.decDigits, dif_neg (by omega), dec1 (n / 10) (by omega)]
  rfl
theorem dec_len (n : Nat) (h : n < 61) : (Lib.decDigits n).length ≤ 2 := by
  by_cases h' : n < 10
  · rw [dec1 n h']; simp
  · rw [dec2 n (by omega) (by omega)]; simp
def prR (l0 : List S38) (l1 l2 l3 : List ByteArray) (d : Int) : ByteArray × Int := if checkS l0 l1 l2 l3 d = 0 then (⟨(prText l0 l1 l2 l3 d.toNat).toArray⟩, 0) else (⟨#[]⟩, checkS l0 l1 l2 l3 d)
theorem check_deep {l0 : List S38} {l1 l2 l3 : List ByteArray} {d : Int} (h : checkS l0 l1 l2 l3 d = 0) : 1 ≤ d ∧ d ≤ 60 := by
  unfold checkS at h
  split at h
  · simp at h
  · unfold okE at h
    split at h
    · next hb =>
      unfold headB at hb
      simp only [Bool.and_eq_true, decide_eq_true_eq] at hb
      exact hb.1.1
    · simp at h
theorem print_ev (l0 : List S38) (l1 l2 l3 : List ByteArray) (d : Int) (hs : SmallP l0 l1 l2 l3) (hL : Lines l0 l1 l2 l3) : Ev (fun k => p_Print.f k l0 l1 l2 l3 d) (prR l0 l1 l2 l3 d) := by
 unfold p_Print.f prR;refine Ev.bind (f := fun k e => if e = 0 then (if (0 ≤ d ∧ d < 100) ∧ l1.length < 100000 ∧ l2.length < 100000 ∧ l3.length < 100000 ∧ (∀ x ∈ l0, x.f1.length < 100000) ∧ (prText l0 l1 l2 l3 d.toNat).length < 1000000000 then some ((⟨(prText l0 l1 l2 l3 d.toNat).toArray⟩ : ByteArray), (0 : Int)) else none) else some (⟨#[]⟩, e)) (check_ev l0 l1 l2 l3 d hs) ?_
 by_cases h : checkS l0 l1 l2 l3 d = 0
 ·rw [if_pos h, if_pos h];obtain ⟨hd1, hd2⟩ := check_deep h;obtain ⟨a0, a1, a2, a3, b1, b2, b3, ra⟩ := hL
  have hlen : (prText l0 l1 l2 l3 d.toNat).length < 1000000000 := by
   have hr := rules_len l0 ra;have s1 := some_len [108, 105, 110, 107] l1;have s2 := some_len [115, 99, 104, 101, 109, 101] l2;have s3 := some_len [100, 114, 111, 112] l3;have hdg : (Lib.decDigits d.toNat).length ≤ 2 := dec_len _ (by omega);unfold prText;simp only [List.length_append, line_len];have hw : wsum [(⟨(Lib.decDigits d.toNat).toArray⟩ : ByteArray)] = (Lib.decDigits d.toNat).length + 1 := by unfold wsum; simp [mk_size]
   rw [hw];simp only [List.length_cons, List.length_nil] at s1 s2 s3 ⊢
   omega
  exact Ev.congr (fun k => if_pos ⟨⟨by omega, by omega⟩, by omega, by omega, by omega, fun x hx => by have := (ra x hx).2.1; omega, hlen⟩) (Ev.now _)
 rw [if_neg h, if_neg h];exact Ev.now _
end Go.Proofs.YtnbghhddmlohoaaGreatDoor.Pure

end

section
namespace Go.Proofs.YtnbghhddmlohoaaGreatDoor.Pure
open Go.RowKit Go.Proofs.YtnbghhddmlohoaaGreatDoor.PAll Go.Proofs.YtnbghhddmlohoaaGreatDoorW.PrintWords Go.Proofs.YtnbghhddmlohoaaGreatDoorW.PrintLast
set_option linter.unusedSimpArgs false
set_option linter.unusedVariables false

structure Room (l0 : List S38) (l1 l2 l3 : List ByteArray) (T : Nat) : Prop where
  r0 : 2 * l0.length + T ≤ 2001
  r1 : 2 * l1.length + T ≤ 2001
  r2 : 2 * l2.length + T ≤ 2001
  r3 : 2 * l3.length + T ≤ 2001
  ra : ∀ x ∈ l0, 2 * x.f1.length ≤ 2001
theorem Room.small {l0 : List S38} {l1 l2 l3 : List ByteArray} {T : Nat} (h : Room l0 l1 l2 l3 T) : SmallP l0 l1 l2 l3 :=
  ⟨by have := h.r0; omega, by have := h.r1; omega, by have := h.r2; omega, by have := h.r3; omega, fun x hx => by have := h.ra x hx; omega⟩
theorem say_room {l0 m0 : List S38} {l1 l2 l3 m1 m2 m3 : List ByteArray} {d d' : Int} {s : ByteArray} {T : Nat} (h : Room l0 l1 l2 l3 (s.size + 1 + T)) (e : sayS l0 l1 l2 l3 d s = some (m0, m1, m2, m3, d')) : Room m0 m1 m2 m3 T := by
 obtain ⟨h0, h1, h2, h3, ha⟩ := h;have hw := words_two s;have same : Room l0 l1 l2 l3 T := ⟨by omega, by omega, by omega, by omega, ha⟩;unfold sayS at e
 rcases hl : plWords s with _ | ⟨x, r⟩
 ·rw [hl] at e;simp only [Option.some.injEq, Prod.mk.injEq] at e;obtain ⟨rfl, rfl, rfl, rfl, rfl⟩ := e;exact same
 rw [hl] at e hw;rw [List.length_cons] at hw;simp only at e
 split at e
 ·simp only [Option.some.injEq, Prod.mk.injEq] at e;obtain ⟨rfl, rfl, rfl, rfl, rfl⟩ := e;exact same
 unfold sayW at e
 split at e
 ·split at e
  ·next y =>
   rcases hn : numS y with _ | n
   ·rw [hn] at e; simp at e
   rw [hn] at e;simp only [Option.map_some, Option.some.injEq, Prod.mk.injEq] at e;obtain ⟨rfl, rfl, rfl, rfl, rfl⟩ := e;exact same
  simp at e
 split at e
 ·split at e
  ·simp at e
  next y t =>
  simp only [Option.some.injEq, Prod.mk.injEq] at e;obtain ⟨rfl, rfl, rfl, rfl, rfl⟩ := e;rw [List.length_cons] at hw;refine ⟨by rw [List.length_append]; simp; omega, by omega, by omega, by omega, fun x hx => ?_⟩
  rcases List.mem_append.1 hx with hx | hx
  ·exact ha x hx
  have := List.mem_singleton.1 hx;subst this;show 2 * t.length ≤ 2001
  omega
 split at e
 ·simp only [Option.some.injEq, Prod.mk.injEq] at e;obtain ⟨rfl, rfl, rfl, rfl, rfl⟩ := e;exact ⟨by omega, by rw [List.length_append]; omega, by omega, by omega, ha⟩
 split at e
 ·simp only [Option.some.injEq, Prod.mk.injEq] at e;obtain ⟨rfl, rfl, rfl, rfl, rfl⟩ := e;exact ⟨by omega, by omega, by rw [List.length_append]; omega, by omega, ha⟩
 split at e
 ·simp only [Option.some.injEq, Prod.mk.injEq] at e;obtain ⟨rfl, rfl, rfl, rfl, rfl⟩ := e;exact ⟨by omega, by omega, by omega, by rw [List.length_append]; omega, ha⟩
 simp at e
theorem read_small : ∀ (xs : List ByteArray) (l0 : List S38) (l1 l2 l3 : List ByteArray) (d n : Int) (m0 : List S38) (m1 m2 m3 : List ByteArray) (d' e : Int), Room l0 l1 l2 l3 (wsum xs) → readGo l0 l1 l2 l3 d xs n = (m0, m1, m2, m3, d', e) → SmallP m0 m1 m2 m3
 | [], l0, l1, l2, l3, d, n, m0, m1, m2, m3, d', e, h, hg => by
  unfold readGo at hg
  simp only [Prod.mk.injEq] at hg
  obtain ⟨rfl, rfl, rfl, rfl, rfl, rfl⟩ := hg
  exact h.small
 | x :: xs, l0, l1, l2, l3, d, n, m0, m1, m2, m3, d', e, h, hg => by
  unfold readGo at hg
  rcases hs : sayS l0 l1 l2 l3 d x with _ | ⟨p0, p1, p2, p3, q⟩
  ·rw [hs] at hg
   simp only [Prod.mk.injEq] at hg
   obtain ⟨rfl, rfl, rfl, rfl, rfl, rfl⟩ := hg
   exact ⟨by simp, by simp, by simp, by simp, fun x hx => by simp at hx⟩
  rw [hs] at hg
  exact read_small xs p0 p1 p2 p3 q _ m0 m1 m2 m3 d' e (say_room (T := wsum xs) (by have h_ := h; unfold wsum at h_ ⊢; rw [List.map_cons, List.sum_cons] at h_; exact h_) hs) hg
def finR (m : List S38 × List ByteArray × List ByteArray × List ByteArray × Int × Int) : (List S38 × List ByteArray × List ByteArray × List ByteArray × Int × Int × Int) :=
  if m.2.2.2.2.2 > 0 then ([], [], [], [], 0, m.2.2.2.2.2, 7) else if checkS m.1 m.2.1 m.2.2.1 m.2.2.2.1 m.2.2.2.2.1 = 0 then (m.1, m.2.1, m.2.2.1, m.2.2.2.1, m.2.2.2.2.1, 0, 0) else ([], [], [], [], 0, 0, checkS m.1 m.2.1 m.2.2.1 m.2.2.2.1 m.2.2.2.2.1)
def parR (s : ByteArray) : (List S38 × List ByteArray × List ByteArray × List ByteArray × Int × Int × Int) := if (s.size : Int) > 2000 then ([], [], [], [], 0, 0, 4) else finR (readGo [] [] [] [] 0 (plPieces 10 s) 0)
theorem room0 (s : ByteArray) (h : s.size ≤ 2000) : Room [] [] [] [] (wsum (plPieces 10 s)) := by
  have := pieces_sum 10 s
  exact ⟨by simp; omega, by simp; omega, by simp; omega, by simp; omega, fun x hx => by simp at hx⟩
theorem piece_le (s : ByteArray) {x : ByteArray} (hx : x ∈ plPieces 10 s) : x.size ≤ s.size := by
 have h := pieces_sum 10 s;unfold wsum at h
 have : ∀ (L : List ByteArray), x ∈ L → x.size + 1 ≤ (L.map fun x => x.size + 1).sum := by
  intro L
  induction L with
  | nil => intro hx; simp at hx
  | cons a L ih =>
   intro hx;rw [List.map_cons, List.sum_cons]
   rcases List.mem_cons.1 hx with rfl | hx
   ·omega
   have := ih hx; omega
 have := this _ hx
 omega
theorem parse_ev (s : ByteArray) : Ev (fun k => p_Parse.f k s) (parR s) := by
 unfold p_Parse.f parR
 by_cases h : (s.size : Int) > 2000
 ·rw [if_pos h];exact Ev.congr (fun k => if_pos h) (Ev.now _)
 rw [if_neg h];refine Ev.congr (fun k => if_neg h) ?_
 have e1 : strings_Split.f s (⟨#[10]⟩ : ByteArray) = some (plPieces 10 s) := by
  unfold strings_Split.f;simp only;rw [if_pos (by omega)]
 have hsum := pieces_sum 10 s
 have hlen : (plPieces 10 s).length ≤ 5000 := by
  have : ∀ (L : List ByteArray), L.length ≤ wsum L := by
   intro L
   induction L with
   | nil => exact Nat.le_refl _
   | cons a L ih => unfold wsum at ih ⊢; rw [List.map_cons, List.sum_cons, List.length_cons]; omega
  have := this (plPieces 10 s)
  omega
 have e2 : p_read.f (plPieces 10 s) = some (readGo [] [] [] [] 0 (plPieces 10 s) 0) := by
  unfold p_read.f;rw [if_pos ⟨hlen, fun x hx => by have := piece_le s hx; omega⟩]
 rcases hg : readGo [] [] [] [] 0 (plPieces 10 s) 0 with ⟨m0, m1, m2, m3, d', e⟩
 have hsm := read_small _ _ _ _ _ _ _ _ _ _ _ _ _ (room0 s (by omega)) hg;rw [hg] at e2;refine Ev.bind (g := fun _ => strings_Split.f s (⟨#[10]⟩ : ByteArray)) (f := fun k t142 => (p_read.f t142).bind fun bt145 => (if bt145.2.2.2.2.2 > 0 then (some (([] : List (S38)), ([] : List ByteArray), ([] : List ByteArray), ([] : List ByteArray), 0, bt145.2.2.2.2.2, 7)) else ((p_Check.f k bt145.1 bt145.2.1 bt145.2.2.1 bt145.2.2.2.1 bt145.2.2.2.2.1).bind fun t160 => (if t160 = 0 then (some (bt145.1, bt145.2.1, bt145.2.2.1, bt145.2.2.2.1, bt145.2.2.2.2.1, 0, 0)) else (some (([] : List (S38)), ([] : List ByteArray), ([] : List ByteArray), ([] : List ByteArray), 0, 0, t160)))))) ⟨0, fun _ _ => e1⟩ ?_;refine Ev.bind (g := fun _ => p_read.f (plPieces 10 s)) (f := fun k bt145 => (if bt145.2.2.2.2.2 > 0 then (some (([] : List (S38)), ([] : List ByteArray), ([] : List ByteArray), ([] : List ByteArray), 0, bt145.2.2.2.2.2, 7)) else ((p_Check.f k bt145.1 bt145.2.1 bt145.2.2.1 bt145.2.2.2.1 bt145.2.2.2.2.1).bind fun t160 => (if t160 = 0 then (some (bt145.1, bt145.2.1, bt145.2.2.1, bt145.2.2.2.1, bt145.2.2.2.2.1, 0, 0)) else (some (([] : List (S38)), ([] : List ByteArray), ([] : List ByteArray), ([] : List ByteArray), 0, 0, t160)))))) ⟨0, fun _ _ => e2⟩ ?_;unfold finR;simp only
 by_cases he : e > 0
 ·rw [if_pos he];exact Ev.congr (fun k => if_pos he) (Ev.now _)
 rw [if_neg he];refine Ev.congr (fun k => if_neg he) ?_;refine Ev.bind (f := fun k t160 => (if t160 = 0 then (some (m0, m1, m2, m3, d', 0, 0)) else (some (([] : List (S38)), ([] : List ByteArray), ([] : List ByteArray), ([] : List ByteArray), 0, 0, t160)))) (check_ev m0 m1 m2 m3 d' hsm) ?_
 split
 ·exact Ev.now _
 exact Ev.now _
theorem same_texts_l0 (l : List ByteArray) (hl : l.length ≤ 1000000) : ∀ (d i : Nat), i + d = l.length → Ev (fun k => r11_Texts.l0 k l l (i : Int)) true := by
 intro d
 induction d with
 | zero =>
  intro i hi;refine Ev.step (f := fun _ => some true) (fun k => ?_) (Ev.now _);simp only [r11_Texts.l0];rw [if_neg (by omega)]
 | succ d ih =>
  intro i hi;refine Ev.step (f := fun k => r11_Texts.l0 k l l ((i + 1 : Nat) : Int)) (fun k => ?_) (ih (i + 1) (by omega));simp only [r11_Texts.l0];rw [if_pos (by omega), if_pos (by omega), if_pos (by omega), if_pos (by trivial), wrap_next (by omega)]
theorem same_texts (l : List ByteArray) (hl : l.length ≤ 1000000) : Ev (fun k => r11_Texts.f k l l) true := by
  unfold r11_Texts.f
  exact Ev.congr (fun k => if_pos rfl) (same_texts_l0 l hl l.length 0 (by omega))
theorem same_l0 (l : List S38) (l1 l2 l3 : List ByteArray) (d0 : Int) (hl : l.length ≤ 1000) (ha : ∀ x ∈ l, x.f1.length ≤ 1000) : ∀ (d i : Nat), i + d = l.length → Ev (fun k => r11_Same.l0 k (i : Int) l l1 l2 l3 d0 l l1 l2 l3 d0) true := by
 intro d
 induction d with
 | zero =>
  intro i hi;refine Ev.step (f := fun _ => some true) (fun k => ?_) (Ev.now _);simp only [r11_Same.l0];rw [if_neg (by omega)]
 | succ d ih =>
  intro i hi;have hlt : i < l.length := by omega
  refine Ev.step (f := fun k => (r11_Texts.f k l[i].f1 l[i].f1).bind fun t => if t = true then r11_Same.l0 k ((i + 1 : Nat) : Int) l l1 l2 l3 d0 l l1 l2 l3 d0 else some false) (fun k => ?_) ?_
  ·simp only [r11_Same.l0];rw [if_pos (by omega), if_pos (by omega), if_pos (by omega), if_pos (by trivial), rdT_at l i hlt, wrap_next (by omega)]
  exact Ev.way (same_texts _ (by have := ha _ (List.getElem_mem hlt); omega)) (fun _ => ih (i + 1) (by omega)) (fun h => absurd h (by decide))
theorem same_ev (l : List S38) (l1 l2 l3 : List ByteArray) (d : Int) (hs : SmallP l l1 l2 l3) : Ev (fun k => r11_Same.f k l l1 l2 l3 d l l1 l2 l3 d) true := by
 unfold r11_Same.f;refine Ev.congr (fun k => by rw [if_pos rfl, if_pos rfl]) ?_;refine Ev.way (same_texts l1 (by have := hs.b1; omega)) (fun _ => ?_) (fun h => absurd h (by decide));refine Ev.way (same_texts l2 (by have := hs.b2; omega)) (fun _ => ?_) (fun h => absurd h (by decide));refine Ev.bind (f := fun k t => r11_Same.j0 k (!t) l l1 l2 l3 d l l1 l2 l3 d) (same_texts l3 (by have := hs.b3; omega)) ?_;refine Ev.step (f := fun k => r11_Same.l0 k 0 l l1 l2 l3 d l l1 l2 l3 d) (fun k => by simp only [r11_Same.j0]; rfl) ?_;exact same_l0 l l1 l2 l3 d hs.b0 hs.ba l.length 0 (by omega)

theorem cut_one (c : UInt8) : ∀ x : List UInt8, (∀ b ∈ x, b ≠ c) → cutL c x = [x]
  | [], _ => rfl
  | b :: x, h => by
    unfold cutL
    rw [if_neg (h b (List.mem_cons_self ..)), cut_one c x (fun y hy => h y (List.mem_cons_of_mem _ hy))]
theorem cut_more (c : UInt8) (r : List UInt8) : ∀ x : List UInt8, (∀ b ∈ x, b ≠ c) → cutL c (x ++ c :: r) = x :: cutL c r
 | [], _ => by
  show cutL c (c :: r) = _
  conv => lhs; unfold cutL
  rw [if_pos rfl]
 | b :: x, h => by
  show cutL c (b :: (x ++ c :: r)) = _
  conv => lhs; unfold cutL
  rw [if_neg (h b (List.mem_cons_self ..)), cut_more c r x (fun y hy => h y (List.mem_cons_of_mem _ hy))]
theorem cut_tail : ∀ (xs : List ByteArray) (x : List UInt8), (∀ b ∈ x, b ≠ 32) → (∀ y ∈ xs, ∀ b ∈ y.data.toList, b ≠ 32) → cutL 32 (x ++ tailL xs) = x :: xs.map (·.data.toList)
 | [], x, h, _ => by
  rw [show tailL [] = [] from rfl, List.append_nil, cut_one 32 x h]; rfl
 | a :: xs, x, h, hx => by
  rw [tail_cons, List.cons_append, cut_more 32 _ x h, cut_tail xs a.data.toList (hx a (List.mem_cons_self ..)) (fun y hy => hx y (List.mem_cons_of_mem _ hy))]
  rfl
def wordB (s : ByteArray) : Prop := 1 ≤ s.size ∧ ∀ b ∈ s.data.toList, b ≠ 32 ∧ b ≠ 10
theorem word_full {s : ByteArray} (h : wordB s) : plEmpty s = false := by
  unfold plEmpty
  rw [bytes_data]
  have := h.1
  rw [← data_len] at this
  rcases hl : s.data.toList with _ | ⟨a, l⟩
  · rw [hl] at this; simp at this
  · rfl
theorem words_tail (x : ByteArray) (xs : List ByteArray) (h : wordB x) (hx : ∀ y ∈ xs, wordB y) : plWords ⟨(x.data.toList ++ tailL xs).toArray⟩ = x :: xs := by
 have h1 := pieces_cut 32 ⟨(x.data.toList ++ tailL xs).toArray⟩;rw [show (⟨(x.data.toList ++ tailL xs).toArray⟩ : ByteArray).data.toList = x.data.toList ++ tailL xs by simp, cut_tail xs x.data.toList (fun b hb => (h.2 b hb).1) (fun y hy b hb => ((hx y hy).2 b hb).1)] at h1;have h2 : plPieces 32 ⟨(x.data.toList ++ tailL xs).toArray⟩ = x :: xs := map_inj (by rw [h1]; rfl);unfold plWords;rw [h2, List.filter_eq_self.2];intro y hy
 rcases List.mem_cons.1 hy with rfl | hy
 ·rw [word_full h]; rfl
 rw [word_full (hx y hy)]; rfl
theorem nm_words : ∀ (l pre : List ByteArray), nmGo pre l = true → ∀ y ∈ l, wordB y
 | [], _, _, y, hy => by simp at hy
 | x :: r, pre, h, y, hy => by
  unfold nmGo at h
  simp only [Bool.and_eq_true] at h
  rcases List.mem_cons.1 hy with rfl | hy
  ·have hn := h.1
   unfold nameB at hn
   simp only [Bool.and_eq_true, decide_eq_true_eq, List.all_eq_true] at hn
   refine ⟨hn.1.1.1, fun b hb => ?_⟩
   have hc := hn.2 b hb
   unfold nmC at hc
   simp only [Bool.or_eq_true, beq_iff_eq, decide_eq_true_eq] at hc
   constructor
   ·rintro rfl
    have e : ((32 : UInt8).toNat : Int) = 32 := rfl
    rw [e] at hc
    omega
   rintro rfl
   have e : ((10 : UInt8).toNat : Int) = 10 := rfl
   rw [e] at hc
   omega
  exact nm_words r _ h.2.2 y hy
structure Sound (l0 : List S38) (l1 l2 l3 : List ByteArray) (d : Int) : Prop where
  d1 : 1 ≤ d
  d2 : d ≤ 60
  s1 : ∀ y ∈ l1, wordB y
  s2 : ∀ y ∈ l2, wordB y
  s3 : ∀ y ∈ l3, wordB y
  s0 : ∀ x ∈ l0, wordB x.f0 ∧ ∀ y ∈ x.f1, wordB y
theorem check_sound {l0 : List S38} {l1 l2 l3 : List ByteArray} {d : Int} (h : checkS l0 l1 l2 l3 d = 0) : Sound l0 l1 l2 l3 d := by
 have hd := check_deep h;unfold checkS at h
 split at h
 ·simp at h
 unfold okE at h
 split at h
 ·next hb =>
  unfold headB at hb;rw [chk_eq] at hb;simp only [Bool.and_eq_true, List.all_eq_true, List.nil_append] at hb;obtain ⟨⟨_, h1, h2, h3, _⟩, hr, hn⟩ := hb;refine ⟨hd.1, hd.2, nm_words l1 [] h1, nm_words l2 [] h2, nm_words l3 [] h3, fun x hx => ⟨nm_words _ [] hn x.f0 (List.mem_map.2 ⟨x, hx, rfl⟩), ?_⟩⟩;have hx2 := hr x hx;unfold restB at hx2;simp only [Bool.and_eq_true] at hx2;exact nm_words _ [] hx2.2.2.1
 simp at h
def mkB (l : List UInt8) : ByteArray := ⟨l.toArray⟩
theorem mkB_data (l : List UInt8) : (mkB l).data.toList = l := by simp [mkB]
theorem tail_no10 : ∀ xs : List ByteArray, (∀ y ∈ xs, wordB y) → ∀ b ∈ tailL xs, b ≠ 10
 | [], _, b, hb => by simp [tailL, Lib.joinTail] at hb
 | a :: xs, h, b, hb => by
  rw [tail_cons] at hb
  rcases List.mem_append.1 hb with hb | hb
  ·rcases List.mem_cons.1 hb with rfl | hb
   ·decide
   exact ((h a (List.mem_cons_self ..)).2 b hb).2
  exact tail_no10 xs (fun y hy => h y (List.mem_cons_of_mem _ hy)) b hb
theorem cut_line (x : List UInt8) (xs : List ByteArray) (r : List UInt8) (hx : ∀ b ∈ x, b ≠ 10) (h : ∀ y ∈ xs, wordB y) : cutL 10 (lineL x xs ++ r) = (x ++ tailL xs) :: cutL 10 r := by
  rw [line_tail, List.append_assoc]
  refine cut_more 10 r (x ++ tailL xs) (fun b hb => ?_)
  rcases List.mem_append.1 hb with hb | hb
  · exact hx b hb
  · exact tail_no10 xs h b hb
def goL (l0 : List S38) (l1 l2 l3 : List ByteArray) (d : Int) (ps : List (List UInt8)) (n : Int) := readGo l0 l1 l2 l3 d (ps.map mkB) n
theorem pieces_mk (s : ByteArray) : plPieces 10 s = (cutL 10 s.data.toList).map mkB := by
  apply map_inj
  rw [pieces_cut, List.map_map]
  conv => lhs; rw [← List.map_id (cutL 10 s.data.toList)]
  apply List.map_congr_left
  intro x _
  exact (mkB_data x).symm
theorem bt_first (a : UInt8) (l : List UInt8) : bt (mkB (a :: l)) 0 = (a.toNat : Int) := bt_get (mkB (a :: l)) 0 a (by rw [mkB_data]; rfl)
section
variable (l0 : List S38) (l1 l2 l3 : List ByteArray) (d : Int)
theorem say_of (w : ByteArray) (xs : List ByteArray) (h : wordB w) (hx : ∀ y ∈ xs, wordB y) (h35 : ∀ a l, w.data.toList = a :: l → a ≠ 35) : sayS l0 l1 l2 l3 d (mkB (w.data.toList ++ tailL xs)) = sayW l0 l1 l2 l3 d w xs := by
 unfold sayS;rw [show plWords (mkB (w.data.toList ++ tailL xs)) = w :: xs from words_tail w xs h hx];have hp := h.1;rw [← data_len] at hp
 rcases hl : w.data.toList with _ | ⟨a, l⟩
 ·rw [hl] at hp; simp at hp
 have hne : ¬ bt (mkB (a :: l ++ tailL xs)) 0 = 35 := by
  rw [List.cons_append, bt_first];intro e;exact h35 a l hl (UInt8.toNat.inj (by show a.toNat = 35; omega))
 simp only;rw [if_neg hne]
theorem go_step (p : List UInt8) (ps : List (List UInt8)) (n : Int) {m0 : List S38} {m1 m2 m3 : List ByteArray} {e : Int} (h : sayS l0 l1 l2 l3 d (mkB p) = some (m0, m1, m2, m3, e)) : goL l0 l1 l2 l3 d (p :: ps) n = goL m0 m1 m2 m3 e ps (n + 1) := by
  unfold goL
  rw [List.map_cons]
  conv => lhs; unfold readGo
  rw [h]
end
theorem w_deep : wordB (mkB [100, 101, 101, 112]) := ⟨by decide, by decide⟩
theorem w_elem : wordB (mkB [101, 108, 101, 109, 101, 110, 116]) := ⟨by decide, by decide⟩
theorem w_link : wordB (mkB [108, 105, 110, 107]) := ⟨by decide, by decide⟩
theorem w_sch : wordB (mkB [115, 99, 104, 101, 109, 101]) := ⟨by decide, by decide⟩
theorem w_drop : wordB (mkB [100, 114, 111, 112]) := ⟨by decide, by decide⟩
def dgL (n : Nat) : List UInt8 := if n < 10 then [UInt8.ofNat (48 + n)] else [UInt8.ofNat (48 + n / 10), UInt8.ofNat (48 + n % 10)]
theorem dgL_is (n : Nat) (h : n < 61) : Lib.decDigits n = dgL n := by
  unfold dgL
  by_cases h' : n < 10
  · rw [dec1 n h', if_pos h']
  · rw [dec2 n (by omega) (by omega), if_neg h']
theorem dgL_num : ∀ n, n < 61 → 1 ≤ n → numOk (mkB (dgL n)) = true ∧ numGo (dgL n) 0 = some (n : Int) ∧ (dgL n).all (fun b => b != 32 && b != 10) = true ∧ 1 ≤ (dgL n).length := by decide +kernel
theorem num_dig (n : Nat) (h : n < 61) (h1 : 1 ≤ n) : numS (mkB (dgL n)) = some (n : Int) := by
  obtain ⟨a, b, _⟩ := dgL_num n h h1
  unfold numS
  rw [if_pos a, mkB_data, b]
theorem w_dig (n : Nat) (h : n < 61) (h1 : 1 ≤ n) : wordB (mkB (dgL n)) := by
  obtain ⟨_, _, c, e⟩ := dgL_num n h h1
  refine ⟨by rw [← data_len, mkB_data]; exact e, fun b hb => ?_⟩
  rw [mkB_data] at hb
  have := List.all_eq_true.1 c b hb
  simpa using this
theorem go_rules (l1 l2 l3 : List ByteArray) (d : Int) (r : List UInt8) : ∀ (xs pre : List S38) (n : Int), (∀ x ∈ xs, wordB x.f0 ∧ ∀ y ∈ x.f1, wordB y) → ∃ n', goL pre l1 l2 l3 d (cutL 10 (rulesL xs ++ r)) n = goL (pre ++ xs) l1 l2 l3 d (cutL 10 r) n'
 | [], pre, n, _ => ⟨n, by rw [List.append_nil]; rfl⟩
 | x :: xs, pre, n, h => by
  obtain ⟨hx0, hx1⟩ := h x (List.mem_cons_self ..)
  have hw : ∀ y ∈ x.f0 :: x.f1, wordB y := fun y hy => by
   rcases List.mem_cons.1 hy with rfl | hy
   ·exact hx0
   exact hx1 y hy
  have e : lineL ([101, 108, 101, 109, 101, 110, 116, 32] ++ x.f0.data.toList) x.f1 = lineL [101, 108, 101, 109, 101, 110, 116] (x.f0 :: x.f1) := by
   rw [line_tail, line_tail, tail_cons]
   simp
  have hs := say_of pre l1 l2 l3 d (mkB [101, 108, 101, 109, 101, 110, 116]) (x.f0 :: x.f1) w_elem hw (by intro a l h; rw [mkB_data] at h; simp at h; rw [← h.1]; decide);rw [mkB_data] at hs
  have hs2 : sayW pre l1 l2 l3 d (mkB [101, 108, 101, 109, 101, 110, 116]) (x.f0 :: x.f1) = some (pre ++ [x], l1, l2, l3, d) := by
   unfold sayW;rw [bytes_data, mkB_data, if_neg (by decide), if_pos rfl]
  obtain ⟨n', hn⟩ := go_rules l1 l2 l3 d r xs (pre ++ [x]) (n + 1) (fun y hy => h y (List.mem_cons_of_mem _ hy));refine ⟨n', ?_⟩;show goL pre l1 l2 l3 d (cutL 10 ((lineL ([101, 108, 101, 109, 101, 110, 116, 32] ++ x.f0.data.toList) x.f1 ++ rulesL xs) ++ r)) n = _;rw [e, List.append_assoc, cut_line _ _ _ (by decide) hw, go_step pre l1 l2 l3 d _ _ n (hs.trans hs2), hn, List.append_assoc];rfl
theorem go_text (l0 : List S38) (l1 l2 l3 : List ByteArray) (d : Nat) (h : Sound l0 l1 l2 l3 (d : Int)) (n : Int) : goL [] [] [] [] 0 (cutL 10 (prText l0 l1 l2 l3 d)) n = (l0, l1, l2, l3, (d : Int), 0) := by
 have hd1 := h.d1;have hd2 := h.d2;have hdg : (⟨(Lib.decDigits d).toArray⟩ : ByteArray) = mkB (dgL d) := by rw [dgL_is d (by omega)]; rfl
 have hwd : ∀ y ∈ [mkB (dgL d)], wordB y := fun y hy => by rw [List.mem_singleton.1 hy]; exact w_dig d (by omega) (by omega)
 unfold prText;rw [hdg, List.append_assoc, List.append_assoc, List.append_assoc, cut_line _ _ _ (by decide) hwd];have hs := say_of [] [] [] [] 0 (mkB [100, 101, 101, 112]) [mkB (dgL d)] w_deep hwd (by intro a l h; rw [mkB_data] at h; simp at h; rw [← h.1]; decide);rw [mkB_data] at hs
 have hs2 : sayW [] [] [] [] 0 (mkB [100, 101, 101, 112]) [mkB (dgL d)] = some ([], [], [], [], (d : Int)) := by
  unfold sayW;rw [bytes_data, mkB_data, if_pos rfl];simp only;rw [num_dig d (by omega) (by omega)];rfl
 rw [go_step [] [] [] [] 0 _ _ n (hs.trans hs2)];obtain ⟨n1, h1⟩ := go_rules [] [] [] (d : Int) (someL [108, 105, 110, 107] l1 ++ (someL [115, 99, 104, 101, 109, 101] l2 ++ someL [100, 114, 111, 112] l3)) l0 [] (n + 1) h.s0;rw [h1, List.nil_append]
 have A : ∀ (n : Int) (r : List UInt8), ∃ n', goL l0 [] [] [] (d : Int) (cutL 10 (someL [108, 105, 110, 107] l1 ++ r)) n = goL l0 l1 [] [] (d : Int) (cutL 10 r) n' := by
  intro n r
  by_cases he : l1 = []
  ·rw [he]; exact ⟨n, rfl⟩
  refine ⟨n + 1, ?_⟩;have hs := say_of l0 [] [] [] (d : Int) (mkB [108, 105, 110, 107]) l1 w_link h.s1 (by intro a l h; rw [mkB_data] at h; simp at h; rw [← h.1]; decide);rw [mkB_data] at hs;rw [show someL [108, 105, 110, 107] l1 = lineL [108, 105, 110, 107] l1 from if_neg he, cut_line _ _ _ (by decide) h.s1, go_step l0 [] [] [] (d : Int) _ _ n (hs.trans (by unfold sayW; rw [bytes_data, mkB_data, if_neg (by decide), if_neg (by decide), if_pos rfl]))];rfl
 have B : ∀ (n : Int) (r : List UInt8), ∃ n', goL l0 l1 [] [] (d : Int) (cutL 10 (someL [115, 99, 104, 101, 109, 101] l2 ++ r)) n = goL l0 l1 l2 [] (d : Int) (cutL 10 r) n' := by
  intro n r
  by_cases he : l2 = []
  ·rw [he]; exact ⟨n, rfl⟩
  refine ⟨n + 1, ?_⟩;have hs := say_of l0 l1 [] [] (d : Int) (mkB [115, 99, 104, 101, 109, 101]) l2 w_sch h.s2 (by intro a l h; rw [mkB_data] at h; simp at h; rw [← h.1]; decide);rw [mkB_data] at hs;rw [show someL [115, 99, 104, 101, 109, 101] l2 = lineL [115, 99, 104, 101, 109, 101] l2 from if_neg he, cut_line _ _ _ (by decide) h.s2, go_step l0 l1 [] [] (d : Int) _ _ n (hs.trans (by unfold sayW; rw [bytes_data, mkB_data, if_neg (by decide), if_neg (by decide), if_neg (by decide), if_pos rfl]))];rfl
 have C : ∀ (n : Int) (r : List UInt8), ∃ n', goL l0 l1 l2 [] (d : Int) (cutL 10 (someL [100, 114, 111, 112] l3 ++ r)) n = goL l0 l1 l2 l3 (d : Int) (cutL 10 r) n' := by
  intro n r
  by_cases he : l3 = []
  ·rw [he]; exact ⟨n, rfl⟩
  refine ⟨n + 1, ?_⟩;have hs := say_of l0 l1 l2 [] (d : Int) (mkB [100, 114, 111, 112]) l3 w_drop h.s3 (by intro a l h; rw [mkB_data] at h; simp at h; rw [← h.1]; decide);rw [mkB_data] at hs;rw [show someL [100, 114, 111, 112] l3 = lineL [100, 114, 111, 112] l3 from if_neg he, cut_line _ _ _ (by decide) h.s3, go_step l0 l1 l2 [] (d : Int) _ _ n (hs.trans (by unfold sayW; rw [bytes_data, mkB_data, if_neg (by decide), if_neg (by decide), if_neg (by decide), if_neg (by decide), if_pos rfl]))];rfl
 obtain ⟨n2, h2⟩ := A n1 (someL [115, 99, 104, 101, 109, 101] l2 ++ someL [100, 114, 111, 112] l3);obtain ⟨n3, h3⟩ := B n2 (someL [100, 114, 111, 112] l3);obtain ⟨n4, h4⟩ := C n3 [];rw [List.append_nil] at h4
 have hz : sayS l0 l1 l2 l3 (d : Int) (mkB []) = some (l0, l1, l2, l3, (d : Int)) := by
  unfold sayS;rw [show plWords (mkB []) = [] by decide +kernel]
 rw [h2, h3, h4, show cutL 10 [] = [[]] from rfl, go_step l0 l1 l2 l3 (d : Int) _ _ n4 hz];rfl
theorem par_text (l0 : List S38) (l1 l2 l3 : List ByteArray) (d : Nat) (hc : checkS l0 l1 l2 l3 (d : Int) = 0) (s : ByteArray) (hs : s.size ≤ 2000) (hg : goL [] [] [] [] 0 (cutL 10 s.data.toList) 0 = (l0, l1, l2, l3, (d : Int), 0)) : parR s = (l0, l1, l2, l3, (d : Int), 0, 0) := by
 unfold parR;rw [if_neg (by omega), pieces_mk];unfold goL at hg;rw [hg];unfold finR;simp only;rw [if_neg (by decide), if_pos hc]
theorem go_note (l0 : List S38) (l1 l2 l3 : List ByteArray) (d : Nat) (h : Sound l0 l1 l2 l3 (d : Int)) (note : List UInt8) (hn : ∀ b ∈ note, b ≠ 10) : goL [] [] [] [] 0 (cutL 10 ((35 :: note) ++ 10 :: (32 :: 10 :: prText l0 l1 l2 l3 d))) 0 = (l0, l1, l2, l3, (d : Int), 0) := by
 rw [cut_more 10 _ (35 :: note) (fun b hb => by
  rcases List.mem_cons.1 hb with rfl | hb
  ·decide
  exact hn b hb)]
 have s1 : sayS [] [] [] [] 0 (mkB (35 :: note)) = some ([], [], [], [], 0) := by
  unfold sayS
  split
  ·rfl
  rw [if_pos (by rw [bt_first]; rfl)]
 rw [go_step [] [] [] [] 0 _ _ 0 s1];have e : (32 : UInt8) :: 10 :: prText l0 l1 l2 l3 d = [32] ++ 10 :: prText l0 l1 l2 l3 d := rfl;rw [e, cut_more 10 _ [32] (by decide)]
 have s2 : sayS [] [] [] [] 0 (mkB [32]) = some ([], [], [], [], 0) := by
  unfold sayS;rw [show plWords (mkB [32]) = [] by decide +kernel]
 rw [go_step [] [] [] [] 0 _ _ _ s2];exact go_text l0 l1 l2 l3 d h _
end Go.Proofs.YtnbghhddmlohoaaGreatDoor.Pure

end

section
namespace Go.Proofs.YtnbghhddmlohoaaGreatDoor.Pure
open Go.RowKit Go.Proofs.YtnbghhddmlohoaaGreatDoor.PAll Go.Proofs.YtnbghhddmlohoaaGreatDoorW.PrintWords Go.Proofs.YtnbghhddmlohoaaGreatDoorW.PrintLast
theorem back_end (l0 : List S38) (l1 l2 l3 : List ByteArray) (d : Nat) (hs : SmallP l0 l1 l2 l3) (hc : checkS l0 l1 l2 l3 (d : Int) = 0) (note : ByteArray) (hn : note.size ≤ 60) (h10 : ∀ b ∈ note.data.toList, b ≠ 10) (i : Nat) (hi : i = note.size) :
  Ev (fun k => l11_PolicyBack.l0 k note ⟨(prText l0 l1 l2 l3 d).toArray⟩ (i : Int) l0 l1 l2 l3 (d : Int)) true := by
 obtain ⟨T, hT⟩ : ∃ T : ByteArray, T = ⟨(prText l0 l1 l2 l3 d).toArray⟩ := ⟨_, rfl⟩;have hTd : T.data.toList = prText l0 l1 l2 l3 d := by rw [hT]
 rw [← hT];have hS := check_sound hc;obtain ⟨K3, h3⟩ := alive_ev
 by_cases hbig : (T.size : Int) > 2000 - (note.size : Int) - 4
 ·refine ⟨K3 + 1, fun k hk => ?_⟩;obtain ⟨k, rfl⟩ : ∃ j, k = j + 1 := ⟨k - 1, by omega⟩;have a3 := h3 k (by omega);have hw : wrap64 (wrap64 (2000 - (note.size : Int)) - 4) = 2000 - (note.size : Int) - 4 := by unfold wrap64; omega
  simp only at a3;simp only [l11_PolicyBack.l0];rw [if_neg (by omega), hw, if_pos hbig, a3];rfl
 have hw : wrap64 (wrap64 (2000 - (note.size : Int)) - 4) = 2000 - (note.size : Int) - 4 := by unfold wrap64; omega
 obtain ⟨U, hU⟩ : ∃ U : ByteArray, U = (((⟨#[35]⟩ : ByteArray) ++ note) ++ (⟨#[10, 32, 10]⟩ : ByteArray)) ++ T := ⟨_, rfl⟩;have z1 : (⟨#[35]⟩ : ByteArray).size = 1 := rfl;have z3 : (⟨#[10, 32, 10]⟩ : ByteArray).size = 3 := rfl;have hUs : U.size = 1 + note.size + 3 + T.size := by rw [hU, ByteArray.size_append, ByteArray.size_append, ByteArray.size_append, z1, z3]
 have hUd : U.data.toList = (35 :: note.data.toList) ++ 10 :: (32 :: 10 :: prText l0 l1 l2 l3 d) := by rw [hU, ← hTd]; simp
 have e1 : parR T = (l0, l1, l2, l3, (d : Int), 0, 0) := par_text l0 l1 l2 l3 d hc T (by omega) (by rw [hTd]; exact go_text l0 l1 l2 l3 d hS 0);have e2 : parR U = (l0, l1, l2, l3, (d : Int), 0, 0) := par_text l0 l1 l2 l3 d hc U (by omega) (by rw [hUd]; exact go_note l0 l1 l2 l3 d hS note.data.toList h10);have p1 := parse_ev T;have p2 := parse_ev U;rw [e1] at p1;rw [e2] at p2;obtain ⟨K1, h1⟩ := p1;obtain ⟨K2, h2⟩ := p2;obtain ⟨K4, h4⟩ := same_ev l0 l1 l2 l3 (d : Int) hs;refine ⟨max (max K1 K2) (max K3 K4) + 1, fun k hk => ?_⟩;obtain ⟨k, rfl⟩ : ∃ j, k = j + 1 := ⟨k - 1, by omega⟩;have a1 := h1 k (by omega);have a2 := h2 k (by omega);have a3 := h3 k (by omega);have a4 := h4 k (by omega);simp only at a1 a2 a3 a4;simp only [l11_PolicyBack.l0];rw [if_neg (by omega), hw, if_neg hbig, a1, Option.bind_some, if_pos (by omega), if_pos (by rw [ByteArray.size_append, z1]; omega), if_pos (by rw [ByteArray.size_append, ByteArray.size_append, z1, z3]; omega), ← hU, a2, Option.bind_some, a3, Option.bind_some];simp only [if_pos, a4, Option.bind_some]
theorem back_l0 (l0 : List S38) (l1 l2 l3 : List ByteArray) (d : Nat) (hs : SmallP l0 l1 l2 l3) (hc : checkS l0 l1 l2 l3 (d : Int) = 0) (note : ByteArray) (hn : note.size ≤ 60) : ∀ (e i : Nat), i + e = note.size → (∀ b ∈ note.data.toList.take i, b ≠ 10) →
  Ev (fun k => l11_PolicyBack.l0 k note ⟨(prText l0 l1 l2 l3 d).toArray⟩ (i : Int) l0 l1 l2 l3 (d : Int)) true := by
 intro e
 induction e with
 | zero =>
  intro i hi h;refine back_end l0 l1 l2 l3 d hs hc note hn ?_ i (by omega);rw [List.take_of_length_le (by rw [data_len]; omega)] at h;exact h
 | succ e ih =>
  intro i hi h;obtain ⟨b, hb, hd⟩ := drop_get note i (by omega);have hbt := bt_get note i b hb
  by_cases h10 : bt note (i : Int) = 10
  ·refine Ev.step (f := fun k => (l11_alive.f k).bind fun t => some t) (fun k => ?_) (Ev.bind (f := fun k t => some t) alive_ev (Ev.now _));simp only [l11_PolicyBack.l0];rw [if_pos (by omega), if_pos (by omega), if_pos h10]
  refine Ev.step (f := fun k => l11_PolicyBack.l0 k note ⟨(prText l0 l1 l2 l3 d).toArray⟩ ((i + 1 : Nat) : Int) l0 l1 l2 l3 (d : Int)) (fun k => ?_) (ih (i + 1) (by omega) ?_)
  ·simp only [l11_PolicyBack.l0];rw [if_pos (by omega), if_pos (by omega), if_neg h10, wrap_next (by omega)]
  intro c hcm;rw [List.take_add_one, hb] at hcm
  rcases List.mem_append.1 hcm with hcm | hcm
  ·exact h c hcm
  have : c = b := by simpa using hcm
  subst this;rintro rfl;exact h10 (by rw [hbt]; rfl)
theorem back_j0 (l0 : List S38) (l1 l2 l3 : List ByteArray) (d : Int) (hs : SmallP l0 l1 l2 l3) (hL : Lines l0 l1 l2 l3) (note : ByteArray) (hn : note.size ≤ 60) : Ev (fun k => l11_PolicyBack.j0 k note false l0 l1 l2 l3 d) true := by
 refine Ev.step (f := fun k => (p_Print.f k l0 l1 l2 l3 d).bind fun bt231 => (if bt231.2 = 0 then (l11_PolicyBack.l0 k note bt231.1 0 l0 l1 l2 l3 d) else ((l11_alive.f k).bind fun t233 => (if t233 = true then (if bt231.1.toList = ([] : List UInt8) then ((p_Check.f k l0 l1 l2 l3 d).bind fun t234 => (some (t234 == bt231.2))) else (some false)) else (some false))))) (fun k => by simp only [l11_PolicyBack.j0]; rfl) ?_;have hp := print_ev l0 l1 l2 l3 d hs hL;unfold prR at hp
 by_cases hc : checkS l0 l1 l2 l3 d = 0
 ·rw [if_pos hc] at hp;refine Ev.bind (f := fun k bt231 => (if bt231.2 = 0 then (l11_PolicyBack.l0 k note bt231.1 0 l0 l1 l2 l3 d) else ((l11_alive.f k).bind fun t233 => (if t233 = true then (if bt231.1.toList = ([] : List UInt8) then ((p_Check.f k l0 l1 l2 l3 d).bind fun t234 => (some (t234 == bt231.2))) else (some false)) else (some false))))) hp ?_;refine Ev.congr (fun k => if_pos rfl) ?_;have hd := check_deep hc;obtain ⟨n, rfl⟩ : ∃ n : Nat, d = (n : Int) := ⟨d.toNat, by omega⟩;exact back_l0 l0 l1 l2 l3 n hs hc note hn note.size 0 (by omega) (fun b hb => by simp at hb)
 rw [if_neg hc] at hp;refine Ev.bind (f := fun k bt231 => (if bt231.2 = 0 then (l11_PolicyBack.l0 k note bt231.1 0 l0 l1 l2 l3 d) else ((l11_alive.f k).bind fun t233 => (if t233 = true then (if bt231.1.toList = ([] : List UInt8) then ((p_Check.f k l0 l1 l2 l3 d).bind fun t234 => (some (t234 == bt231.2))) else (some false)) else (some false))))) hp ?_;refine Ev.congr (fun k => if_neg hc) ?_;refine Ev.way alive_ev (fun _ => ?_) (fun h => absurd h (by decide));refine Ev.congr (fun k => if_pos (by rw [bytes_data])) ?_;refine Ev.bind (f := fun k t234 => (some (t234 == checkS l0 l1 l2 l3 d))) (check_ev l0 l1 l2 l3 d hs) ?_;rw [beq_self_eq_true];exact Ev.now _
theorem PolicyBack : policyBackOp.Plain := by
 intro x0 x1 hg hg1
 apply Ev.rounds
 have htrue : Ev (fun k => l11_PolicyBack.j0 k x1 true x0.f0 x0.f1 x0.f2 x0.f3 x0.f4) true := Ev.step (f := fun k => (l11_alive.f k).bind fun t => some t) (fun k => by simp only [l11_PolicyBack.j0]; rfl) (Ev.bind (f := fun k t => some t) alive_ev (Ev.now _));unfold l11_PolicyBack.f;refine Ev.way (small_ev x0.f0 x0.f1 x0.f2 x0.f3 x0.f4) (fun h => ?_) (fun h => htrue)
 by_cases hn : (x1.size : Int) > 60
 ·rw [decide_eq_true hn];exact htrue
 rw [decide_eq_false hn];exact back_j0 x0.f0 x0.f1 x0.f2 x0.f3 x0.f4 (small_is h) (small_lines h) x1 (by omega)
end Go.Proofs.YtnbghhddmlohoaaGreatDoor.Pure

end
