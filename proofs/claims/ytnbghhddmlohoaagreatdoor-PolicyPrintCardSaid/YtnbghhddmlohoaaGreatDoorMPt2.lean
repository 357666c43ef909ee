-- Laid together by a program of this session (merge.py) out of its own texts and of the print's, for one law. Lean checks it.
import Derived.Test.YtnbghhddmlohoaaGreatDoorMPt1
set_option maxHeartbeats 16000000
set_option maxRecDepth 100000
section
namespace Go.Proofs.YtnbghhddmlohoaaGreatDoor.PAll
open Go.RowKit Go.Proofs.YtnbghhddmlohoaaGreatDoorW.PrintWords Go.Proofs.YtnbghhddmlohoaaGreatDoorW.PrintLast Go.Proofs.YtnbghhddmlohoaaGreatDoorW.PrintMore
attribute [local go_sem] max2_int min2_int max_two min_two max_three min_three max_four min_four   -- for this text's walks alone
set_option linter.unusedVariables false
set_option linter.unusedSimpArgs false

def r11_in.l0 : Nat → List ByteArray → ByteArray → Int → Option (Bool)
  | 0, _, _, _ => none
  | k + 1, x0, x1, x5 => if x5 < (x0.length : Int) then (if 0 ≤ x5 then (if (rdOf ByteArray.empty x0 x5).toList = x1.toList then (some true) else (r11_in.l0 k x0 x1 (wrap64 (x5 + 1)))) else (none)) else (some false)
def r11_in.f (k : Nat) (l0 : List ByteArray) (a1 : ByteArray) : Option (Bool) := r11_in.l0 k l0 a1 0
theorem r11_in.calls (k : Nat) (A0 : Option Addr) (c0 : Nat) (l0 : List ByteArray) (a1 : ByteArray) (r : Bool) (w : World) (hr0 : Kd.C Kd.string w A0 l0.length l0) (hc0 : l0.length ≤ c0) (h : r11_in.f k l0 a1 = some r) :
  Calls Tryz.prog 42 #[.slice A0 l0.length c0, .string a1] w fun e w' => e = .returned (.bool r) ∧ Drawn0 w w' := by
 have HR0 := Am hr0;have HC0 := Am hc0;clear hr0 hc0;have H : (r11_in.l0 k l0 a1 0) = some r := h;clear h;have H' := Am H;clear H;go_enter Tryz.func42, Tryz.ntmps42;go_wp2
 go_loopg [5] k (fun kq v5 w' => ∃ (x5_1 : Int), v5 = .int .i64 x5_1 ∧ Aside0 (r11_in.l0 kq l0 a1 x5_1 = some r) ∧ Aside0 (kq ≤ k) ∧ Drawn0 w w')
 case atStart => exact ⟨(0), Rs, H', ⟨Nat.le_refl _⟩, by repeat (first | exact Drawn0.refl _ | apply Drawn0.step)⟩
 case round =>
  clear H';(try clear p2);obtain ⟨x5_1, rfl, HA, HK1, ⟨m1, rfl⟩⟩ := hrel
  cases gk with
  | zero => exact absurd HA.out (by simp [r11_in.l0])
  | succ k1 =>
   have H := HA.out;clear HA;simp only [r11_in.l0] at H
   by_cases c3 : x5_1 < (l0.length : Int)
   ·rw [if_pos c3] at H;have c3b0 : decide (x5_1 < (l0.length : Int)) = true := decide_eq_true c3;clear c3
    by_cases c4 : 0 ≤ x5_1
    ·rw [if_pos c4] at H;have c4b0 : decide (0 ≤ x5_1) = true := decide_eq_true c4;clear c4
     by_cases c5 : (rdOf ByteArray.empty l0 x5_1).toList = a1.toList
     ·rw [if_pos c5] at H;have c5b0 : ((rdOf ByteArray.empty l0 x5_1).toList == a1.toList) = true := beq_iff_eq.mpr c5;have c5b1 : ((rdOf ByteArray.empty l0 x5_1).toList != a1.toList) = false := bne_eq_false_iff_eq.mpr c5;clear c5;obtain rfl := si H;have p216 : 0 ≤ (x5_1 : Int) := Od;have q216 : x5_1 < (l0.length : Int) := Od;obtain ⟨ad216, e216, hx216_0⟩ := Kd.at_string HR0.out x5_1 p216 q216;cases e216;replace p216 := eq_true p216;replace q216 := eq_true q216;go_wp2;go_ret;exact ⟨Rs, Dw⟩
     rw [if_neg c5] at H;have c5b0 : ((rdOf ByteArray.empty l0 x5_1).toList == a1.toList) = false := beq_eq_false_iff_ne.mpr c5;have c5b1 : ((rdOf ByteArray.empty l0 x5_1).toList != a1.toList) = true := bne_iff_ne.mpr c5;have H' := Am H;clear H;have p216 : 0 ≤ (x5_1 : Int) := Od;have q216 : x5_1 < (l0.length : Int) := Od;obtain ⟨ad216, e216, hx216_0⟩ := Kd.at_string HR0.out x5_1 p216 q216;cases e216;replace p216 := eq_true p216;replace q216 := eq_true q216;go_wp2;go_roundg k1
     case measure => have := HK1.out; omega
     case rel => exact ⟨(wrap64 (x5_1 + 1)), Rs, H', ⟨by have := HK1.out; omega⟩, by repeat (first | exact Drawn0.refl _ | apply Drawn0.step)⟩
    rw [if_neg c4] at H;exact absurd H (by simp)
   rw [if_neg c3] at H;have c3b0 : decide (x5_1 < (l0.length : Int)) = false := decide_eq_false c3;clear c3;obtain rfl := si H;go_wp2;go_ret;exact ⟨Rs, Dw⟩

def r02_Figure.f (a0 : Int) : Option (Bool) := if a0 ≥ 48 then (some (decide (a0 ≤ 57))) else (some false)
theorem r02_Figure.calls (a0 : Int) (r : Bool) (w : World) (h : r02_Figure.f a0 = some r) :
  Calls Tryz.prog 88 #[.int .u8 a0] w fun e w' => e = .returned (.bool r) ∧ Drawn0 w w' := by
 have H := h;clear h;unfold r02_Figure.f at H
 by_cases c2 : a0 ≥ 48
 ·rw [if_pos c2] at H;have c2b0 : decide (48 ≤ a0) = true := decide_eq_true c2;clear c2;obtain rfl := si H;go_enter Tryz.func88, Tryz.ntmps88;go_wp2;go_ret;exact ⟨Rs, Dw⟩
 rw [if_neg c2] at H;have c2b0 : decide (48 ≤ a0) = false := decide_eq_false c2;clear c2;obtain rfl := si H;go_enter Tryz.func88, Tryz.ntmps88;go_wp2;go_ret;exact ⟨Rs, Dw⟩

mutual
def r11_Name.j0 : Nat → ByteArray → Bool → Option (Bool)
  | 0, _, _ => none
  | k + 1, x0, x21 => if x21 = true then (some false) else (r11_Name.l0 k x0 0)
def r11_Name.l0 : Nat → ByteArray → Int → Option (Bool)
  | 0, _, _ => none
  | k + 1, x0, x3 => if x3 < (x0.size : Int) then (if 0 ≤ x3 then (if (bt x0 x3) ≥ 97 then (if ((bt x0 x3) ≤ 122) then (r11_Name.l0 k x0 (wrap64 (x3 + 1))) else ((r02_Figure.f (bt x0 x3)).bind fun t217 => (if t217 = true then (r11_Name.l0 k x0 (wrap64 (x3 + 1))) else (if (bt x0 x3) = 45 then (r11_Name.l0 k x0 (wrap64 (x3 + 1))) else (some false))))) else ((r02_Figure.f (bt x0 x3)).bind fun t218 => (if t218 = true then (r11_Name.l0 k x0 (wrap64 (x3 + 1))) else (if (bt x0 x3) = 45 then (r11_Name.l0 k x0 (wrap64 (x3 + 1))) else (some false))))) else (none)) else (some true)
end
def r11_Name.f (k : Nat) (a0 : ByteArray) : Option (Bool) := if (a0.size : Int) < 1 then (r11_Name.j0 k a0 true) else (if (a0.size : Int) > 20 then (r11_Name.j0 k a0 true) else (if 0 < (a0.size : Int) then (if (bt a0 0) < 97 then (r11_Name.j0 k a0 true) else (r11_Name.j0 k a0 (decide ((bt a0 0) > 122)))) else (none)))
theorem r11_Name.calls (k : Nat) (a0 : ByteArray) (r : Bool) (w : World) (h : r11_Name.f k a0 = some r) :
  Calls Tryz.prog 59 #[.string a0] w fun e w' => e = .returned (.bool r) ∧ Drawn0 w w' := by
 have H := h;clear h;unfold r11_Name.f at H;have HC2 := Am H;clear H;go_enter Tryz.func59, Tryz.ntmps59
 go_upto_region 1 with (fail)
 go_cut [21] (fun v21 wc => ∃ (kq : Nat) (x21_1 : Bool), v21 = .bool x21_1 ∧ Aside0 (r11_Name.j0 kq a0 x21_1 = some r) ∧ Aside0 (kq ≤ k) ∧ Drawn0 w wc)
 case first =>
  have H := HC2.out;clear HC2
  by_cases c3 : (a0.size : Int) < 1
  ·rw [if_pos c3] at H;have c3b0 : decide ((a0.size : Int) < 1) = true := decide_eq_true c3;have c3b1 : decide (a0.size < 1) = true := decide_eq_true (by omega);clear c3;(first | rw [c3b0] | (simp only [i64_w, i32_w]; rw [c3b0]) | skip);have H' := Am H;clear H;go_wp2;go_meet
   case rel => exact ⟨_, (true), Rs, H', ⟨On⟩, by repeat (first | exact Drawn0.refl _ | apply Drawn0.step)⟩
  rw [if_neg c3] at H;have c3b0 : decide ((a0.size : Int) < 1) = false := decide_eq_false c3;have c3b1 : decide (a0.size < 1) = false := decide_eq_false (by omega);clear c3;(first | rw [c3b0] | (simp only [i64_w, i32_w]; rw [c3b0]) | skip)
  by_cases c4 : (a0.size : Int) > 20
  ·rw [if_pos c4] at H;have c4b0 : decide (20 < (a0.size : Int)) = true := decide_eq_true c4;have c4b1 : decide (20 < a0.size) = true := decide_eq_true (by omega);clear c4;have H' := Am H;clear H;go_wp2;go_meet
   case rel => exact ⟨_, (true), Rs, H', ⟨On⟩, by repeat (first | exact Drawn0.refl _ | apply Drawn0.step)⟩
  rw [if_neg c4] at H;have c4b0 : decide (20 < (a0.size : Int)) = false := decide_eq_false c4;have c4b1 : decide (20 < a0.size) = false := decide_eq_false (by omega);clear c4
  by_cases c5 : 0 < (a0.size : Int)
  ·rw [if_pos c5] at H;have c5b0 : decide (0 < (a0.size : Int)) = true := decide_eq_true c5;have c5b1 : decide (0 < a0.size) = true := decide_eq_true (by omega);clear c5
   by_cases c7 : (bt a0 0) < 97
   ·rw [if_pos c7] at H;have c7b0 : decide ((bt a0 0) < 97) = true := decide_eq_true c7;clear c7;have H' := Am H;clear H;have p6 : 0 ≤ (0 : Int) := (by omega);have q6 : 0 < a0.size := (by have : (0 : Int) < (a0.size : Int) := Od; omega);have hx6 : ∀ h : 0 < a0.size, ((a0[0]'h).toNat : Int) = bt a0 0 := bt_at a0 0;clear p6;have qi6 : (0 < (a0.size : Int)) = True := eq_true (Od);replace q6 := eq_true q6;go_wp2;go_meet
    case rel => exact ⟨_, (true), Rs, H', ⟨On⟩, by repeat (first | exact Drawn0.refl _ | apply Drawn0.step)⟩
   rw [if_neg c7] at H;have c7b0 : decide ((bt a0 0) < 97) = false := decide_eq_false c7;clear c7;have H' := Am H;clear H;have p6 : 0 ≤ (0 : Int) := (by omega);have q6 : 0 < a0.size := (by have : (0 : Int) < (a0.size : Int) := Od; omega);have hx6 : ∀ h : 0 < a0.size, ((a0[0]'h).toNat : Int) = bt a0 0 := bt_at a0 0;clear p6;have qi6 : (0 < (a0.size : Int)) = True := eq_true (Od);replace q6 := eq_true q6;have p8 : 0 ≤ (0 : Int) := (by omega);have q8 : 0 < a0.size := (by have : (0 : Int) < (a0.size : Int) := Od; omega);have hx8 : ∀ h : 0 < a0.size, ((a0[0]'h).toNat : Int) = bt a0 0 := bt_at a0 0;clear p8;have qi8 : (0 < (a0.size : Int)) = True := eq_true (Od);replace q8 := eq_true q8;go_wp2;go_meet
   case rel => exact ⟨_, (decide ((bt a0 0) > 122)), Rs, H', ⟨On⟩, by repeat (first | exact Drawn0.refl _ | apply Drawn0.step)⟩
  rw [if_neg c5] at H;exact absurd H (by simp)
 case rest =>
  clear HC2;(try clear p2);(try clear c3);(try clear c3b0);(try clear c3b1);(try clear c4);(try clear c4b0);(try clear c4b1);(try clear c5);(try clear c5b0);(try clear c5b1);(try clear p6);(try clear q6);(try clear hx6);(try clear qi6);(try clear c7);(try clear c7b0);(try clear p8);(try clear q8);(try clear hx8);(try clear qi8);(try clear p6);(try clear p8);(try clear q6);(try clear q8);obtain ⟨kq, x21_1, rfl, HA, HJ1, ⟨mc1, rfl⟩⟩ := hcut
  cases kq with
  | zero => exact absurd HA.out (by simp [r11_Name.j0])
  | succ kj1 =>
   have H := HA.out;clear HA;simp only [r11_Name.j0] at H
   by_cases c9 : x21_1 = true
   ·subst c9;rw [if_pos rfl] at H;obtain rfl := si H;go_wp2;go_ret;exact ⟨Rs, Dw⟩
   replace c9 := bf c9;subst c9;rw [if_neg (show ¬ (false = true) by decide)] at H;have H' := Am H;clear H;go_wp2
   go_loopg [3] kj1 (fun kq v3 w' => ∃ (x3_2 : Int), v3 = .int .i64 x3_2 ∧ Aside0 (r11_Name.l0 kq a0 x3_2 = some r) ∧ Aside0 (kq ≤ kj1) ∧ Drawn0 w w')
   case atStart => exact ⟨(0), Rs, H', ⟨Nat.le_refl _⟩, by repeat (first | exact Drawn0.refl _ | apply Drawn0.step)⟩
   case round =>
    clear H';(try clear c1);(try clear p2);(try clear c3);(try clear c3b0);(try clear c3b1);(try clear c4);(try clear c4b0);(try clear c4b1);(try clear c5);(try clear c5b0);(try clear c5b1);(try clear p6);(try clear q6);(try clear hx6);(try clear qi6);(try clear c7);(try clear c7b0);(try clear p8);(try clear q8);(try clear hx8);(try clear qi8);(try clear c9);(try clear p2);(try clear p6);(try clear p8);(try clear q6);(try clear q8);obtain ⟨x3_2, rfl, HA, HK2, ⟨m2, rfl⟩⟩ := hrel
    cases gk with
    | zero => exact absurd HA.out (by simp [r11_Name.l0])
    | succ k2 =>
     have H := HA.out;clear HA;simp only [r11_Name.l0] at H
     by_cases c10 : x3_2 < (a0.size : Int)
     ·rw [if_pos c10] at H;have c10b0 := decide_eq_true c10;clear c10
      by_cases c11 : 0 ≤ x3_2
      ·rw [if_pos c11] at H;have c11b0 := decide_eq_true c11;clear c11
       by_cases c13 : (bt a0 x3_2) ≥ 97
       ·rw [if_pos c13] at H;have c13b0 := dge c13;clear c13
        by_cases c15 : ((bt a0 x3_2) ≤ 122)
        ·rw [if_pos c15] at H;have c15b0 : decide ((bt a0 x3_2) ≤ 122) = true := decide_eq_true c15;clear c15;have H' := Am H;clear H;have p12 : 0 ≤ (x3_2 : Int) := Od;have q12 : x3_2 < (a0.size : Int) := Od;have hx12 := bt_at a0 x3_2;replace p12 := eq_true p12;replace q12 := eq_true q12;have p14 : 0 ≤ (x3_2 : Int) := Od;have q14 : x3_2 < (a0.size : Int) := Od;have hx14 := bt_at a0 x3_2;replace p14 := eq_true p14;replace q14 := eq_true q14;go_wp2;go_roundg k2
         case measure => have := HJ1.out; have := HK2.out; omega
         case rel => exact ⟨(wrap64 (x3_2 + 1)), Rs, H', ⟨by have := HJ1.out; have := HK2.out; omega⟩, by repeat (first | exact Drawn0.refl _ | apply Drawn0.step)⟩
        rw [if_neg c15] at H;have c15b0 : decide ((bt a0 x3_2) ≤ 122) = false := decide_eq_false c15;clear c15;obtain ⟨t217, A17, H⟩ := bx H;(try dsimp -simprocs only at H)
        by_cases c18 : t217 = true
        ·subst c18;rw [if_pos rfl] at H;have H' := Am H;clear H;have p12 : 0 ≤ (x3_2 : Int) := Od;have q12 : x3_2 < (a0.size : Int) := Od;have hx12 := bt_at a0 x3_2;replace p12 := eq_true p12;replace q12 := eq_true q12;have p14 : 0 ≤ (x3_2 : Int) := Od;have q14 : x3_2 < (a0.size : Int) := Od;have hx14 := bt_at a0 x3_2;replace p14 := eq_true p14;replace q14 := eq_true q14;have p16 : 0 ≤ (x3_2 : Int) := Od;have q16 : x3_2 < (a0.size : Int) := Od;have hx16 := bt_at a0 x3_2;replace p16 := eq_true p16;replace q16 := eq_true q16;go_wp2_with (first | (go_at_call 88; (with_reducible refine (r02_Figure.calls (bt a0 x3_2) true _ A17.out).mono ?_); rintro e w' ⟨rfl, ⟨nd, rfl⟩⟩));go_roundg k2
         case measure => have := HJ1.out; have := HK2.out; omega
         case rel => exact ⟨(wrap64 (x3_2 + 1)), Rs, H', ⟨by have := HJ1.out; have := HK2.out; omega⟩, by repeat (first | exact Drawn0.refl _ | apply Drawn0.step)⟩
        replace c18 := bf c18;subst c18;rw [if_neg (show ¬ (false = true) by decide)] at H
        by_cases c20 : (bt a0 x3_2) = 45
        ·rw [if_pos c20] at H;obtain ⟨c20b0, c20b1⟩ := eqb c20;clear c20;have H' := Am H;clear H;have p12 : 0 ≤ (x3_2 : Int) := Od;have q12 : x3_2 < (a0.size : Int) := Od;have hx12 := bt_at a0 x3_2;replace p12 := eq_true p12;replace q12 := eq_true q12;have p14 : 0 ≤ (x3_2 : Int) := Od;have q14 : x3_2 < (a0.size : Int) := Od;have hx14 := bt_at a0 x3_2;replace p14 := eq_true p14;replace q14 := eq_true q14;have p16 : 0 ≤ (x3_2 : Int) := Od;have q16 : x3_2 < (a0.size : Int) := Od;have hx16 := bt_at a0 x3_2;replace p16 := eq_true p16;replace q16 := eq_true q16;go_wp2_with (first | (go_at_call 88; (with_reducible refine (r02_Figure.calls (bt a0 x3_2) false _ A17.out).mono ?_); rintro e w' ⟨rfl, ⟨nd, rfl⟩⟩; have p19 : 0 ≤ (x3_2 : Int) := Od; have q19 : x3_2 < (a0.size : Int) := Od; have hx19 := bt_at a0 x3_2; replace p19 := eq_true p19; replace q19 := eq_true q19));go_roundg k2
         case measure => have := HJ1.out; have := HK2.out; omega
         case rel => exact ⟨(wrap64 (x3_2 + 1)), Rs, H', ⟨by have := HJ1.out; have := HK2.out; omega⟩, by repeat (first | exact Drawn0.refl _ | apply Drawn0.step)⟩
        rw [if_neg c20] at H;obtain ⟨c20b0, c20b1⟩ := neb c20;obtain rfl := si H;have p12 : 0 ≤ (x3_2 : Int) := Od;have q12 : x3_2 < (a0.size : Int) := Od;have hx12 := bt_at a0 x3_2;replace p12 := eq_true p12;replace q12 := eq_true q12;have p14 : 0 ≤ (x3_2 : Int) := Od;have q14 : x3_2 < (a0.size : Int) := Od;have hx14 := bt_at a0 x3_2;replace p14 := eq_true p14;replace q14 := eq_true q14;have p16 : 0 ≤ (x3_2 : Int) := Od;have q16 : x3_2 < (a0.size : Int) := Od;have hx16 := bt_at a0 x3_2;replace p16 := eq_true p16;replace q16 := eq_true q16;go_wp2_with (first | (go_at_call 88; (with_reducible refine (r02_Figure.calls (bt a0 x3_2) false _ A17.out).mono ?_); rintro e w' ⟨rfl, ⟨nd, rfl⟩⟩; have p19 : 0 ≤ (x3_2 : Int) := Od; have q19 : x3_2 < (a0.size : Int) := Od; have hx19 := bt_at a0 x3_2; replace p19 := eq_true p19; replace q19 := eq_true q19));go_ret;exact ⟨Rs, Dw⟩
       rw [if_neg c13] at H;have c13b0 := nge c13;clear c13;obtain ⟨t218, A22, H⟩ := bx H;(try dsimp -simprocs only at H)
       by_cases c23 : t218 = true
       ·subst c23;rw [if_pos rfl] at H;have H' := Am H;clear H;have p12 : 0 ≤ (x3_2 : Int) := Od;have q12 : x3_2 < (a0.size : Int) := Od;have hx12 := bt_at a0 x3_2;replace p12 := eq_true p12;replace q12 := eq_true q12;have p21 : 0 ≤ (x3_2 : Int) := Od;have q21 : x3_2 < (a0.size : Int) := Od;have hx21 := bt_at a0 x3_2;replace p21 := eq_true p21;replace q21 := eq_true q21;go_wp2_with (first | (go_at_call 88; (with_reducible refine (r02_Figure.calls (bt a0 x3_2) true _ A22.out).mono ?_); rintro e w' ⟨rfl, ⟨nd, rfl⟩⟩));go_roundg k2
        case measure => have := HJ1.out; have := HK2.out; omega
        case rel => exact ⟨(wrap64 (x3_2 + 1)), Rs, H', ⟨by have := HJ1.out; have := HK2.out; omega⟩, by repeat (first | exact Drawn0.refl _ | apply Drawn0.step)⟩
       replace c23 := bf c23;subst c23;rw [if_neg (show ¬ (false = true) by decide)] at H
       by_cases c25 : (bt a0 x3_2) = 45
       ·rw [if_pos c25] at H;obtain ⟨c25b0, c25b1⟩ := eqb c25;clear c25;have H' := Am H;clear H;have p12 : 0 ≤ (x3_2 : Int) := Od;have q12 : x3_2 < (a0.size : Int) := Od;have hx12 := bt_at a0 x3_2;replace p12 := eq_true p12;replace q12 := eq_true q12;have p21 : 0 ≤ (x3_2 : Int) := Od;have q21 : x3_2 < (a0.size : Int) := Od;have hx21 := bt_at a0 x3_2;replace p21 := eq_true p21;replace q21 := eq_true q21;go_wp2_with (first | (go_at_call 88; (with_reducible refine (r02_Figure.calls (bt a0 x3_2) false _ A22.out).mono ?_); rintro e w' ⟨rfl, ⟨nd, rfl⟩⟩; have p24 : 0 ≤ (x3_2 : Int) := Od; have q24 : x3_2 < (a0.size : Int) := Od; have hx24 := bt_at a0 x3_2; replace p24 := eq_true p24; replace q24 := eq_true q24));go_roundg k2
        case measure => have := HJ1.out; have := HK2.out; omega
        case rel => exact ⟨(wrap64 (x3_2 + 1)), Rs, H', ⟨by have := HJ1.out; have := HK2.out; omega⟩, by repeat (first | exact Drawn0.refl _ | apply Drawn0.step)⟩
       rw [if_neg c25] at H;obtain ⟨c25b0, c25b1⟩ := neb c25;obtain rfl := si H;have p12 : 0 ≤ (x3_2 : Int) := Od;have q12 : x3_2 < (a0.size : Int) := Od;have hx12 := bt_at a0 x3_2;replace p12 := eq_true p12;replace q12 := eq_true q12;have p21 : 0 ≤ (x3_2 : Int) := Od;have q21 : x3_2 < (a0.size : Int) := Od;have hx21 := bt_at a0 x3_2;replace p21 := eq_true p21;replace q21 := eq_true q21;go_wp2_with (first | (go_at_call 88; (with_reducible refine (r02_Figure.calls (bt a0 x3_2) false _ A22.out).mono ?_); rintro e w' ⟨rfl, ⟨nd, rfl⟩⟩; have p24 : 0 ≤ (x3_2 : Int) := Od; have q24 : x3_2 < (a0.size : Int) := Od; have hx24 := bt_at a0 x3_2; replace p24 := eq_true p24; replace q24 := eq_true q24));go_ret;exact ⟨Rs, Dw⟩
      rw [if_neg c11] at H;exact absurd H (by simp)
     rw [if_neg c10] at H;have c10b0 := decide_eq_false c10;clear c10;obtain rfl := si H;go_wp2;go_ret;exact ⟨Rs, Dw⟩

def r11_names.l0 : Nat → List ByteArray → Int → Option (Bool)
  | 0, _, _ => none
  | k + 1, x0, x3 => if x3 < (x0.length : Int) then (if 0 ≤ x3 then ((r11_Name.f k (rdOf ByteArray.empty x0 x3)).bind fun t220 => (if t220 = true then (if x3 ≤ (x0.length : Int) then ((r11_in.f k (x0.take (x3 : Int).toNat) (rdOf ByteArray.empty x0 x3)).bind fun t223 => (if t223 = true then (some false) else (r11_names.l0 k x0 (wrap64 (x3 + 1))))) else (none)) else (some false))) else (none)) else (some true)
def r11_names.f (k : Nat) (l0 : List ByteArray) : Option (Bool) := r11_names.l0 k l0 0
theorem r11_names.calls (k : Nat) (A0 : Option Addr) (c0 : Nat) (l0 : List ByteArray) (r : Bool) (w : World) (hr0 : Kd.C Kd.string w A0 l0.length l0) (hc0 : l0.length ≤ c0) (h : r11_names.f k l0 = some r) :
  Calls Tryz.prog 40 #[.slice A0 l0.length c0] w fun e w' => e = .returned (.bool r) ∧ Drawn0 w w' := by
 have HR0 := Am hr0;have HC0 := Am hc0;clear hr0 hc0;have H : (r11_names.l0 k l0 0) = some r := h;clear h;have H' := Am H;clear H;go_enter Tryz.func40, Tryz.ntmps40;go_wp2
 repeat (go_quiet (fail); try go_wp2)
 go_loopg [3] k (fun kq v3 w' => ∃ (x3_1 : Int), v3 = .int .i64 x3_1 ∧ Aside0 (r11_names.l0 kq l0 x3_1 = some r) ∧ Aside0 (kq ≤ k) ∧ Drawn0 w w')
 case atStart => exact ⟨(0), Rs, H', ⟨Nat.le_refl _⟩, by repeat (first | exact Drawn0.refl _ | apply Drawn0.step)⟩
 case round =>
  clear H';obtain ⟨x3_1, rfl, HA, HK1, ⟨m1, rfl⟩⟩ := hrel
  cases gk with
  | zero => exact absurd HA.out (by simp [r11_names.l0])
  | succ k1 =>
   have H := HA.out;clear HA;simp only [r11_names.l0] at H
   by_cases c2 : x3_1 < (l0.length : Int)
   ·rw [if_pos c2] at H;have c2b0 : decide (x3_1 < (l0.length : Int)) = true := decide_eq_true c2;clear c2
    by_cases c3 : 0 ≤ x3_1
    ·rw [if_pos c3] at H;have c3b0 : decide (0 ≤ x3_1) = true := decide_eq_true c3;clear c3;obtain ⟨t220, A4, H⟩ := bx H;(try dsimp -simprocs only at H)
     by_cases c5 : t220 = true
     ·subst c5;rw [if_pos rfl] at H;have c6b0 := eq_true (Od : 0 ≤ x3_1)
      by_cases c7 : x3_1 ≤ (l0.length : Int)
      ·rw [if_pos c7] at H;have c7b0 := eq_true c7;have c7b1 : decide (x3_1 ≤ (l0.length : Int)) = true := decide_eq_true c7;clear c7;obtain ⟨t223, A8, H⟩ := bx H;(try dsimp -simprocs only at H)
       by_cases c9 : t223 = true
       ·subst c9;rw [if_pos rfl] at H;obtain rfl := si H;have p219 : 0 ≤ (x3_1 : Int) := Od;have q219 : x3_1 < (l0.length : Int) := Od;obtain ⟨ad219, e219, hx219_0⟩ := Kd.at_string HR0.out x3_1 p219 q219;cases e219;replace p219 := eq_true p219;replace q219 := eq_true q219;obtain ⟨i010, hi010, _, hsz10, _⟩ := info_parts info9; obtain ⟨hcut10, hA10, hC10⟩ := print_take_of (P := Tryz.prog) Value.string (⟨#[]⟩ : ByteArray) 23 9 .i64 Tryz.underlying23 hi010 hsz10 (some ad219) c0 l0 x3_1 (Od) (Od) HC0.out; have HR221 := Am (Kd.C_of_reads (h1 := fun _ => rfl) (hA10 _ (Kd.reads_of_C HR0.out))); have HC221 := Am hC10; clear hA10 hC10 hi010 hsz10; generalize hs_ : l0.take (x3_1 : Int).toNat = s_ at hcut10 HR221 HC221 A8; clear hs_ c6b0 c7b0 c7b1;go_wp2_with (first | (go_at_call 59; (with_reducible refine (r11_Name.calls k1 (rdOf ByteArray.empty l0 x3_1) true _ A4.out).mono ?_); rintro e w' ⟨rfl, ⟨nd, rfl⟩⟩; (try first | exact ⟨rfl, _, World.drewN_drewN _ _ _⟩ | exact ⟨rfl, _, Eq.trans (World.drewN_drewN _ _ _) (congrArg (World.drewN _) (Nat.add_assoc _ _ _))⟩); have p222 : 0 ≤ (x3_1 : Int) := Od; have q222 : x3_1 < (l0.length : Int) := Od; obtain ⟨ad222, e222, hx222_0⟩ := Kd.at_string HR0.out x3_1 p222 q222; obtain rfl : ad219 = ad222 := (by injection e222); replace p222 := eq_true p222; replace q222 := eq_true q222) | (go_at_call 42; (with_reducible refine (r11_in.calls k1 _ _ s_ (rdOf ByteArray.empty l0 x3_1) true _ ?side1 HC221.out A8.out).mono ?_); (case side1 => exact Cd HR221.out); rintro e w' ⟨rfl, ⟨nd, rfl⟩⟩; (try first | exact ⟨rfl, _, World.drewN_drewN _ _ _⟩ | exact ⟨rfl, _, Eq.trans (World.drewN_drewN _ _ _) (congrArg (World.drewN _) (Nat.add_assoc _ _ _))⟩)))
        repeat (go_quiet (first | (go_at_call 59; (with_reducible refine (r11_Name.calls k1 (rdOf ByteArray.empty l0 x3_1) true _ A4.out).mono ?_); rintro e w' ⟨rfl, ⟨nd, rfl⟩⟩; (try first | exact ⟨rfl, _, World.drewN_drewN _ _ _⟩ | exact ⟨rfl, _, Eq.trans (World.drewN_drewN _ _ _) (congrArg (World.drewN _) (Nat.add_assoc _ _ _))⟩); have p222 : 0 ≤ (x3_1 : Int) := Od; have q222 : x3_1 < (l0.length : Int) := Od; obtain ⟨ad222, e222, hx222_0⟩ := Kd.at_string HR0.out x3_1 p222 q222; obtain rfl : ad219 = ad222 := (by injection e222); replace p222 := eq_true p222; replace q222 := eq_true q222) | (go_at_call 42; (with_reducible refine (r11_in.calls k1 _ _ s_ (rdOf ByteArray.empty l0 x3_1) true _ ?side1 HC221.out A8.out).mono ?_); (case side1 => exact Cd HR221.out); rintro e w' ⟨rfl, ⟨nd, rfl⟩⟩; (try first | exact ⟨rfl, _, World.drewN_drewN _ _ _⟩ | exact ⟨rfl, _, Eq.trans (World.drewN_drewN _ _ _) (congrArg (World.drewN _) (Nat.add_assoc _ _ _))⟩))); try go_wp2_with (first | (go_at_call 59; (with_reducible refine (r11_Name.calls k1 (rdOf ByteArray.empty l0 x3_1) true _ A4.out).mono ?_); rintro e w' ⟨rfl, ⟨nd, rfl⟩⟩; (try first | exact ⟨rfl, _, World.drewN_drewN _ _ _⟩ | exact ⟨rfl, _, Eq.trans (World.drewN_drewN _ _ _) (congrArg (World.drewN _) (Nat.add_assoc _ _ _))⟩); have p222 : 0 ≤ (x3_1 : Int) := Od; have q222 : x3_1 < (l0.length : Int) := Od; obtain ⟨ad222, e222, hx222_0⟩ := Kd.at_string HR0.out x3_1 p222 q222; obtain rfl : ad219 = ad222 := (by injection e222); replace p222 := eq_true p222; replace q222 := eq_true q222) | (go_at_call 42; (with_reducible refine (r11_in.calls k1 _ _ s_ (rdOf ByteArray.empty l0 x3_1) true _ ?side1 HC221.out A8.out).mono ?_); (case side1 => exact Cd HR221.out); rintro e w' ⟨rfl, ⟨nd, rfl⟩⟩; (try first | exact ⟨rfl, _, World.drewN_drewN _ _ _⟩ | exact ⟨rfl, _, Eq.trans (World.drewN_drewN _ _ _) (congrArg (World.drewN _) (Nat.add_assoc _ _ _))⟩))))
        go_ret;exact ⟨Rs, Dw⟩
       replace c9 := bf c9;subst c9;rw [if_neg (show ¬ (false = true) by decide)] at H;have H' := Am H;clear H;have p219 : 0 ≤ (x3_1 : Int) := Od;have q219 : x3_1 < (l0.length : Int) := Od;obtain ⟨ad219, e219, hx219_0⟩ := Kd.at_string HR0.out x3_1 p219 q219;cases e219;replace p219 := eq_true p219;replace q219 := eq_true q219;obtain ⟨i011, hi011, _, hsz11, _⟩ := info_parts info9; obtain ⟨hcut11, hA11, hC11⟩ := print_take_of (P := Tryz.prog) Value.string (⟨#[]⟩ : ByteArray) 23 9 .i64 Tryz.underlying23 hi011 hsz11 (some ad219) c0 l0 x3_1 (Od) (Od) HC0.out; have HR221 := Am (Kd.C_of_reads (h1 := fun _ => rfl) (hA11 _ (Kd.reads_of_C HR0.out))); have HC221 := Am hC11; clear hA11 hC11 hi011 hsz11; generalize hs_ : l0.take (x3_1 : Int).toNat = s_ at hcut11 HR221 HC221 A8; clear hs_ c6b0 c7b0 c7b1;go_wp2_with (first | (go_at_call 59; (with_reducible refine (r11_Name.calls k1 (rdOf ByteArray.empty l0 x3_1) true _ A4.out).mono ?_); rintro e w' ⟨rfl, ⟨nd, rfl⟩⟩; (try first | exact ⟨rfl, _, World.drewN_drewN _ _ _⟩ | exact ⟨rfl, _, Eq.trans (World.drewN_drewN _ _ _) (congrArg (World.drewN _) (Nat.add_assoc _ _ _))⟩); have p222 : 0 ≤ (x3_1 : Int) := Od; have q222 : x3_1 < (l0.length : Int) := Od; obtain ⟨ad222, e222, hx222_0⟩ := Kd.at_string HR0.out x3_1 p222 q222; obtain rfl : ad219 = ad222 := (by injection e222); replace p222 := eq_true p222; replace q222 := eq_true q222) | (go_at_call 42; (with_reducible refine (r11_in.calls k1 _ _ s_ (rdOf ByteArray.empty l0 x3_1) false _ ?side1 HC221.out A8.out).mono ?_); (case side1 => exact Cd HR221.out); rintro e w' ⟨rfl, ⟨nd, rfl⟩⟩; (try first | exact ⟨rfl, _, World.drewN_drewN _ _ _⟩ | exact ⟨rfl, _, Eq.trans (World.drewN_drewN _ _ _) (congrArg (World.drewN _) (Nat.add_assoc _ _ _))⟩)))
       repeat (go_quiet (first | (go_at_call 59; (with_reducible refine (r11_Name.calls k1 (rdOf ByteArray.empty l0 x3_1) true _ A4.out).mono ?_); rintro e w' ⟨rfl, ⟨nd, rfl⟩⟩; (try first | exact ⟨rfl, _, World.drewN_drewN _ _ _⟩ | exact ⟨rfl, _, Eq.trans (World.drewN_drewN _ _ _) (congrArg (World.drewN _) (Nat.add_assoc _ _ _))⟩); have p222 : 0 ≤ (x3_1 : Int) := Od; have q222 : x3_1 < (l0.length : Int) := Od; obtain ⟨ad222, e222, hx222_0⟩ := Kd.at_string HR0.out x3_1 p222 q222; obtain rfl : ad219 = ad222 := (by injection e222); replace p222 := eq_true p222; replace q222 := eq_true q222) | (go_at_call 42; (with_reducible refine (r11_in.calls k1 _ _ s_ (rdOf ByteArray.empty l0 x3_1) false _ ?side1 HC221.out A8.out).mono ?_); (case side1 => exact Cd HR221.out); rintro e w' ⟨rfl, ⟨nd, rfl⟩⟩; (try first | exact ⟨rfl, _, World.drewN_drewN _ _ _⟩ | exact ⟨rfl, _, Eq.trans (World.drewN_drewN _ _ _) (congrArg (World.drewN _) (Nat.add_assoc _ _ _))⟩))); try go_wp2_with (first | (go_at_call 59; (with_reducible refine (r11_Name.calls k1 (rdOf ByteArray.empty l0 x3_1) true _ A4.out).mono ?_); rintro e w' ⟨rfl, ⟨nd, rfl⟩⟩; (try first | exact ⟨rfl, _, World.drewN_drewN _ _ _⟩ | exact ⟨rfl, _, Eq.trans (World.drewN_drewN _ _ _) (congrArg (World.drewN _) (Nat.add_assoc _ _ _))⟩); have p222 : 0 ≤ (x3_1 : Int) := Od; have q222 : x3_1 < (l0.length : Int) := Od; obtain ⟨ad222, e222, hx222_0⟩ := Kd.at_string HR0.out x3_1 p222 q222; obtain rfl : ad219 = ad222 := (by injection e222); replace p222 := eq_true p222; replace q222 := eq_true q222) | (go_at_call 42; (with_reducible refine (r11_in.calls k1 _ _ s_ (rdOf ByteArray.empty l0 x3_1) false _ ?side1 HC221.out A8.out).mono ?_); (case side1 => exact Cd HR221.out); rintro e w' ⟨rfl, ⟨nd, rfl⟩⟩; (try first | exact ⟨rfl, _, World.drewN_drewN _ _ _⟩ | exact ⟨rfl, _, Eq.trans (World.drewN_drewN _ _ _) (congrArg (World.drewN _) (Nat.add_assoc _ _ _))⟩))))
       go_roundg k1
       case measure => have := HK1.out; omega
       case rel => exact ⟨(wrap64 (x3_1 + 1)), Rs, H', ⟨by have := HK1.out; omega⟩, by repeat (first | exact Drawn0.refl _ | apply Drawn0.step)⟩
      rw [if_neg c7] at H;exact absurd H (by simp)
     replace c5 := bf c5;subst c5;rw [if_neg (show ¬ (false = true) by decide)] at H;obtain rfl := si H;have p219 : 0 ≤ (x3_1 : Int) := Od;have q219 : x3_1 < (l0.length : Int) := Od;obtain ⟨ad219, e219, hx219_0⟩ := Kd.at_string HR0.out x3_1 p219 q219;cases e219;replace p219 := eq_true p219;replace q219 := eq_true q219;go_wp2_with (first | (go_at_call 59; (with_reducible refine (r11_Name.calls k1 (rdOf ByteArray.empty l0 x3_1) false _ A4.out).mono ?_); rintro e w' ⟨rfl, ⟨nd, rfl⟩⟩; (try first | exact ⟨rfl, _, World.drewN_drewN _ _ _⟩ | exact ⟨rfl, _, Eq.trans (World.drewN_drewN _ _ _) (congrArg (World.drewN _) (Nat.add_assoc _ _ _))⟩)))
     repeat (go_quiet (first | (go_at_call 59; (with_reducible refine (r11_Name.calls k1 (rdOf ByteArray.empty l0 x3_1) false _ A4.out).mono ?_); rintro e w' ⟨rfl, ⟨nd, rfl⟩⟩; (try first | exact ⟨rfl, _, World.drewN_drewN _ _ _⟩ | exact ⟨rfl, _, Eq.trans (World.drewN_drewN _ _ _) (congrArg (World.drewN _) (Nat.add_assoc _ _ _))⟩))); try go_wp2_with (first | (go_at_call 59; (with_reducible refine (r11_Name.calls k1 (rdOf ByteArray.empty l0 x3_1) false _ A4.out).mono ?_); rintro e w' ⟨rfl, ⟨nd, rfl⟩⟩; (try first | exact ⟨rfl, _, World.drewN_drewN _ _ _⟩ | exact ⟨rfl, _, Eq.trans (World.drewN_drewN _ _ _) (congrArg (World.drewN _) (Nat.add_assoc _ _ _))⟩))))
     go_ret;exact ⟨Rs, Dw⟩
    rw [if_neg c3] at H;exact absurd H (by simp)
   rw [if_neg c2] at H;have c2b0 : decide (x3_1 < (l0.length : Int)) = false := decide_eq_false c2;clear c2;obtain rfl := si H;go_wp2
   repeat (go_quiet (fail); try go_wp2)
   go_ret;exact ⟨Rs, Dw⟩

mutual
def r02_In.l0 : Nat → ByteArray → ByteArray → Int → Int → Option (Bool)
  | 0, _, _, _, _ => none
  | k + 1, x0, x1, x5, x6 => if x6 ≤ (x0.size : Int) then (if x6 = (x0.size : Int) then (r02_In.j1 k x0 x1 x5 x6 true) else (if 0 ≤ x6 then (if x6 < (x0.size : Int) then (r02_In.j1 k x0 x1 x5 x6 ((bt x0 x6) == 32)) else (none)) else (none))) else (some false)
def r02_In.j1 : Nat → ByteArray → ByteArray → Int → Int → Bool → Option (Bool)
  | 0, _, _, _, _, _ => none
  | k + 1, x0, x1, x5, x6, x22 => if x22 = true then (if 0 ≤ x5 then (if x5 ≤ x6 then (if x6 ≤ (x0.size : Int) then (if (x0.extract (x5 : Int).toNat (x6 : Int).toNat).toList = x1.toList then (some true) else (r02_In.l0 k x0 x1 (wrap64 (x6 + 1)) (wrap64 (x6 + 1)))) else (none)) else (none)) else (none)) else (r02_In.l0 k x0 x1 x5 (wrap64 (x6 + 1)))
end
def r02_In.f (k : Nat) (a0 : ByteArray) (a1 : ByteArray) : Option (Bool) := r02_In.l0 k a0 a1 0 0
theorem r02_In.calls (k : Nat) (a0 : ByteArray) (a1 : ByteArray) (r : Bool) (w : World) (h : r02_In.f k a0 a1 = some r) :
  Calls Tryz.prog 61 #[.string a0, .string a1] w fun e w' => e = .returned (.bool r) ∧ Drawn0 w w' := by
 have H : (r02_In.l0 k a0 a1 0 0) = some r := h;clear h;have H' := Am H;clear H;go_enter Tryz.func61, Tryz.ntmps61;go_wp2
 go_loopg [5, 6] k (fun kq v5 v6 w' => ∃ (x5_1 : Int) (x6_1 : Int), v5 = .int .i64 x5_1 ∧ v6 = .int .i64 x6_1 ∧ Aside0 (r02_In.l0 kq a0 a1 x5_1 x6_1 = some r) ∧ Aside0 (kq ≤ k) ∧ Drawn0 w w')
 case atStart => exact ⟨(0), (0), Rs, Rs, H', ⟨Nat.le_refl _⟩, by repeat (first | exact Drawn0.refl _ | apply Drawn0.step)⟩
 case round =>
  clear H';(try clear p2);obtain ⟨x5_1, x6_1, rfl, rfl, HA, HK1, ⟨m1, rfl⟩⟩ := hrel
  cases gk with
  | zero => exact absurd HA.out (by simp [r02_In.l0])
  | succ k1 =>
   have H := HA.out;clear HA;simp only [r02_In.l0] at H
   by_cases c3 : x6_1 ≤ (a0.size : Int)
   ·rw [if_pos c3] at H;have c3b0 := decide_eq_true c3;clear c3;have HC4 := Am H;clear H
    go_upto_region 5 with (fail)
    go_cut [22] (fun v22 wc => ∃ (kq : Nat) (x22_3 : Bool), v22 = .bool x22_3 ∧ Aside0 (r02_In.j1 kq a0 a1 x5_1 x6_1 x22_3 = some r) ∧ Aside0 (kq ≤ k1) ∧ Drawn0 w wc)
    case first =>
     have H := HC4.out;clear HC4
     by_cases c5 : x6_1 = (a0.size : Int)
     ·rw [if_pos c5] at H;obtain ⟨c5b0, c5b1⟩ := eqb c5;clear c5;(first | rw [c5b0] | (simp only [i64_w, i32_w]; rw [c5b0]) | skip);have H' := Am H;clear H;go_wp2;go_meet
      case rel => exact ⟨_, (true), Rs, H', ⟨by have := HK1.out; first | omega | exact Nat.le_refl _⟩, by repeat (first | exact Drawn0.refl _ | apply Drawn0.step)⟩
     rw [if_neg c5] at H;obtain ⟨c5b0, c5b1⟩ := neb c5;(first | rw [c5b0] | (simp only [i64_w, i32_w]; rw [c5b0]) | skip)
     by_cases c6 : 0 ≤ x6_1
     ·rw [if_pos c6] at H;have c6b0 := decide_eq_true c6;clear c6
      by_cases c7 : x6_1 < (a0.size : Int)
      ·rw [if_pos c7] at H;have c7b0 := decide_eq_true c7;clear c7;have H' := Am H;clear H;have p8 : 0 ≤ (x6_1 : Int) := Od;have q8 : x6_1 < (a0.size : Int) := Od;have hx8 := bt_at a0 x6_1;replace p8 := eq_true p8;replace q8 := eq_true q8;go_wp2;go_meet
       case rel => exact ⟨_, (((bt a0 x6_1) == 32)), Rs, H', ⟨by have := HK1.out; first | omega | exact Nat.le_refl _⟩, by repeat (first | exact Drawn0.refl _ | apply Drawn0.step)⟩
      rw [if_neg c7] at H;exact absurd H (by simp)
     rw [if_neg c6] at H;exact absurd H (by simp)
    case rest =>
     clear HC4;(try clear p2);(try clear c3);(try clear c3b0);(try clear c5);(try clear c5b0);(try clear c5b1);(try clear c6);(try clear c6b0);(try clear c7);(try clear c7b0);(try clear p8);(try clear q8);(try clear hx8);(try clear p2);(try clear p8);(try clear q8);obtain ⟨kq, x22_3, rfl, HA, HJ3, ⟨mc3, rfl⟩⟩ := hcut
     cases kq with
     | zero => exact absurd HA.out (by simp [r02_In.j1])
     | succ kj3 =>
      have H := HA.out;clear HA;simp only [r02_In.j1] at H
      by_cases c9 : x22_3 = true
      ·subst c9;rw [if_pos rfl] at H
       by_cases c10 : 0 ≤ x5_1
       ·rw [if_pos c10] at H;have c10b0 := eq_true c10;have c10b1 : decide (0 ≤ x5_1) = true := decide_eq_true c10;clear c10
        by_cases c11 : x5_1 ≤ x6_1
        ·rw [if_pos c11] at H;have c11b0 := eq_true c11;have c11b1 : decide (x5_1 ≤ x6_1) = true := decide_eq_true c11;clear c11
         by_cases c12 : x6_1 ≤ (a0.size : Int)
         ·rw [if_pos c12] at H;have c12b0 := eq_true c12;have c12b1 : decide (x6_1 ≤ (a0.size : Int)) = true := decide_eq_true c12;clear c12
          by_cases c13 : (a0.extract (x5_1 : Int).toNat (x6_1 : Int).toNat).toList = a1.toList
          ·rw [if_pos c13] at H;obtain ⟨c13b0, c13b1⟩ := eqb c13;clear c13;obtain rfl := si H;go_wp2;go_ret;exact ⟨Rs, Dw⟩
          rw [if_neg c13] at H;obtain ⟨c13b0, c13b1⟩ := neb c13;have H' := Am H;clear H;go_wp2;go_roundg kj3
          case measure => have := HK1.out; have := HJ3.out; omega
          case rel => exact ⟨(wrap64 (x6_1 + 1)), (wrap64 (x6_1 + 1)), Rs, Rs, H', ⟨by have := HK1.out; have := HJ3.out; omega⟩, by repeat (first | exact Drawn0.refl _ | apply Drawn0.step)⟩
         rw [if_neg c12] at H;exact absurd H (by simp)
        rw [if_neg c11] at H;exact absurd H (by simp)
       rw [if_neg c10] at H;exact absurd H (by simp)
      replace c9 := bf c9;subst c9;rw [if_neg (show ¬ (false = true) by decide)] at H;have H' := Am H;clear H;go_wp2;go_roundg kj3
      case measure => have := HK1.out; have := HJ3.out; omega
      case rel => exact ⟨(x5_1), (wrap64 (x6_1 + 1)), Rs, Rs, H', ⟨by have := HK1.out; have := HJ3.out; omega⟩, by repeat (first | exact Drawn0.refl _ | apply Drawn0.step)⟩
   rw [if_neg c3] at H;have c3b0 := decide_eq_false c3;clear c3;obtain rfl := si H;go_wp2;go_ret;exact ⟨Rs, Dw⟩

def r02_names.f (a0 : Int) : Option (List ByteArray) := if a0 = 1 then none else (if a0 = 2 then (some (([(⟨#[105, 102, 114, 97, 109, 101, 32, 110, 111, 101, 109, 98, 101, 100, 32, 110, 111, 102, 114, 97, 109, 101, 115, 32, 115, 99, 114, 105, 112, 116, 32, 115, 116, 121, 108, 101, 32, 120, 109, 112]⟩ : ByteArray)] : List ByteArray))) else (if a0 = 3 then (some (([(⟨#[116, 101, 120, 116, 97, 114, 101, 97, 32, 116, 105, 116, 108, 101]⟩ : ByteArray)] : List ByteArray))) else (if a0 = 5 then none else (if a0 = 7 then none else (if a0 = 6 then none else (if a0 = 8 then none else (if a0 = 9 then none else (if a0 = 11 then none else (if a0 = 12 then (some (([(⟨#[98, 111, 100, 121, 32, 102, 114, 97, 109, 101, 32, 102, 114, 97, 109, 101, 115, 101, 116, 32, 104, 101, 97, 100, 32, 104, 116, 109, 108]⟩ : ByteArray), (⟨#[99, 97, 112, 116, 105, 111, 110, 32, 99, 111, 108, 32, 99, 111, 108, 103, 114, 111, 117, 112, 32, 116, 98, 111, 100, 121, 32, 116, 100, 32, 116, 102, 111, 111, 116, 32, 116, 104, 32, 116, 104, 101, 97, 100, 32, 116, 114]⟩ : ByteArray)] : List ByteArray))) else (if a0 = 10 then none else (if a0 = 4 then none else (some ([] : List ByteArray)))))))))))))
theorem r02_names.calls (a0 : Int) (r : List ByteArray) (w : World) (h : r02_names.f a0 = some r) :
  Calls Tryz.prog 89 #[.int .i64 a0] w fun e w' => ∃ v0_ : Value, e = .returned (v0_) ∧ Kd.R Kd.string 9 w' w.heap.size (fun _ => True) v0_ r ∧ Below w.heap.size w w' := by
 have HB := Am (Below.refl w.heap.size w);have H := h;clear h;unfold r02_names.f at H
 by_cases c2 : a0 = 1
 ·rw [if_pos c2] at H;exact absurd H (by simp)
 rw [if_neg c2] at H;obtain ⟨c2b0, c2b1⟩ := neb c2
 by_cases c5 : a0 = 2
 ·rw [if_pos c5] at H;obtain ⟨c5b0, c5b1⟩ := eqb c5;clear c5;obtain ⟨y278, hy278⟩ : ∃ y_ : List ByteArray, y_ = (([(⟨#[105, 102, 114, 97, 109, 101, 32, 110, 111, 101, 109, 98, 101, 100, 32, 110, 111, 102, 114, 97, 109, 101, 115, 32, 115, 99, 114, 105, 112, 116, 32, 115, 116, 121, 108, 101, 32, 120, 109, 112]⟩ : ByteArray)] : List ByteArray)) := ⟨_, rfl⟩;replace H : (some y278) = some r := by first | (rw [hy278]; with_reducible exact H) | (have H2_ := (Option.bind_some _ _).symm.trans H; rw [hy278]; with_reducible exact H2_) | (have H2_ := (Option.bind_some _ _).symm.trans H; with_reducible exact H2_) | with_reducible exact H | (rw [hy278]; exact H) | exact H
  have Ny278 := Am hy278;clear hy278;obtain rfl := si H;go_enter Tryz.func89, Tryz.ntmps89;go_wp2_with (first | ((with_reducible refine gate_dst (N := 9) rfl ?_); refine Kd.R_lit Kd.string _ 9 ?hg (N := 9) ?hd (xs := ([(⟨#[105, 102, 114, 97, 109, 101, 32, 110, 111, 101, 109, 98, 101, 100, 32, 110, 111, 102, 114, 97, 109, 101, 115, 32, 115, 99, 114, 105, 112, 116, 32, 115, 116, 121, 108, 101, 32, 120, 109, 112]⟩ : ByteArray)] : List ByteArray)) (inner := [.string (⟨#[105, 102, 114, 97, 109, 101, 32, 110, 111, 101, 109, 98, 101, 100, 32, 110, 111, 102, 114, 97, 109, 101, 115, 32, 115, 99, 114, 105, 112, 116, 32, 115, 116, 121, 108, 101, 32, 120, 109, 112]⟩ : ByteArray)]) (ok := fun _ => True) (okp := fun _ => True) ?hr ?hp (fun _ hk => hk) trivial (Below.refl _ _) (Nat.le_refl _) (by simp) ?_; (case hd => rfl); (case hg => rfl); (case hr => first | (go_simp; done) | (go_simp; rfl)); (case hp => exact (Reps.one (show Kd.M Kd.string _ _ _ (⟨#[105, 102, 114, 97, 109, 101, 32, 110, 111, 101, 109, 98, 101, 100, 32, 110, 111, 102, 114, 97, 109, 101, 115, 32, 115, 99, 114, 105, 112, 116, 32, 115, 116, 121, 108, 101, 32, 120, 109, 112]⟩ : ByteArray) [.string (⟨#[105, 102, 114, 97, 109, 101, 32, 110, 111, 101, 109, 98, 101, 100, 32, 110, 111, 102, 114, 97, 109, 101, 115, 32, 115, 99, 114, 105, 112, 116, 32, 115, 116, 121, 108, 101, 32, 120, 109, 112]⟩ : ByteArray)] from rfl) (Reps.none _ _))); intro v279 w6 ho7 hb hg_ hnew_; clear hg_ hnew_; (first | rw [← Ny278.out] at ho7 | (simp only [Int.reduceToNat] at ho7; rw [← Ny278.out] at ho7)); replace HO280 := Am (Kd.R_lower ho7 (below_size Bw)); replace HB := Bs hb; clear hb ho7));go_ret;exact ⟨_, Re, by (with_reducible repeat (first | apply Kd.R_alloc | apply Kd.R_drewN | apply Kd.R_drew)); exact HO280.out, Bw⟩
 rw [if_neg c5] at H;obtain ⟨c5b0, c5b1⟩ := neb c5
 by_cases c8 : a0 = 3
 ·rw [if_pos c8] at H;obtain ⟨c8b0, c8b1⟩ := eqb c8;clear c8;obtain ⟨y281, hy281⟩ : ∃ y_ : List ByteArray, y_ = (([(⟨#[116, 101, 120, 116, 97, 114, 101, 97, 32, 116, 105, 116, 108, 101]⟩ : ByteArray)] : List ByteArray)) := ⟨_, rfl⟩;replace H : (some y281) = some r := by first | (rw [hy281]; with_reducible exact H) | (have H2_ := (Option.bind_some _ _).symm.trans H; rw [hy281]; with_reducible exact H2_) | (have H2_ := (Option.bind_some _ _).symm.trans H; with_reducible exact H2_) | with_reducible exact H | (rw [hy281]; exact H) | exact H
  have Ny281 := Am hy281;clear hy281;obtain rfl := si H;go_enter Tryz.func89, Tryz.ntmps89;go_wp2_with (first | ((with_reducible refine gate_dst (N := 12) rfl ?_); refine Kd.R_lit Kd.string _ 9 ?hg (N := 12) ?hd (xs := ([(⟨#[116, 101, 120, 116, 97, 114, 101, 97, 32, 116, 105, 116, 108, 101]⟩ : ByteArray)] : List ByteArray)) (inner := [.string (⟨#[116, 101, 120, 116, 97, 114, 101, 97, 32, 116, 105, 116, 108, 101]⟩ : ByteArray)]) (ok := fun _ => True) (okp := fun _ => True) ?hr ?hp (fun _ hk => hk) trivial (Below.refl _ _) (Nat.le_refl _) (by simp) ?_; (case hd => rfl); (case hg => rfl); (case hr => first | (go_simp; done) | (go_simp; rfl)); (case hp => exact (Reps.one (show Kd.M Kd.string _ _ _ (⟨#[116, 101, 120, 116, 97, 114, 101, 97, 32, 116, 105, 116, 108, 101]⟩ : ByteArray) [.string (⟨#[116, 101, 120, 116, 97, 114, 101, 97, 32, 116, 105, 116, 108, 101]⟩ : ByteArray)] from rfl) (Reps.none _ _))); intro v282 w9 ho10 hb hg_ hnew_; clear hg_ hnew_; (first | rw [← Ny281.out] at ho10 | (simp only [Int.reduceToNat] at ho10; rw [← Ny281.out] at ho10)); replace HO283 := Am (Kd.R_lower ho10 (below_size Bw)); replace HB := Bs hb; clear hb ho10));go_ret;exact ⟨_, Re, by (with_reducible repeat (first | apply Kd.R_alloc | apply Kd.R_drewN | apply Kd.R_drew)); exact HO283.out, Bw⟩
 rw [if_neg c8] at H;obtain ⟨c8b0, c8b1⟩ := neb c8
 by_cases c11 : a0 = 5
 ·rw [if_pos c11] at H;exact absurd H (by simp)
 rw [if_neg c11] at H;obtain ⟨c11b0, c11b1⟩ := neb c11
 by_cases c14 : a0 = 7
 ·rw [if_pos c14] at H;exact absurd H (by simp)
 rw [if_neg c14] at H;obtain ⟨c14b0, c14b1⟩ := neb c14
 by_cases c17 : a0 = 6
 ·rw [if_pos c17] at H;exact absurd H (by simp)
 rw [if_neg c17] at H;obtain ⟨c17b0, c17b1⟩ := neb c17
 by_cases c20 : a0 = 8
 ·rw [if_pos c20] at H;exact absurd H (by simp)
 rw [if_neg c20] at H;obtain ⟨c20b0, c20b1⟩ := neb c20
 by_cases c23 : a0 = 9
 ·rw [if_pos c23] at H;exact absurd H (by simp)
 rw [if_neg c23] at H;obtain ⟨c23b0, c23b1⟩ := neb c23
 by_cases c26 : a0 = 11
 ·rw [if_pos c26] at H;exact absurd H (by simp)
 rw [if_neg c26] at H;obtain ⟨c26b0, c26b1⟩ := neb c26
 by_cases c29 : a0 = 12
 ·rw [if_pos c29] at H;obtain ⟨c29b0, c29b1⟩ := eqb c29;clear c29;obtain ⟨y302, hy302⟩ : ∃ y_ : List ByteArray, y_ = (([(⟨#[98, 111, 100, 121, 32, 102, 114, 97, 109, 101, 32, 102, 114, 97, 109, 101, 115, 101, 116, 32, 104, 101, 97, 100, 32, 104, 116, 109, 108]⟩ : ByteArray), (⟨#[99, 97, 112, 116, 105, 111, 110, 32, 99, 111, 108, 32, 99, 111, 108, 103, 114, 111, 117, 112, 32, 116, 98, 111, 100, 121, 32, 116, 100, 32, 116, 102, 111, 111, 116, 32, 116, 104, 32, 116, 104, 101, 97, 100, 32, 116, 114]⟩ : ByteArray)] : List ByteArray)) := ⟨_, rfl⟩;replace H : (some y302) = some r := by first | (rw [hy302]; with_reducible exact H) | (have H2_ := (Option.bind_some _ _).symm.trans H; rw [hy302]; with_reducible exact H2_) | (have H2_ := (Option.bind_some _ _).symm.trans H; with_reducible exact H2_) | with_reducible exact H | (rw [hy302]; exact H) | exact H
  have Ny302 := Am hy302;clear hy302;obtain rfl := si H;go_enter Tryz.func89, Tryz.ntmps89;go_wp2_with (first | ((with_reducible refine gate_dst (N := 33) rfl ?_); refine Kd.R_lit Kd.string _ 9 ?hg (N := 33) ?hd (xs := ([(⟨#[98, 111, 100, 121, 32, 102, 114, 97, 109, 101, 32, 102, 114, 97, 109, 101, 115, 101, 116, 32, 104, 101, 97, 100, 32, 104, 116, 109, 108]⟩ : ByteArray), (⟨#[99, 97, 112, 116, 105, 111, 110, 32, 99, 111, 108, 32, 99, 111, 108, 103, 114, 111, 117, 112, 32, 116, 98, 111, 100, 121, 32, 116, 100, 32, 116, 102, 111, 111, 116, 32, 116, 104, 32, 116, 104, 101, 97, 100, 32, 116, 114]⟩ : ByteArray)] : List ByteArray)) (inner := [.string (⟨#[98, 111, 100, 121, 32, 102, 114, 97, 109, 101, 32, 102, 114, 97, 109, 101, 115, 101, 116, 32, 104, 101, 97, 100, 32, 104, 116, 109, 108]⟩ : ByteArray), .string (⟨#[99, 97, 112, 116, 105, 111, 110, 32, 99, 111, 108, 32, 99, 111, 108, 103, 114, 111, 117, 112, 32, 116, 98, 111, 100, 121, 32, 116, 100, 32, 116, 102, 111, 111, 116, 32, 116, 104, 32, 116, 104, 101, 97, 100, 32, 116, 114]⟩ : ByteArray)]) (ok := fun _ => True) (okp := fun _ => True) ?hr ?hp (fun _ hk => hk) trivial (Below.refl _ _) (Nat.le_refl _) (by simp) ?_; (case hd => rfl); (case hg => rfl); (case hr => first | (go_simp; done) | (go_simp; rfl)); (case hp => exact (Reps.one (show Kd.M Kd.string _ _ _ (⟨#[98, 111, 100, 121, 32, 102, 114, 97, 109, 101, 32, 102, 114, 97, 109, 101, 115, 101, 116, 32, 104, 101, 97, 100, 32, 104, 116, 109, 108]⟩ : ByteArray) [.string (⟨#[98, 111, 100, 121, 32, 102, 114, 97, 109, 101, 32, 102, 114, 97, 109, 101, 115, 101, 116, 32, 104, 101, 97, 100, 32, 104, 116, 109, 108]⟩ : ByteArray)] from rfl) (Reps.one (show Kd.M Kd.string _ _ _ (⟨#[99, 97, 112, 116, 105, 111, 110, 32, 99, 111, 108, 32, 99, 111, 108, 103, 114, 111, 117, 112, 32, 116, 98, 111, 100, 121, 32, 116, 100, 32, 116, 102, 111, 111, 116, 32, 116, 104, 32, 116, 104, 101, 97, 100, 32, 116, 114]⟩ : ByteArray) [.string (⟨#[99, 97, 112, 116, 105, 111, 110, 32, 99, 111, 108, 32, 99, 111, 108, 103, 114, 111, 117, 112, 32, 116, 98, 111, 100, 121, 32, 116, 100, 32, 116, 102, 111, 111, 116, 32, 116, 104, 32, 116, 104, 101, 97, 100, 32, 116, 114]⟩ : ByteArray)] from rfl) (Reps.none _ _)))); intro v303 w30 ho31 hb hg_ hnew_; clear hg_ hnew_; (first | rw [← Ny302.out] at ho31 | (simp only [Int.reduceToNat] at ho31; rw [← Ny302.out] at ho31)); replace HO304 := Am (Kd.R_lower ho31 (below_size Bw)); replace HB := Bs hb; clear hb ho31))
  go_ret;exact ⟨_, Re, by (with_reducible repeat (first | apply Kd.R_alloc | apply Kd.R_drewN | apply Kd.R_drew)); exact HO304.out, Bw⟩
 rw [if_neg c29] at H;obtain ⟨c29b0, c29b1⟩ := neb c29
 by_cases c32 : a0 = 10
 ·rw [if_pos c32] at H;exact absurd H (by simp)
 rw [if_neg c32] at H;obtain ⟨c32b0, c32b1⟩ := neb c32
 by_cases c35 : a0 = 4
 ·rw [if_pos c35] at H;exact absurd H (by simp)
 rw [if_neg c35] at H;obtain ⟨c35b0, c35b1⟩ := neb c35;obtain rfl := si H;go_enter Tryz.func89, Tryz.ntmps89;go_wp2;go_ret;exact ⟨_, Re, by first | exact Kd.R_nil _ _ _ _ _ | exact Kd.N_nil _ _ _ _ _ | exact Kd.V_nil _ _ _ _ _ | exact Kd.Q_nil _ _ _ _ _ | exact Kd.S_nil _ _ _ _ _, Bw⟩


def r02_Is.l0 : Nat → ByteArray → List ByteArray → Int → Option (Bool)
  | 0, _, _, _ => none
  | k + 1, x1, x5, x6 => if x6 < (x5.length : Int) then (if 0 ≤ x6 then ((r02_In.f k (rdOf ByteArray.empty x5 x6) x1).bind fun t228 => (if t228 = true then (some true) else (r02_Is.l0 k x1 x5 (wrap64 (x6 + 1))))) else (none)) else (some false)
def r02_Is.f (k : Nat) (a0 : Int) (a1 : ByteArray) : Option (Bool) := (r02_names.f a0).bind fun t224 => (r02_Is.l0 k a1 t224 0)
theorem r02_Is.calls (k : Nat) (a0 : Int) (a1 : ByteArray) (r : Bool) (w : World) (h : r02_Is.f k a0 a1 = some r) :
  Calls Tryz.prog 60 #[.int .i64 a0, .string a1] w fun e w' => e = .returned (.bool r) ∧ Below w.heap.size w w' := by
 have HB := Am (Below.refl w.heap.size w);have H := h;clear h;unfold r02_Is.f at H;obtain ⟨t224, A3, H⟩ := bx H;replace H : (r02_Is.l0 k a1 t224 0) = some r := H;have H' := Am H;clear H;go_enter Tryz.func60, Tryz.ntmps60;go_wp2_with (first | ((with_reducible refine gate_callee (f := 89) rfl ?_); refine goL (some 8) Tryz.func89 #[.int .i64 a0] ?_; (with_reducible refine (r02_names.calls a0 t224 _ A3.out).mono ?_); rintro e w4 ⟨v225, rfl, ho0, hb⟩; refine ⟨_, rfl, ?_⟩; replace HO226 := Am (Kd.R_lower ho0 (below_size Bw)); replace HB := Bs hb; (try clear hb); (try clear hb2); (try clear hk); (try clear hi); (try clear ho0)))
 go_loopg [6] k (fun kq v6 w' => ∃ (x6_1 : Int), v6 = .int .i64 x6_1 ∧ Aside0 (r02_Is.l0 kq a1 t224 x6_1 = some r) ∧ Aside0 (kq ≤ k) ∧ Aside0 (Kd.R Kd.string 9 w' w.heap.size (fun _ => True) v225 t224) ∧ Aside0 (Below w.heap.size w w'))
 case atStart => exact ⟨(0), Rs, H', ⟨Nat.le_refl _⟩, ⟨by (with_reducible repeat (first | apply Kd.R_alloc | apply Kd.R_drewN | apply Kd.R_drew)); exact HO226.out⟩, ⟨Bw⟩⟩
 case round =>
  clear H';(try clear p2);obtain ⟨x6_1, rfl, HA, HK1, HO_5, HB⟩ := hrel
  cases gk with
  | zero => exact absurd HA.out (by simp [r02_Is.l0])
  | succ k1 =>
   have H := HA.out;clear HA;simp only [r02_Is.l0] at H
   by_cases c5 : x6_1 < (t224.length : Int)
   ·rw [if_pos c5] at H;have c5b0 : decide (x6_1 < (t224.length : Int)) = true := decide_eq_true c5;clear c5
    by_cases c6 : 0 ≤ x6_1
    ·rw [if_pos c6] at H;have c6b0 := decide_eq_true c6;clear c6;obtain ⟨t228, A7, H⟩ := bx H;(try dsimp -simprocs only at H)
     by_cases c8 : t228 = true
     ·subst c8;rw [if_pos rfl] at H;obtain rfl := si H;obtain ⟨Ao9, co9, eo9⟩ := Kd.R_slice HO_5.out;subst eo9;have p227 : 0 ≤ (x6_1 : Int) := Od;have q227 : x6_1 < (t224.length : Int) := Od;obtain ⟨ad227, e227, hx227_0⟩ := Kd.at_string (Kd.R_reads' HO_5.out).2.2 x6_1 p227 q227;cases e227;replace p227 := eq_true p227;replace q227 := eq_true q227;go_wp2_with (first | ((with_reducible refine gate_callee (f := 61) rfl ?_); refine goL (some 20) Tryz.func61 #[.string (rdOf ByteArray.empty t224 x6_1), .string a1] ?_; (with_reducible refine (r02_In.calls k1 (rdOf ByteArray.empty t224 x6_1) a1 true _ A7.out).mono ?_); rintro e w' ⟨rfl, ⟨nd, rfl⟩⟩; refine ⟨_, rfl, ?_⟩));go_ret;exact ⟨Re, Bw⟩
     replace c8 := bf c8;subst c8;rw [if_neg (show ¬ (false = true) by decide)] at H;have H' := Am H;clear H;obtain ⟨Ao10, co10, eo10⟩ := Kd.R_slice HO_5.out;subst eo10;have p227 : 0 ≤ (x6_1 : Int) := Od;have q227 : x6_1 < (t224.length : Int) := Od;obtain ⟨ad227, e227, hx227_0⟩ := Kd.at_string (Kd.R_reads' HO_5.out).2.2 x6_1 p227 q227;cases e227;replace p227 := eq_true p227;replace q227 := eq_true q227;go_wp2_with (first | ((with_reducible refine gate_callee (f := 61) rfl ?_); refine goL (some 20) Tryz.func61 #[.string (rdOf ByteArray.empty t224 x6_1), .string a1] ?_; (with_reducible refine (r02_In.calls k1 (rdOf ByteArray.empty t224 x6_1) a1 false _ A7.out).mono ?_); rintro e w' ⟨rfl, ⟨nd, rfl⟩⟩; refine ⟨_, rfl, ?_⟩));go_roundg k1
     case measure => have := HK1.out; omega
     case rel => exact ⟨(wrap64 (x6_1 + 1)), Rs, H', ⟨by have := HK1.out; omega⟩, ⟨by (with_reducible repeat (first | apply Kd.R_alloc | apply Kd.R_drewN | apply Kd.R_drew)); exact HO_5.out⟩, ⟨Bw⟩⟩
    rw [if_neg c6] at H;exact absurd H (by simp)
   rw [if_neg c5] at H;have c5b0 : decide (x6_1 < (t224.length : Int)) = false := decide_eq_false c5;clear c5;obtain rfl := si H;obtain ⟨Ao11, co11, eo11⟩ := Kd.R_slice HO_5.out;subst eo11;go_wp2;go_ret;exact ⟨Re, Bw⟩

mutual
def r11_rule.j0 : Nat → Bool → ByteArray → List ByteArray → Option (Bool)
  | 0, _, _, _ => none
  | k + 1, x29, x230000, x230001 => if x29 = true then (some false) else (r11_rule.l0 k 0 x230000 x230001)
def r11_rule.l0 : Nat → Int → ByteArray → List ByteArray → Option (Bool)
  | 0, _, _, _ => none
  | k + 1, x3, x230000, x230001 => if x3 < (x230001.length : Int) then (if 0 ≤ x3 then (if (rdOf ByteArray.empty x230001 x3).toList = ([115, 116, 121, 108, 101] : List UInt8) then (some false) else (if (rdOf ByteArray.empty x230001 x3).toList = ([115, 114, 99, 100, 111, 99] : List UInt8) then (some false) else (if ((rdOf ByteArray.empty x230001 x3).size : Int) ≥ 2 then (if 0 ≤ 2 then (if 2 ≤ ((rdOf ByteArray.empty x230001 x3).size : Int) then (if ((rdOf ByteArray.empty x230001 x3).extract 0 2).toList = ([111, 110] : List UInt8) then (some false) else (r11_rule.l0 k (wrap64 (x3 + 1)) x230000 x230001)) else (none)) else (none)) else (r11_rule.l0 k (wrap64 (x3 + 1)) x230000 x230001)))) else (none)) else ((r02_In.f k (⟨#[109, 97, 116, 104, 32, 110, 111, 115, 99, 114, 105, 112, 116, 32, 112, 108, 97, 105, 110, 116, 101, 120, 116, 32, 115, 118, 103, 32, 116, 101, 109, 112, 108, 97, 116, 101]⟩ : ByteArray) x230000).bind fun t236 => (some (!t236)))
end
def r11_rule.f (k : Nat) (a0_0 : ByteArray) (l0_1 : List ByteArray) : Option (Bool) := (r11_Name.f k a0_0).bind fun t230 => (if t230 = true then ((r11_names.f k l0_1).bind fun t231 => (if t231 = true then ((r02_Is.f k 2 a0_0).bind fun t232 => (if t232 = true then (r11_rule.j0 k true a0_0 l0_1) else ((r02_Is.f k 3 a0_0).bind fun t233 => (if t233 = true then (r11_rule.j0 k true a0_0 l0_1) else ((r02_Is.f k 12 a0_0).bind fun t234 => (r11_rule.j0 k t234 a0_0 l0_1)))))) else (r11_rule.j0 k true a0_0 l0_1))) else (r11_rule.j0 k true a0_0 l0_1))
theorem r11_rule.calls (k : Nat) (a0_0 : ByteArray) (A0_1 : Option Addr) (c0_1 : Nat) (l0_1 : List ByteArray) (r : Bool) (w : World) (hr0_1 : Kd.C Kd.string w A0_1 l0_1.length l0_1) (hc0_1 : l0_1.length ≤ c0_1) (h : r11_rule.f k a0_0 l0_1 = some r) :
  Calls Tryz.prog 41 #[.agg #[.string a0_0, .slice A0_1 l0_1.length c0_1]] w fun e w' => e = .returned (.bool r) ∧ Below w.heap.size w w' := by
 have hu38 := Tryz.underlying38;have HR0_1 := Am hr0_1;have HC0_1 := Am hc0_1;clear hr0_1 hc0_1;have HB := Am (Below.refl w.heap.size w);have H := h;clear h;unfold r11_rule.f at H;have HC2 := Am H;clear H;go_enter Tryz.func41, Tryz.ntmps41
 go_upto_region 1 with (first | ((with_reducible refine gate_dst (N := 1) rfl ?_); (try (refine gate_guard (by rfl) ?_; dsimp only)); refine box5 38 1 (cs := #[.string a0_0, .slice A0_1 l0_1.length c0_1]) ?_; clear HB; intro gb229 w3 HB BK229 GE229))
 (try simp only [Act.put, List.setIfInBounds_toArray, List.set_cons_zero, List.set_cons_succ])
 go_cut [29] (fun v29 wc => ∃ (kq : Nat) (x29_1 : Bool), v29 = .bool x29_1 ∧ Aside0 (r11_rule.j0 kq x29_1 a0_0 l0_1 = some r) ∧ Aside0 (kq ≤ k) ∧ Aside0 (wc.heap[gb229]? = some (.cells #[.string a0_0, (.slice A0_1 l0_1.length c0_1)] 38 (0, 0))) ∧ Aside0 (Below w.heap.size w wc))
 case first =>
  have H := HC2.out;clear HC2;obtain ⟨t230, A4, H⟩ := bx H;(try dsimp -simprocs only at H)
  by_cases c5 : t230 = true
  ·subst c5;rw [if_pos rfl] at H;obtain ⟨t231, A6, H⟩ := bx H;(try dsimp -simprocs only at H)
   by_cases c7 : t231 = true
   ·subst c7;rw [if_pos rfl] at H;obtain ⟨t232, A8, H⟩ := bx H;(try dsimp -simprocs only at H)
    by_cases c9 : t232 = true
    ·subst c9;rw [if_pos rfl] at H;have H' := Am H;clear H;obtain ⟨Z10_0, Z10_1, Y10_0, Y10_1⟩ := cells2 BK229;go_wp2_with (first | ((with_reducible refine gate_callee (f := 59) rfl ?_); refine goL (some 7) Tryz.func59 #[.string a0_0] ?_; (with_reducible refine (r11_Name.calls k a0_0 true _ A4.out).mono ?_); rintro e w' ⟨rfl, ⟨nd, rfl⟩⟩; refine ⟨_, rfl, ?_⟩) | (go_at_call 40; (with_reducible refine (r11_names.calls k _ _ l0_1 true _ ?side1 HC0_1.out A6.out).mono ?_); (case side1 => exact Cd (Kd.C_below HR0_1.out Bw)); rintro e w' ⟨rfl, ⟨nd, rfl⟩⟩) | (go_at_call 60; (with_reducible refine (r02_Is.calls k 2 a0_0 true _ A8.out).mono ?_); rintro e w11 ⟨rfl, hb⟩; replace BK229 := Bb BK229 hb; replace HB := Bs hb; clear hb));go_meet
     case rel => exact ⟨_, (true), Rs, H', ⟨On⟩, ⟨(Bk BK229)⟩, ⟨Bw⟩⟩
    replace c9 := bf c9;subst c9;rw [if_neg (show ¬ (false = true) by decide)] at H;obtain ⟨t233, A12, H⟩ := bx H;(try dsimp -simprocs only at H)
    by_cases c13 : t233 = true
    ·subst c13;rw [if_pos rfl] at H;have H' := Am H;clear H;obtain ⟨Z14_0, Z14_1, Y14_0, Y14_1⟩ := cells2 BK229;go_wp2_with (first | ((with_reducible refine gate_callee (f := 59) rfl ?_); refine goL (some 7) Tryz.func59 #[.string a0_0] ?_; (with_reducible refine (r11_Name.calls k a0_0 true _ A4.out).mono ?_); rintro e w' ⟨rfl, ⟨nd, rfl⟩⟩; refine ⟨_, rfl, ?_⟩) | (go_at_call 40; (with_reducible refine (r11_names.calls k _ _ l0_1 true _ ?side1 HC0_1.out A6.out).mono ?_); (case side1 => exact Cd (Kd.C_below HR0_1.out Bw)); rintro e w' ⟨rfl, ⟨nd, rfl⟩⟩) | (go_at_call 60; (with_reducible refine (r02_Is.calls k 2 a0_0 false _ A8.out).mono ?_); rintro e w15 ⟨rfl, hb⟩; replace BK229 := Bb BK229 hb; replace HB := Bs hb; clear hb; obtain ⟨Z16_0, Z16_1, Y16_0, Y16_1⟩ := cells2 BK229) | (go_at_call 60; (with_reducible refine (r02_Is.calls k 3 a0_0 true _ A12.out).mono ?_); rintro e w17 ⟨rfl, hb⟩; replace BK229 := Bb BK229 hb; replace HB := Bs hb; clear hb));go_meet
     case rel => exact ⟨_, (true), Rs, H', ⟨On⟩, ⟨(Bk BK229)⟩, ⟨Bw⟩⟩
    replace c13 := bf c13;subst c13;rw [if_neg (show ¬ (false = true) by decide)] at H;obtain ⟨t234, A18, H⟩ := bx H;replace H : (r11_rule.j0 k t234 a0_0 l0_1) = some r := H;have H' := Am H;clear H;obtain ⟨Z19_0, Z19_1, Y19_0, Y19_1⟩ := cells2 BK229;go_wp2_with (first | ((with_reducible refine gate_callee (f := 59) rfl ?_); refine goL (some 7) Tryz.func59 #[.string a0_0] ?_; (with_reducible refine (r11_Name.calls k a0_0 true _ A4.out).mono ?_); rintro e w' ⟨rfl, ⟨nd, rfl⟩⟩; refine ⟨_, rfl, ?_⟩) | (go_at_call 40; (with_reducible refine (r11_names.calls k _ _ l0_1 true _ ?side1 HC0_1.out A6.out).mono ?_); (case side1 => exact Cd (Kd.C_below HR0_1.out Bw)); rintro e w' ⟨rfl, ⟨nd, rfl⟩⟩) | (go_at_call 60; (with_reducible refine (r02_Is.calls k 2 a0_0 false _ A8.out).mono ?_); rintro e w20 ⟨rfl, hb⟩; replace BK229 := Bb BK229 hb; replace HB := Bs hb; clear hb; obtain ⟨Z21_0, Z21_1, Y21_0, Y21_1⟩ := cells2 BK229) | (go_at_call 60; (with_reducible refine (r02_Is.calls k 3 a0_0 false _ A12.out).mono ?_); rintro e w22 ⟨rfl, hb⟩; replace BK229 := Bb BK229 hb; replace HB := Bs hb; clear hb; obtain ⟨Z23_0, Z23_1, Y23_0, Y23_1⟩ := cells2 BK229) | (go_at_call 60; (with_reducible refine (r02_Is.calls k 12 a0_0 t234 _ A18.out).mono ?_); rintro e w24 ⟨rfl, hb⟩; replace BK229 := Bb BK229 hb; replace HB := Bs hb; clear hb));go_meet
    case rel => exact ⟨_, (t234), Rs, H', ⟨On⟩, ⟨(Bk BK229)⟩, ⟨Bw⟩⟩
   replace c7 := bf c7;subst c7;rw [if_neg (show ¬ (false = true) by decide)] at H;have H' := Am H;clear H;obtain ⟨Z25_0, Z25_1, Y25_0, Y25_1⟩ := cells2 BK229;go_wp2_with (first | ((with_reducible refine gate_callee (f := 59) rfl ?_); refine goL (some 7) Tryz.func59 #[.string a0_0] ?_; (with_reducible refine (r11_Name.calls k a0_0 true _ A4.out).mono ?_); rintro e w' ⟨rfl, ⟨nd, rfl⟩⟩; refine ⟨_, rfl, ?_⟩) | (go_at_call 40; (with_reducible refine (r11_names.calls k _ _ l0_1 false _ ?side1 HC0_1.out A6.out).mono ?_); (case side1 => exact Cd (Kd.C_below HR0_1.out Bw)); rintro e w' ⟨rfl, ⟨nd, rfl⟩⟩));go_meet
   case rel => exact ⟨_, (true), Rs, H', ⟨On⟩, ⟨(Bk BK229)⟩, ⟨Bw⟩⟩
  replace c5 := bf c5;subst c5;rw [if_neg (show ¬ (false = true) by decide)] at H;have H' := Am H;clear H;obtain ⟨Z26_0, Z26_1, Y26_0, Y26_1⟩ := cells2 BK229;go_wp2_with (first | ((with_reducible refine gate_callee (f := 59) rfl ?_); refine goL (some 7) Tryz.func59 #[.string a0_0] ?_; (with_reducible refine (r11_Name.calls k a0_0 false _ A4.out).mono ?_); rintro e w' ⟨rfl, ⟨nd, rfl⟩⟩; refine ⟨_, rfl, ?_⟩));go_meet
  case rel => exact ⟨_, (true), Rs, H', ⟨On⟩, ⟨(Bk BK229)⟩, ⟨Bw⟩⟩
 case rest =>
  clear HC2;(try clear c1);(try clear p2);(try clear c4);(try clear c5);(try clear c7);(try clear c9);(try clear c13);(try clear Z10_0 Z10_1);(try clear Z14_0 Z14_1);(try clear Z16_0 Z16_1);(try clear Z19_0 Z19_1);(try clear Z21_0 Z21_1);(try clear Z23_0 Z23_1);(try clear Z25_0 Z25_1);(try clear Z26_0 Z26_1);(try clear Y10_0 Y10_1);(try clear Y14_0 Y14_1);(try clear Y16_0 Y16_1);(try clear Y19_0 Y19_1);(try clear Y21_0 Y21_1);(try clear Y23_0 Y23_1);(try clear Y25_0 Y25_1);(try clear Y26_0 Y26_1);obtain ⟨kq, x29_1, rfl, HA, HJ1, BK229, HB⟩ := hcut
  cases kq with
  | zero => exact absurd HA.out (by simp [r11_rule.j0])
  | succ kj1 =>
   have H := HA.out;clear HA;simp only [r11_rule.j0] at H
   by_cases c27 : x29_1 = true
   ·subst c27;rw [if_pos rfl] at H;obtain rfl := si H;go_wp2;go_ret;exact ⟨Re, Bw⟩
   replace c27 := bf c27;subst c27;rw [if_neg (show ¬ (false = true) by decide)] at H;have H' := Am H;clear H;go_wp2
   go_loopg [3] kj1 (fun kq v3 w' => ∃ (x3_2 : Int), v3 = .int .i64 x3_2 ∧ Aside0 (r11_rule.l0 kq x3_2 a0_0 l0_1 = some r) ∧ Aside0 (kq ≤ kj1) ∧ Aside0 (w'.heap[gb229]? = some (.cells #[.string a0_0, (.slice A0_1 l0_1.length c0_1)] 38 (0, 0))) ∧ Aside0 (Below w.heap.size w w'))
   case atStart => exact ⟨(0), Rs, H', ⟨Nat.le_refl _⟩, ⟨(Bk BK229)⟩, ⟨Bw⟩⟩
   case round =>
    clear H';(try clear c1);(try clear c2);(try clear p2);(try clear c4);(try clear c5);(try clear c7);(try clear c9);(try clear c13);(try clear c27);(try clear Z10_0 Z10_1);(try clear Z14_0 Z14_1);(try clear Z16_0 Z16_1);(try clear Z19_0 Z19_1);(try clear Z21_0 Z21_1);(try clear Z23_0 Z23_1);(try clear Z25_0 Z25_1);(try clear Z26_0 Z26_1);(try clear Y10_0 Y10_1);(try clear Y14_0 Y14_1);(try clear Y16_0 Y16_1);(try clear Y19_0 Y19_1);(try clear Y21_0 Y21_1);(try clear Y23_0 Y23_1);(try clear Y25_0 Y25_1);(try clear Y26_0 Y26_1);(try clear p2);obtain ⟨x3_2, rfl, HA, HK2, BK229, HB⟩ := hrel
    cases gk with
    | zero => exact absurd HA.out (by simp [r11_rule.l0])
    | succ k2 =>
     have H := HA.out;clear HA;simp only [r11_rule.l0] at H
     by_cases c28 : x3_2 < (l0_1.length : Int)
     ·rw [if_pos c28] at H;have c28b0 := decide_eq_true c28;clear c28
      by_cases c29 : 0 ≤ x3_2
      ·rw [if_pos c29] at H;have c29b0 := decide_eq_true c29;clear c29
       by_cases c30 : (rdOf ByteArray.empty l0_1 x3_2).toList = ([115, 116, 121, 108, 101] : List UInt8)
       ·rw [if_pos c30] at H;obtain ⟨c30b0, c30b1⟩ := eqb c30;clear c30;obtain rfl := si H;obtain ⟨Z31_0, Z31_1, Y31_0, Y31_1⟩ := cells2 BK229;have p235 : 0 ≤ (x3_2 : Int) := Od;have q235 : x3_2 < (l0_1.length : Int) := Od;obtain ⟨ad235, e235, hx235_0⟩ := Kd.at_string HR0_1.out x3_2 p235 q235;cases e235;replace hx235_0 := Hx hx235_0;replace p235 := eq_true p235;replace q235 := eq_true q235;go_wp2;go_ret;exact ⟨Re, Bw⟩
       rw [if_neg c30] at H;obtain ⟨c30b0, c30b1⟩ := neb c30
       by_cases c32 : (rdOf ByteArray.empty l0_1 x3_2).toList = ([115, 114, 99, 100, 111, 99] : List UInt8)
       ·rw [if_pos c32] at H;obtain ⟨c32b0, c32b1⟩ := eqb c32;clear c32;obtain rfl := si H;obtain ⟨Z33_0, Z33_1, Y33_0, Y33_1⟩ := cells2 BK229;have p235 : 0 ≤ (x3_2 : Int) := Od;have q235 : x3_2 < (l0_1.length : Int) := Od;obtain ⟨ad235, e235, hx235_0⟩ := Kd.at_string HR0_1.out x3_2 p235 q235;cases e235;replace hx235_0 := Hx hx235_0;replace p235 := eq_true p235;replace q235 := eq_true q235;go_wp2;go_ret;exact ⟨Re, Bw⟩
       rw [if_neg c32] at H;obtain ⟨c32b0, c32b1⟩ := neb c32
       by_cases c34 : ((rdOf ByteArray.empty l0_1 x3_2).size : Int) ≥ 2
       ·rw [if_pos c34] at H;have c34b0 := dge c34;have c34b1 : decide (2 ≤ (rdOf ByteArray.empty l0_1 x3_2).size) = true := decide_eq_true (by omega);clear c34
        by_cases c35 : 0 ≤ 2
        ·rw [if_pos c35] at H;have c35b0 := eq_true c35;have c35b1 : decide (0 ≤ 2) = true := decide_eq_true c35;clear c35
         by_cases c36 : 2 ≤ ((rdOf ByteArray.empty l0_1 x3_2).size : Int)
         ·rw [if_pos c36] at H;have c36b0 := eq_true c36;have c36b1 : decide (2 ≤ ((rdOf ByteArray.empty l0_1 x3_2).size : Int)) = true := decide_eq_true c36;clear c36
          by_cases c37 : ((rdOf ByteArray.empty l0_1 x3_2).extract 0 2).toList = ([111, 110] : List UInt8)
          ·rw [if_pos c37] at H;obtain ⟨c37b0, c37b1⟩ := eqb c37;clear c37;obtain rfl := si H;obtain ⟨Z38_0, Z38_1, Y38_0, Y38_1⟩ := cells2 BK229;have p235 : 0 ≤ (x3_2 : Int) := Od;have q235 : x3_2 < (l0_1.length : Int) := Od;obtain ⟨ad235, e235, hx235_0⟩ := Kd.at_string HR0_1.out x3_2 p235 q235;cases e235;replace hx235_0 := Hx hx235_0;replace p235 := eq_true p235;replace q235 := eq_true q235;go_wp2;go_ret;exact ⟨Re, Bw⟩
          rw [if_neg c37] at H;obtain ⟨c37b0, c37b1⟩ := neb c37;have H' := Am H;clear H;obtain ⟨Z39_0, Z39_1, Y39_0, Y39_1⟩ := cells2 BK229;have p235 : 0 ≤ (x3_2 : Int) := Od;have q235 : x3_2 < (l0_1.length : Int) := Od;obtain ⟨ad235, e235, hx235_0⟩ := Kd.at_string HR0_1.out x3_2 p235 q235;cases e235;replace hx235_0 := Hx hx235_0;replace p235 := eq_true p235;replace q235 := eq_true q235;go_wp2;go_roundg k2
          case measure => have := HJ1.out; have := HK2.out; omega
          case rel => exact ⟨(wrap64 (x3_2 + 1)), Rs, H', ⟨by have := HJ1.out; have := HK2.out; omega⟩, ⟨(Bk BK229)⟩, ⟨Bw⟩⟩
         rw [if_neg c36] at H;exact absurd H (by simp)
        rw [if_neg c35] at H;exact absurd H (by simp)
       rw [if_neg c34] at H;have c34b0 := nge c34;have c34b1 : decide (2 ≤ (rdOf ByteArray.empty l0_1 x3_2).size) = false := decide_eq_false (by omega);clear c34;have H' := Am H;clear H;obtain ⟨Z40_0, Z40_1, Y40_0, Y40_1⟩ := cells2 BK229;have p235 : 0 ≤ (x3_2 : Int) := Od;have q235 : x3_2 < (l0_1.length : Int) := Od;obtain ⟨ad235, e235, hx235_0⟩ := Kd.at_string HR0_1.out x3_2 p235 q235;cases e235;replace hx235_0 := Hx hx235_0;replace p235 := eq_true p235;replace q235 := eq_true q235;go_wp2;go_roundg k2
       case measure => have := HJ1.out; have := HK2.out; omega
       case rel => exact ⟨(wrap64 (x3_2 + 1)), Rs, H', ⟨by have := HJ1.out; have := HK2.out; omega⟩, ⟨(Bk BK229)⟩, ⟨Bw⟩⟩
      rw [if_neg c29] at H;exact absurd H (by simp)
     rw [if_neg c28] at H;have c28b0 := decide_eq_false c28;clear c28;obtain ⟨t236, A41, H⟩ := bx H;replace H : (some (!t236)) = some r := H;obtain rfl := si H;obtain ⟨Z42_0, Z42_1, Y42_0, Y42_1⟩ := cells2 BK229;go_wp2_with (first | ((with_reducible refine gate_callee (f := 61) rfl ?_); refine goL (some 60) Tryz.func61 #[.string (⟨#[109, 97, 116, 104, 32, 110, 111, 115, 99, 114, 105, 112, 116, 32, 112, 108, 97, 105, 110, 116, 101, 120, 116, 32, 115, 118, 103, 32, 116, 101, 109, 112, 108, 97, 116, 101]⟩ : ByteArray), .string a0_0] ?_; (with_reducible refine (r02_In.calls k2 (⟨#[109, 97, 116, 104, 32, 110, 111, 115, 99, 114, 105, 112, 116, 32, 112, 108, 97, 105, 110, 116, 101, 120, 116, 32, 115, 118, 103, 32, 116, 101, 109, 112, 108, 97, 116, 101]⟩ : ByteArray) a0_0 t236 _ A41.out).mono ?_); rintro e w' ⟨rfl, ⟨nd, rfl⟩⟩; refine ⟨_, rfl, ?_⟩));go_ret;exact ⟨Re, Bw⟩

mutual
def r11_Check.j0 : Nat → Bool → List (S38) → List ByteArray → List ByteArray → List ByteArray → Int → Option (Int)
  | 0, _, _, _, _, _, _ => none
  | k + 1, x3, x238000, x238001, x238002, x238003, x238004 => r11_Check.l0 k x3 0 x238000 x238001 x238002 x238003 x238004
def r11_Check.j2 : Nat → Bool → List (S38) → List ByteArray → List ByteArray → List ByteArray → Int → Option (Int)
  | 0, _, _, _, _, _, _ => none
  | k + 1, x3, x238000, x238001, x238002, x238003, x238004 => if x3 = true then (some 4) else (if x238004 ≥ 1 then (if x238004 ≤ 60 then ((r11_names.f k x238001).bind fun t239 => (if t239 = true then ((r11_names.f k x238002).bind fun t240 => (if t240 = true then ((r11_names.f k x238003).bind fun t241 => (r11_Check.j3 k t241 x238000 x238001 x238002 x238003 x238004)) else (r11_Check.j3 k false x238000 x238001 x238002 x238003 x238004))) else (r11_Check.j3 k false x238000 x238001 x238002 x238003 x238004))) else (r11_Check.j3 k false x238000 x238001 x238002 x238003 x238004)) else (r11_Check.j3 k false x238000 x238001 x238002 x238003 x238004))
def r11_Check.j3 : Nat → Bool → List (S38) → List ByteArray → List ByteArray → List ByteArray → Int → Option (Int)
  | 0, _, _, _, _, _, _ => none
  | k + 1, x5, x238000, x238001, x238002, x238003, x238004 => r11_Check.l1 k x5 0 x238000 x238001 x238002 x238003 x238004
def r11_Check.l1 : Nat → Bool → Int → List (S38) → List ByteArray → List ByteArray → List ByteArray → Int → Option (Int)
  | 0, _, _, _, _, _, _, _ => none
  | k + 1, x5, x6, x238000, x238001, x238002, x238003, x238004 => if x6 < (x238000.length : Int) then (r11_Check.l2 k x5 x6 0 x238000 x238001 x238002 x238003 x238004) else (if x5 = true then ((r11_in.f k x238002 (⟨#[100, 97, 116, 97]⟩ : ByteArray)).bind fun t248 => (if t248 = true then (some 1) else ((r11_in.f k x238002 (⟨#[106, 97, 118, 97, 115, 99, 114, 105, 112, 116]⟩ : ByteArray)).bind fun t249 => (if t249 = true then (some 1) else ((r11_in.f k x238002 (⟨#[118, 98, 115, 99, 114, 105, 112, 116]⟩ : ByteArray)).bind fun t250 => (if t250 = true then (some 1) else (some 0))))))) else (some 1))
def r11_Check.l2 : Nat → Bool → Int → Int → List (S38) → List ByteArray → List ByteArray → List ByteArray → Int → Option (Int)
  | 0, _, _, _, _, _, _, _, _ => none
  | k + 1, x5, x6, x7, x238000, x238001, x238002, x238003, x238004 => if x7 < x6 then (if x5 = true then (if 0 ≤ x7 then (if x7 < (x238000.length : Int) then (if 0 ≤ x6 then (if x6 < (x238000.length : Int) then (r11_Check.l2 k (((rd_T38 x238000 x7).f0).toList != ((rd_T38 x238000 x6).f0).toList) x6 (wrap64 (x7 + 1)) x238000 x238001 x238002 x238003 x238004) else (none)) else (none)) else (none)) else (none)) else (r11_Check.l2 k false x6 (wrap64 (x7 + 1)) x238000 x238001 x238002 x238003 x238004)) else (if x5 = true then (if 0 ≤ x6 then (if x6 < (x238000.length : Int) then ((r11_rule.f k ((rd_T38 x238000 x6).f0) ((rd_T38 x238000 x6).f1)).bind fun t245 => (if t245 = true then ((r11_in.f k x238003 ((rd_T38 x238000 x6).f0)).bind fun t247 => (r11_Check.l1 k (!t247) (wrap64 (x6 + 1)) x238000 x238001 x238002 x238003 x238004)) else (r11_Check.l1 k false (wrap64 (x6 + 1)) x238000 x238001 x238002 x238003 x238004))) else (none)) else (none)) else (r11_Check.l1 k false (wrap64 (x6 + 1)) x238000 x238001 x238002 x238003 x238004))
def r11_Check.l0 : Nat → Bool → Int → List (S38) → List ByteArray → List ByteArray → List ByteArray → Int → Option (Int)
  | 0, _, _, _, _, _, _, _ => none
  | k + 1, x3, x4, x238000, x238001, x238002, x238003, x238004 => if x4 < (x238000.length : Int) then (if x3 = true then (r11_Check.j2 k x3 x238000 x238001 x238002 x238003 x238004) else (if 0 ≤ x4 then (r11_Check.l0 k (decide ((((rd_T38 x238000 x4).f1).length : Int) > 20)) (wrap64 (x4 + 1)) x238000 x238001 x238002 x238003 x238004) else (none))) else (r11_Check.j2 k x3 x238000 x238001 x238002 x238003 x238004)
end
def r11_Check.f (k : Nat) (l0_0 : List (S38)) (l0_1 : List ByteArray) (l0_2 : List ByteArray) (l0_3 : List ByteArray) (a0_4 : Int) : Option (Int) := if (l0_0.length : Int) > 40 then (r11_Check.j0 k true l0_0 l0_1 l0_2 l0_3 a0_4) else (if (l0_1.length : Int) > 20 then (r11_Check.j0 k true l0_0 l0_1 l0_2 l0_3 a0_4) else (if (l0_2.length : Int) > 20 then (r11_Check.j0 k true l0_0 l0_1 l0_2 l0_3 a0_4) else (r11_Check.j0 k (decide ((l0_3.length : Int) > 20)) l0_0 l0_1 l0_2 l0_3 a0_4)))
def r11_Check.T15 : Bool × List (List Nat × List Nat) := (true, [([], []), ([0], [0]), ([1], [1]), ([2, 1], [1, 2]), ([1], [1]), ([3, 4, 1], [1, 3, 4]), ([5, 1], [1, 5]), ([6, 1], [1, 6]), ([1], [1]), ([8, 1], [1, 8]), ([1], [1]), ([9, 10, 1], [1, 9, 10]), ([11, 1], [1, 11]), ([12, 1], [1, 12]), ([7, 13, 1], [1, 7, 13]), ([1, 14], [1, 14]), ([15, 1, 0, 1, 2, 3, 4, 5, 6, 7, 8, 9, 10, 11, 12, 13, 14, 15], [0, 15])])
def r11_Check.B15 : List Nat := [0, 1, 3, 7, 3, 31, 63, 127, 3, 259, 3, 1795, 3843, 7939, 16383, 32767, 65535]
theorem r11_Check.tab15 : rtab .any (opsOf Tryz.f22 15) = r11_Check.T15 := by kernel_rfl
theorem r11_Check.bits15 : waitsOk r11_Check.T15.2 r11_Check.B15 = true := by kernel_rfl
def r11_Check.T16 : Bool × List (List Nat × List Nat) := (true, [([], []), ([0], [0]), ([1], [1]), ([2, 1], [1, 2]), ([1], [1]), ([3, 4, 1], [1, 3, 4]), ([5, 1], [1, 5]), ([6, 1, 1], [1, 6]), ([1, 7], [1, 7]), ([8, 7], [8]), ([9], [9]), ([10, 9], [9, 10]), ([9], [9]), ([12, 9], [9, 12]), ([9], [9]), ([13, 14, 9], [9, 13, 14]), ([15, 9], [9, 15]), ([16, 9], [9, 16]), ([11, 17, 9, 9], [9, 11, 17]), ([18, 9], [9, 18]), ([9, 19], [9, 19]), ([20, 18, 0, 1, 2, 3, 4, 5, 6, 7, 8, 9, 10, 11, 12, 13, 14, 15, 16, 17, 18, 19, 20], [0, 20])])
def r11_Check.B16 : List Nat := [0, 1, 3, 7, 3, 31, 63, 127, 255, 511, 1023, 2047, 1023, 5119, 1023, 29695, 62463, 127999, 262143, 524287, 1048575, 2097151]
theorem r11_Check.tab16 : rtab .any (opsOf Tryz.f22 16) = r11_Check.T16 := by kernel_rfl
theorem r11_Check.bits16 : waitsOk r11_Check.T16.2 r11_Check.B16 = true := by kernel_rfl
theorem r11_Check.calls (k : Nat) (A0_0 : Option Addr) (c0_0 : Nat) (l0_0 : List (S38)) (A0_1 : Option Addr) (c0_1 : Nat) (l0_1 : List ByteArray) (A0_2 : Option Addr) (c0_2 : Nat) (l0_2 : List ByteArray) (A0_3 : Option Addr) (c0_3 : Nat) (l0_3 : List ByteArray) (a0_4 : Int) (r : Int) (w : World) (hr0_0 : Kd.C k38 w A0_0 l0_0.length l0_0) (hc0_0 : l0_0.length ≤ c0_0) (hr0_1 : Kd.C Kd.string w A0_1 l0_1.length l0_1) (hc0_1 : l0_1.length ≤ c0_1) (hr0_2 : Kd.C Kd.string w A0_2 l0_2.length l0_2) (hc0_2 : l0_2.length ≤ c0_2) (hr0_3 : Kd.C Kd.string w A0_3 l0_3.length l0_3) (hc0_3 : l0_3.length ≤ c0_3) (h : r11_Check.f k l0_0 l0_1 l0_2 l0_3 a0_4 = some r) :
  Calls Tryz.prog 22 #[.agg #[.slice A0_0 l0_0.length c0_0, .slice A0_1 l0_1.length c0_1, .slice A0_2 l0_2.length c0_2, .slice A0_3 l0_3.length c0_3, .int .i64 a0_4]] w fun e w' => e = .returned (.int .i64 r) ∧ Below w.heap.size w w' := by
 have hu25 := Tryz.underlying25;have hu38 := Tryz.underlying38;obtain ⟨HR0_0, HC0_0, HR0_1, HC0_1⟩ := as4 hr0_0 hc0_0 hr0_1 hc0_1;clear hr0_0 hc0_0 hr0_1 hc0_1;obtain ⟨HR0_2, HC0_2, HR0_3, HC0_3⟩ := as4 hr0_2 hc0_2 hr0_3 hc0_3;clear hr0_2 hc0_2 hr0_3 hc0_3;have HB := Am (Below.refl w.heap.size w);have H := h;clear h;unfold r11_Check.f at H;have HC2 := Am H;clear H;go_enter Tryz.func22, Tryz.ntmps22
 go_upto_region 1 with (first | ((with_reducible refine gate_dst (N := 1) rfl ?_); (try (refine gate_guard (by rfl) ?_; dsimp only)); refine box5 25 1 (cs := #[.slice A0_0 l0_0.length c0_0, .slice A0_1 l0_1.length c0_1, .slice A0_2 l0_2.length c0_2, .slice A0_3 l0_3.length c0_3, .int .i64 a0_4]) ?_; clear HB; intro gb237 w3 HB BK237 GE237))
 (try simp only [Act.put, List.setIfInBounds_toArray, List.set_cons_zero, List.set_cons_succ])
 go_cut [3] (fun v3 wc => ∃ (kq : Nat) (x3_1 : Bool), v3 = .bool x3_1 ∧ Aside0 (r11_Check.j0 kq x3_1 l0_0 l0_1 l0_2 l0_3 a0_4 = some r) ∧ Aside0 (kq ≤ k) ∧ Aside0 (wc.heap[gb237]? = some (.cells #[(.slice A0_0 l0_0.length c0_0), (.slice A0_1 l0_1.length c0_1), (.slice A0_2 l0_2.length c0_2), (.slice A0_3 l0_3.length c0_3), .int .i64 a0_4] 25 (0, 0))) ∧ Aside0 (Below w.heap.size w wc))
 case first =>
  have H := HC2.out;clear HC2
  by_cases c4 : (l0_0.length : Int) > 40
  ·rw [if_pos c4] at H;have c4b0 := dgt c4;have c4b1 : decide (40 < l0_0.length) = true := decide_eq_true (by omega);clear c4;(first | rw [c4b0] | (simp only [i64_w, i32_w]; rw [c4b0]) | skip);have H' := Am H;clear H;obtain ⟨Z5_0, Z5_1, Z5_2, Z5_3, Z5_4, Y5_0, Y5_1, Y5_2, Y5_3, Y5_4⟩ := cells5 BK237;go_wp2;go_meet
   case rel => exact ⟨_, (true), Rs, H', ⟨On⟩, ⟨(Bk BK237)⟩, ⟨Bw⟩⟩
  rw [if_neg c4] at H;have c4b0 := ngt c4;have c4b1 : decide (40 < l0_0.length) = false := decide_eq_false (by omega);clear c4;(first | rw [c4b0] | (simp only [i64_w, i32_w]; rw [c4b0]) | skip)
  by_cases c6 : (l0_1.length : Int) > 20
  ·rw [if_pos c6] at H;have c6b0 := dgt c6;have c6b1 : decide (20 < l0_1.length) = true := decide_eq_true (by omega);clear c6;have H' := Am H;clear H;obtain ⟨Z7_0, Z7_1, Z7_2, Z7_3, Z7_4, Y7_0, Y7_1, Y7_2, Y7_3, Y7_4⟩ := cells5 BK237;go_wp2;go_meet
   case rel => exact ⟨_, (true), Rs, H', ⟨On⟩, ⟨(Bk BK237)⟩, ⟨Bw⟩⟩
  rw [if_neg c6] at H;have c6b0 := ngt c6;have c6b1 : decide (20 < l0_1.length) = false := decide_eq_false (by omega);clear c6
  by_cases c8 : (l0_2.length : Int) > 20
  ·rw [if_pos c8] at H;have c8b0 := dgt c8;have c8b1 : decide (20 < l0_2.length) = true := decide_eq_true (by omega);clear c8;have H' := Am H;clear H;obtain ⟨Z9_0, Z9_1, Z9_2, Z9_3, Z9_4, Y9_0, Y9_1, Y9_2, Y9_3, Y9_4⟩ := cells5 BK237;go_wp2;go_meet
   case rel => exact ⟨_, (true), Rs, H', ⟨On⟩, ⟨(Bk BK237)⟩, ⟨Bw⟩⟩
  rw [if_neg c8] at H;have c8b0 := ngt c8;have c8b1 : decide (20 < l0_2.length) = false := decide_eq_false (by omega);clear c8;have H' := Am H;clear H;obtain ⟨Z10_0, Z10_1, Z10_2, Z10_3, Z10_4, Y10_0, Y10_1, Y10_2, Y10_3, Y10_4⟩ := cells5 BK237;go_wp2;go_meet
  case rel => exact ⟨_, (decide ((l0_3.length : Int) > 20)), Rs, H', ⟨On⟩, ⟨(Bk BK237)⟩, ⟨Bw⟩⟩
 case rest =>
  clear HC2;(try clear c2);(try clear p2);(try clear c4);(try clear c4b0);(try clear c4b1);(try clear c6);(try clear c6b0);(try clear c6b1);(try clear c8);(try clear c8b0);(try clear c8b1);(try clear Z10_0 Z10_1 Z10_2 Z10_3 Z10_4);(try clear Z5_0 Z5_1 Z5_2 Z5_3 Z5_4);(try clear Z7_0 Z7_1 Z7_2 Z7_3 Z7_4);(try clear Z9_0 Z9_1 Z9_2 Z9_3 Z9_4);(try clear Y10_0 Y10_1 Y10_2 Y10_3 Y10_4);(try clear Y5_0 Y5_1 Y5_2 Y5_3 Y5_4);(try clear Y7_0 Y7_1 Y7_2 Y7_3 Y7_4);(try clear Y9_0 Y9_1 Y9_2 Y9_3 Y9_4);obtain ⟨kq, x3_1, rfl, HA, HJ1, BK237, HB⟩ := hcut
  cases kq with
  | zero => exact absurd HA.out (by simp [r11_Check.j0])
  | succ kj1 =>
   have H := HA.out;clear HA;simp only [r11_Check.j0] at H;have HC11 := Am H;clear H
   go_upto_block 0 with (fail)
   go_cut [3] (fun v3 wc => ∃ (kq : Nat) (x3_10 : Bool), v3 = .bool x3_10 ∧ Aside0 (r11_Check.j2 kq x3_10 l0_0 l0_1 l0_2 l0_3 a0_4 = some r) ∧ Aside0 (kq ≤ kj1) ∧ Aside0 (wc.heap[gb237]? = some (.cells #[(.slice A0_0 l0_0.length c0_0), (.slice A0_1 l0_1.length c0_1), (.slice A0_2 l0_2.length c0_2), (.slice A0_3 l0_3.length c0_3), .int .i64 a0_4] 25 (0, 0))) ∧ Aside0 (Below w.heap.size w wc))
   case first =>
    have H := HC11.out;clear HC11;have H' := Am H;clear H;go_wp2
    go_loopg [3, 4] kj1 (fun kq v3 v4 w' => ∃ (x3_2 : Bool) (x4_2 : Int), v3 = .bool x3_2 ∧ v4 = .int .i64 x4_2 ∧ Aside0 (r11_Check.l0 kq x3_2 x4_2 l0_0 l0_1 l0_2 l0_3 a0_4 = some r) ∧ Aside0 (kq ≤ kj1) ∧ Aside0 (w'.heap[gb237]? = some (.cells #[(.slice A0_0 l0_0.length c0_0), (.slice A0_1 l0_1.length c0_1), (.slice A0_2 l0_2.length c0_2), (.slice A0_3 l0_3.length c0_3), .int .i64 a0_4] 25 (0, 0))) ∧ Aside0 (Below w.heap.size w w'))
    case atStart => exact ⟨(x3_1), (0), Rs, Rs, H', ⟨Nat.le_refl _⟩, ⟨(Bk BK237)⟩, ⟨Bw⟩⟩
    case round =>
     clear H';(try clear c2);(try clear p2);(try clear c4);(try clear c4b0);(try clear c4b1);(try clear c6);(try clear c6b0);(try clear c6b1);(try clear c8);(try clear c8b0);(try clear c8b1);(try clear Z10_0 Z10_1 Z10_2 Z10_3 Z10_4);(try clear Z5_0 Z5_1 Z5_2 Z5_3 Z5_4);(try clear Z7_0 Z7_1 Z7_2 Z7_3 Z7_4);(try clear Z9_0 Z9_1 Z9_2 Z9_3 Z9_4);(try clear Y10_0 Y10_1 Y10_2 Y10_3 Y10_4);(try clear Y5_0 Y5_1 Y5_2 Y5_3 Y5_4);(try clear Y7_0 Y7_1 Y7_2 Y7_3 Y7_4);(try clear Y9_0 Y9_1 Y9_2 Y9_3 Y9_4);(try clear p2);obtain ⟨x3_2, x4_2, rfl, rfl, HA, HK2, BK237, HB⟩ := hrel
     cases gk with
     | zero => exact absurd HA.out (by simp [r11_Check.l0])
     | succ k2 =>
      have H := HA.out;clear HA;simp only [r11_Check.l0] at H
      by_cases c12 : x4_2 < (l0_0.length : Int)
      ·rw [if_pos c12] at H;have c12b0 := decide_eq_true c12;clear c12;(first | rw [c12b0] | (simp only [i64_w, i32_w]; rw [c12b0]) | skip)
       by_cases c13 : x3_2 = true
       ·subst c13;rw [if_pos rfl] at H;have H' := Am H;clear H;obtain ⟨Z14_0, Z14_1, Z14_2, Z14_3, Z14_4, Y14_0, Y14_1, Y14_2, Y14_3, Y14_4⟩ := cells5 BK237;go_wp2;go_meet
        case rel => exact ⟨_, (true), Rs, H', ⟨by have := HJ1.out; have := HK2.out; first | omega | exact Nat.le_refl _⟩, ⟨(Bk BK237)⟩, ⟨Bw⟩⟩
       replace c13 := bf c13;subst c13;rw [if_neg (show ¬ (false = true) by decide)] at H
       by_cases c15 : 0 ≤ x4_2
       ·rw [if_pos c15] at H;have c15b0 := decide_eq_true c15;clear c15;have H' := Am H;clear H;obtain ⟨Z16_0, Z16_1, Z16_2, Z16_3, Z16_4, Y16_0, Y16_1, Y16_2, Y16_3, Y16_4⟩ := cells5 BK237;have p238 : 0 ≤ (x4_2 : Int) := Od;have q238 : x4_2 < (l0_0.length : Int) := Od;obtain ⟨ad238, A238_1, c238_1, e238, hx238_0, hx238_1, HC238_1, HR238_1⟩ := at'_T38 HR0_0.out x4_2 p238 q238;cases e238;replace p238 := eq_true p238;replace q238 := eq_true q238;go_wp2;go_roundg k2
        case measure => have := HJ1.out; have := HK2.out; omega
        case rel => exact ⟨(decide ((((rd_T38 l0_0 x4_2).f1).length : Int) > 20)), (wrap64 (x4_2 + 1)), Rs, Rs, H', ⟨by have := HJ1.out; have := HK2.out; omega⟩, ⟨(Bk BK237)⟩, ⟨Bw⟩⟩
       rw [if_neg c15] at H;exact absurd H (by simp)
      rw [if_neg c12] at H;have c12b0 := decide_eq_false c12;clear c12;(first | rw [c12b0] | (simp only [i64_w, i32_w]; rw [c12b0]) | skip);have H' := Am H;clear H;obtain ⟨Z17_0, Z17_1, Z17_2, Z17_3, Z17_4, Y17_0, Y17_1, Y17_2, Y17_3, Y17_4⟩ := cells5 BK237;go_wp2;go_meet
      case rel => exact ⟨_, (x3_2), Rs, H', ⟨by have := HJ1.out; have := HK2.out; first | omega | exact Nat.le_refl _⟩, ⟨(Bk BK237)⟩, ⟨Bw⟩⟩
   case rest =>
    clear HC11;(try clear c1);(try clear c2);(try clear p2);(try clear q2);(try clear hx2);(try clear c4);(try clear c4b0);(try clear c4b1);(try clear c6);(try clear c6b0);(try clear c6b1);(try clear p6);(try clear c8);(try clear c8b0);(try clear c8b1);(try clear c12);(try clear c12b0);(try clear c13);(try clear c15);(try clear c15b0);(try clear Z10_0 Z10_1 Z10_2 Z10_3 Z10_4);(try clear Z14_0 Z14_1 Z14_2 Z14_3 Z14_4);(try clear Z16_0 Z16_1 Z16_2 Z16_3 Z16_4);(try clear Z17_0 Z17_1 Z17_2 Z17_3 Z17_4);(try clear Z5_0 Z5_1 Z5_2 Z5_3 Z5_4);(try clear Z7_0 Z7_1 Z7_2 Z7_3 Z7_4);(try clear Z9_0 Z9_1 Z9_2 Z9_3 Z9_4);(try clear Y10_0 Y10_1 Y10_2 Y10_3 Y10_4);(try clear Y14_0 Y14_1 Y14_2 Y14_3 Y14_4);(try clear Y16_0 Y16_1 Y16_2 Y16_3 Y16_4);(try clear Y17_0 Y17_1 Y17_2 Y17_3 Y17_4);(try clear Y5_0 Y5_1 Y5_2 Y5_3 Y5_4);(try clear Y7_0 Y7_1 Y7_2 Y7_3 Y7_4);(try clear Y9_0 Y9_1 Y9_2 Y9_3 Y9_4);(try clear hx238_0);(try clear hx238_1);(try clear p2);(try clear p238);(try clear q238);obtain ⟨kq, x3_10, rfl, HA, HJ10, BK237, HB⟩ := hcut
    cases kq with
    | zero => exact absurd HA.out (by simp [r11_Check.j2])
    | succ kj10 =>
     have H := HA.out;clear HA;simp only [r11_Check.j2] at H
     by_cases c18 : x3_10 = true
     ·subst c18;rw [if_pos rfl] at H;obtain rfl := si H;go_wp2;go_ret;exact ⟨Re, Bw⟩
     replace c18 := bf c18;subst c18;rw [if_neg (show ¬ (false = true) by decide)] at H;have HC19 := Am H;clear H
     go_upto_region 8 with (fail)
     go_cut [5] (fun v5 wc => ∃ (kq : Nat) (x5_18 : Bool), v5 = .bool x5_18 ∧ Aside0 (r11_Check.j3 kq x5_18 l0_0 l0_1 l0_2 l0_3 a0_4 = some r) ∧ Aside0 (kq ≤ kj10) ∧ Aside0 (wc.heap[gb237]? = some (.cells #[(.slice A0_0 l0_0.length c0_0), (.slice A0_1 l0_1.length c0_1), (.slice A0_2 l0_2.length c0_2), (.slice A0_3 l0_3.length c0_3), .int .i64 a0_4] 25 (0, 0))) ∧ Aside0 (Below w.heap.size w wc))
     case first =>
      have H := HC19.out;clear HC19
      by_cases c20 : a0_4 ≥ 1
      ·rw [if_pos c20] at H;have c20b0 := dge c20;clear c20;(first | rw [c20b0] | (simp only [i64_w, i32_w]; rw [c20b0]) | skip)
       by_cases c21 : a0_4 ≤ 60
       ·rw [if_pos c21] at H;have c21b0 := decide_eq_true c21;clear c21;obtain ⟨t239, A22, H⟩ := bx H;(try dsimp -simprocs only at H)
        by_cases c23 : t239 = true
        ·subst c23;rw [if_pos rfl] at H;obtain ⟨t240, A24, H⟩ := bx H;(try dsimp -simprocs only at H)
         by_cases c25 : t240 = true
         ·subst c25;rw [if_pos rfl] at H;obtain ⟨t241, A26, H⟩ := bx H;(try dsimp -simprocs only at H);have H' := Am H;clear H;obtain ⟨Z27_0, Z27_1, Z27_2, Z27_3, Z27_4, Y27_0, Y27_1, Y27_2, Y27_3, Y27_4⟩ := cells5 BK237;go_wp2_with (first | (go_at_call 40; (with_reducible refine (r11_names.calls kj10 _ _ l0_1 true _ (Cs HR0_1) HC0_1.out A22.out).mono ?_); rintro e w' ⟨rfl, ⟨nd, rfl⟩⟩) | (go_at_call 40; (with_reducible refine (r11_names.calls kj10 _ _ l0_2 true _ ?side1 HC0_2.out A24.out).mono ?_); (case side1 => exact Cd (Kd.C_below HR0_2.out Bw)); rintro e w' ⟨rfl, ⟨nd, rfl⟩⟩) | (go_at_call 40; (with_reducible refine (r11_names.calls kj10 _ _ l0_3 t241 _ ?side1 HC0_3.out A26.out).mono ?_); (case side1 => exact Cd (Kd.C_below HR0_3.out Bw)); rintro e w' ⟨rfl, ⟨nd, rfl⟩⟩));go_meet
          case rel => exact ⟨_, (t241), Rs, H', ⟨by have := HJ1.out; have := HJ10.out; first | omega | exact Nat.le_refl _⟩, ⟨(Bk BK237)⟩, ⟨Bw⟩⟩
         replace c25 := bf c25;subst c25;rw [if_neg (show ¬ (false = true) by decide)] at H;have H' := Am H;clear H;obtain ⟨Z28_0, Z28_1, Z28_2, Z28_3, Z28_4, Y28_0, Y28_1, Y28_2, Y28_3, Y28_4⟩ := cells5 BK237;go_wp2_with (first | (go_at_call 40; (with_reducible refine (r11_names.calls kj10 _ _ l0_1 true _ (Cs HR0_1) HC0_1.out A22.out).mono ?_); rintro e w' ⟨rfl, ⟨nd, rfl⟩⟩) | (go_at_call 40; (with_reducible refine (r11_names.calls kj10 _ _ l0_2 false _ ?side1 HC0_2.out A24.out).mono ?_); (case side1 => exact Cd (Kd.C_below HR0_2.out Bw)); rintro e w' ⟨rfl, ⟨nd, rfl⟩⟩));go_meet
         case rel => exact ⟨_, (false), Rs, H', ⟨by have := HJ1.out; have := HJ10.out; first | omega | exact Nat.le_refl _⟩, ⟨(Bk BK237)⟩, ⟨Bw⟩⟩
        replace c23 := bf c23;subst c23;rw [if_neg (show ¬ (false = true) by decide)] at H;have H' := Am H;clear H;obtain ⟨Z29_0, Z29_1, Z29_2, Z29_3, Z29_4, Y29_0, Y29_1, Y29_2, Y29_3, Y29_4⟩ := cells5 BK237;go_wp2_with (first | (go_at_call 40; (with_reducible refine (r11_names.calls kj10 _ _ l0_1 false _ (Cs HR0_1) HC0_1.out A22.out).mono ?_); rintro e w' ⟨rfl, ⟨nd, rfl⟩⟩));go_meet
        case rel => exact ⟨_, (false), Rs, H', ⟨by have := HJ1.out; have := HJ10.out; first | omega | exact Nat.le_refl _⟩, ⟨(Bk BK237)⟩, ⟨Bw⟩⟩
       rw [if_neg c21] at H;have c21b0 := decide_eq_false c21;clear c21;have H' := Am H;clear H;obtain ⟨Z30_0, Z30_1, Z30_2, Z30_3, Z30_4, Y30_0, Y30_1, Y30_2, Y30_3, Y30_4⟩ := cells5 BK237;go_wp2;go_meet
       case rel => exact ⟨_, (false), Rs, H', ⟨by have := HJ1.out; have := HJ10.out; first | omega | exact Nat.le_refl _⟩, ⟨(Bk BK237)⟩, ⟨Bw⟩⟩
      rw [if_neg c20] at H;have c20b0 := nge c20;clear c20;(first | rw [c20b0] | (simp only [i64_w, i32_w]; rw [c20b0]) | skip);have H' := Am H;clear H;obtain ⟨Z31_0, Z31_1, Z31_2, Z31_3, Z31_4, Y31_0, Y31_1, Y31_2, Y31_3, Y31_4⟩ := cells5 BK237;go_wp2;go_meet
      case rel => exact ⟨_, (false), Rs, H', ⟨by have := HJ1.out; have := HJ10.out; first | omega | exact Nat.le_refl _⟩, ⟨(Bk BK237)⟩, ⟨Bw⟩⟩
     case rest =>
      clear HC19;(try clear c1);(try clear c2);(try clear p2);(try clear q2);(try clear hx2);(try clear c4);(try clear c4b0);(try clear c4b1);(try clear c6);(try clear c6b0);(try clear c6b1);(try clear p6);(try clear c8);(try clear c8b0);(try clear c8b1);(try clear c12);(try clear c12b0);(try clear c13);(try clear c15);(try clear c15b0);(try clear c18);(try clear c20);(try clear c20b0);(try clear c21);(try clear c21b0);(try clear c22);(try clear c23);(try clear p23);(try clear q23);(try clear hx23);(try clear c25);(try clear Z10_0 Z10_1 Z10_2 Z10_3 Z10_4);(try clear Z14_0 Z14_1 Z14_2 Z14_3 Z14_4);(try clear Z16_0 Z16_1 Z16_2 Z16_3 Z16_4);(try clear Z17_0 Z17_1 Z17_2 Z17_3 Z17_4);(try clear Z27_0 Z27_1 Z27_2 Z27_3 Z27_4);(try clear Z28_0 Z28_1 Z28_2 Z28_3 Z28_4);(try clear Z29_0 Z29_1 Z29_2 Z29_3 Z29_4);(try clear Z30_0 Z30_1 Z30_2 Z30_3 Z30_4);(try clear Z31_0 Z31_1 Z31_2 Z31_3 Z31_4);(try clear Z5_0 Z5_1 Z5_2 Z5_3 Z5_4);(try clear Z7_0 Z7_1 Z7_2 Z7_3 Z7_4);(try clear Z9_0 Z9_1 Z9_2 Z9_3 Z9_4);(try clear Y10_0 Y10_1 Y10_2 Y10_3 Y10_4);(try clear Y14_0 Y14_1 Y14_2 Y14_3 Y14_4);(try clear Y16_0 Y16_1 Y16_2 Y16_3 Y16_4);(try clear Y17_0 Y17_1 Y17_2 Y17_3 Y17_4);(try clear Y27_0 Y27_1 Y27_2 Y27_3 Y27_4);(try clear Y28_0 Y28_1 Y28_2 Y28_3 Y28_4);(try clear Y29_0 Y29_1 Y29_2 Y29_3 Y29_4);(try clear Y30_0 Y30_1 Y30_2 Y30_3 Y30_4);(try clear Y31_0 Y31_1 Y31_2 Y31_3 Y31_4);(try clear Y5_0 Y5_1 Y5_2 Y5_3 Y5_4);(try clear Y7_0 Y7_1 Y7_2 Y7_3 Y7_4);(try clear Y9_0 Y9_1 Y9_2 Y9_3 Y9_4);(try clear hx238_0);(try clear hx238_1);(try clear p2);(try clear p238);(try clear p6);(try clear q2);(try clear q238);obtain ⟨kq, x5_18, rfl, HA, HJ18, BK237, HB⟩ := hcut
      cases kq with
      | zero => exact absurd HA.out (by simp [r11_Check.j3])
      | succ kj18 =>
       have H := HA.out;clear HA;simp only [r11_Check.j3] at H;have H' := Am H;clear H;go_wp2
       go_loopg [5, 6] kj18 (fun kq v5 v6 w' => ∃ (x5_4 : Bool) (x6_4 : Int), v5 = .bool x5_4 ∧ v6 = .int .i64 x6_4 ∧ Aside0 (r11_Check.l1 kq x5_4 x6_4 l0_0 l0_1 l0_2 l0_3 a0_4 = some r) ∧ Aside0 (kq ≤ kj18) ∧ Aside0 (w'.heap[gb237]? = some (.cells #[(.slice A0_0 l0_0.length c0_0), (.slice A0_1 l0_1.length c0_1), (.slice A0_2 l0_2.length c0_2), (.slice A0_3 l0_3.length c0_3), .int .i64 a0_4] 25 (0, 0))) ∧ Aside0 (Below w.heap.size w w'))
       case atStart => exact ⟨(x5_18), (0), Rs, Rs, H', ⟨Nat.le_refl _⟩, ⟨(Bk BK237)⟩, ⟨Bw⟩⟩
       case round =>
        clear H';(try clear c1);(try clear c2);(try clear p2);(try clear q2);(try clear hx2);(try clear c4);(try clear c4b0);(try clear c4b1);(try clear c6);(try clear c6b0);(try clear c6b1);(try clear p6);(try clear c8);(try clear c8b0);(try clear c8b1);(try clear c12);(try clear c12b0);(try clear c13);(try clear c15);(try clear c15b0);(try clear c18);(try clear c20);(try clear c20b0);(try clear c21);(try clear c21b0);(try clear c22);(try clear c23);(try clear p23);(try clear q23);(try clear hx23);(try clear c25);(try clear Z10_0 Z10_1 Z10_2 Z10_3 Z10_4);(try clear Z14_0 Z14_1 Z14_2 Z14_3 Z14_4);(try clear Z16_0 Z16_1 Z16_2 Z16_3 Z16_4);(try clear Z17_0 Z17_1 Z17_2 Z17_3 Z17_4);(try clear Z27_0 Z27_1 Z27_2 Z27_3 Z27_4);(try clear Z28_0 Z28_1 Z28_2 Z28_3 Z28_4);(try clear Z29_0 Z29_1 Z29_2 Z29_3 Z29_4);(try clear Z30_0 Z30_1 Z30_2 Z30_3 Z30_4);(try clear Z31_0 Z31_1 Z31_2 Z31_3 Z31_4);(try clear Z5_0 Z5_1 Z5_2 Z5_3 Z5_4);(try clear Z7_0 Z7_1 Z7_2 Z7_3 Z7_4);(try clear Z9_0 Z9_1 Z9_2 Z9_3 Z9_4);(try clear Y10_0 Y10_1 Y10_2 Y10_3 Y10_4);(try clear Y14_0 Y14_1 Y14_2 Y14_3 Y14_4);(try clear Y16_0 Y16_1 Y16_2 Y16_3 Y16_4);(try clear Y17_0 Y17_1 Y17_2 Y17_3 Y17_4);(try clear Y27_0 Y27_1 Y27_2 Y27_3 Y27_4);(try clear Y28_0 Y28_1 Y28_2 Y28_3 Y28_4);(try clear Y29_0 Y29_1 Y29_2 Y29_3 Y29_4);(try clear Y30_0 Y30_1 Y30_2 Y30_3 Y30_4);(try clear Y31_0 Y31_1 Y31_2 Y31_3 Y31_4);(try clear Y5_0 Y5_1 Y5_2 Y5_3 Y5_4);(try clear Y7_0 Y7_1 Y7_2 Y7_3 Y7_4);(try clear Y9_0 Y9_1 Y9_2 Y9_3 Y9_4);(try clear hx238_0);(try clear hx238_1);(try clear p2);(try clear p23);(try clear p238);(try clear p6);(try clear q2);(try clear q23);(try clear q238);obtain ⟨x5_4, x6_4, rfl, rfl, HA, HK4, BK237, HB⟩ := hrel
        cases gk with
        | zero => exact absurd HA.out (by simp [r11_Check.l1])
        | succ k4 =>
         have H := HA.out;clear HA;simp only [r11_Check.l1] at H
         by_cases c32 : x6_4 < (l0_0.length : Int)
         ·rw [if_pos c32] at H;have c32b0 := decide_eq_true c32;clear c32;have H' := Am H;clear H;obtain ⟨Z33_0, Z33_1, Z33_2, Z33_3, Z33_4, Y33_0, Y33_1, Y33_2, Y33_3, Y33_4⟩ := cells5 BK237;go_wp2
          go_loopg [5, 7] k4 (fun kq v5 v7 w' => ∃ (x5_5 : Bool) (x7_5 : Int), v5 = .bool x5_5 ∧ v7 = .int .i64 x7_5 ∧ Aside0 (r11_Check.l2 kq x5_5 x6_4 x7_5 l0_0 l0_1 l0_2 l0_3 a0_4 = some r) ∧ Aside0 (kq ≤ k4) ∧ Aside0 (w'.heap[gb237]? = some (.cells #[(.slice A0_0 l0_0.length c0_0), (.slice A0_1 l0_1.length c0_1), (.slice A0_2 l0_2.length c0_2), (.slice A0_3 l0_3.length c0_3), .int .i64 a0_4] 25 (0, 0))) ∧ Aside0 (Below w.heap.size w w'))
          case atStart => exact ⟨(x5_4), (0), Rs, Rs, H', ⟨Nat.le_refl _⟩, ⟨(Bk BK237)⟩, ⟨Bw⟩⟩
          case round =>
           clear H';(try clear c1);(try clear c2);(try clear p2);(try clear q2);(try clear hx2);(try clear c3);(try clear c4);(try clear c4b0);(try clear c4b1);(try clear c6);(try clear c6b0);(try clear c6b1);(try clear p6);(try clear c8);(try clear c8b0);(try clear c8b1);(try clear c12);(try clear c12b0);(try clear c13);(try clear c15);(try clear c15b0);(try clear c18);(try clear c20);(try clear c20b0);(try clear c21);(try clear c21b0);(try clear c22);(try clear c23);(try clear p23);(try clear q23);(try clear hx23);(try clear c25);(try clear c32);(try clear c32b0);(try clear Z10_0 Z10_1 Z10_2 Z10_3 Z10_4);(try clear Z14_0 Z14_1 Z14_2 Z14_3 Z14_4);(try clear Z16_0 Z16_1 Z16_2 Z16_3 Z16_4);(try clear Z17_0 Z17_1 Z17_2 Z17_3 Z17_4);(try clear Z27_0 Z27_1 Z27_2 Z27_3 Z27_4);(try clear Z28_0 Z28_1 Z28_2 Z28_3 Z28_4);(try clear Z29_0 Z29_1 Z29_2 Z29_3 Z29_4);(try clear Z30_0 Z30_1 Z30_2 Z30_3 Z30_4);(try clear Z31_0 Z31_1 Z31_2 Z31_3 Z31_4);(try clear Z33_0 Z33_1 Z33_2 Z33_3 Z33_4);(try clear Z5_0 Z5_1 Z5_2 Z5_3 Z5_4);(try clear Z7_0 Z7_1 Z7_2 Z7_3 Z7_4);(try clear Z9_0 Z9_1 Z9_2 Z9_3 Z9_4);(try clear Y10_0 Y10_1 Y10_2 Y10_3 Y10_4);(try clear Y14_0 Y14_1 Y14_2 Y14_3 Y14_4);(try clear Y16_0 Y16_1 Y16_2 Y16_3 Y16_4);(try clear Y17_0 Y17_1 Y17_2 Y17_3 Y17_4);(try clear Y27_0 Y27_1 Y27_2 Y27_3 Y27_4);(try clear Y28_0 Y28_1 Y28_2 Y28_3 Y28_4);(try clear Y29_0 Y29_1 Y29_2 Y29_3 Y29_4);(try clear Y30_0 Y30_1 Y30_2 Y30_3 Y30_4);(try clear Y31_0 Y31_1 Y31_2 Y31_3 Y31_4);(try clear Y33_0 Y33_1 Y33_2 Y33_3 Y33_4);(try clear Y5_0 Y5_1 Y5_2 Y5_3 Y5_4);(try clear Y7_0 Y7_1 Y7_2 Y7_3 Y7_4);(try clear Y9_0 Y9_1 Y9_2 Y9_3 Y9_4);(try clear hx238_0);(try clear hx238_1);(try clear p2);(try clear p23);(try clear p238);(try clear p6);(try clear q2)
           (try clear q23);(try clear q238);obtain ⟨x5_5, x7_5, rfl, rfl, HA, HK5, BK237, HB⟩ := hrel
           cases gk with
           | zero => exact absurd HA.out (by simp [r11_Check.l2])
           | succ k5 =>
            have H := HA.out;clear HA;simp only [r11_Check.l2] at H
            by_cases c34 : x7_5 < x6_4
            ·rw [if_pos c34] at H;have c34b0 := decide_eq_true c34;clear c34
             by_cases c35 : x5_5 = true
             ·subst c35;rw [if_pos rfl] at H
              by_cases c36 : 0 ≤ x7_5
              ·rw [if_pos c36] at H;have c36b0 := decide_eq_true c36;clear c36
               by_cases c37 : x7_5 < (l0_0.length : Int)
               ·rw [if_pos c37] at H;have c37b0 := decide_eq_true c37;clear c37
                by_cases c38 : 0 ≤ x6_4
                ·rw [if_pos c38] at H;have c38b0 := decide_eq_true c38;clear c38
                 by_cases c39 : x6_4 < (l0_0.length : Int)
                 ·rw [if_pos c39] at H;have c39b0 := decide_eq_true c39;clear c39;have H' := Am H;clear H;(try go_wp2);replace BK237 := Am (blk_drew BK237.out);replace HB := Am (below_drew1 HB.out);have p242 : 0 ≤ (x7_5 : Int) := Od;have q242 : x7_5 < (l0_0.length : Int) := Od;obtain ⟨ad242, A242_1, c242_1, e242, hx242_0, hx242_1, hl242_1, hi242_1⟩ := at_T38 HR0_0.out x7_5 p242 q242;have hw242_1 := hx242_1;have hw242_0 := hx242_0;cases e242;replace hx242_0 := Hx hx242_0;replace hx242_1 := Hx hx242_1;have HR242_1 := Am hi242_1;have HC242_1 := Am hl242_1;clear hi242_1 hl242_1;replace p242 := eq_true p242;replace q242 := eq_true q242;have p243 : 0 ≤ (x6_4 : Int) := Od;have q243 : x6_4 < (l0_0.length : Int) := Od;obtain ⟨ad243, A243_1, c243_1, e243, hx243_0, hx243_1, hl243_1, hi243_1⟩ := at_T38 HR0_0.out x6_4 p243 q243;have hw243_1 := hx243_1;have hw243_0 := hx243_0;obtain rfl : ad242 = ad243 := (by injection e243);replace hx243_0 := Hx hx243_0;replace hx243_1 := Hx hx243_1;have HR243_1 := Am hi243_1;have HC243_1 := Am hl243_1;clear hi243_1 hl243_1;replace p243 := eq_true p243;replace q243 := eq_true q243;refine start_ (n := 17) (S := fun w' => w'.cell? ⟨gb237, 0, none⟩ = some (.slice (some ad242) l0_0.length c0_0) ∧ w'.cell? ⟨gb237, 1, none⟩ = some (.slice A0_1 l0_1.length c0_1) ∧ w'.cell? ⟨gb237, 2, none⟩ = some (.slice A0_2 l0_2.length c0_2) ∧ w'.cell? ⟨gb237, 3, none⟩ = some (.slice A0_3 l0_3.length c0_3) ∧ w'.cell? ⟨gb237, 4, none⟩ = some (.int .i64 a0_4) ∧ w'.cell? (ad242.add ((x7_5).toNat * 2)) = some (.string ((rd_T38 l0_0 x7_5).f0)) ∧ w'.cell? ⟨(ad242.add ((x7_5).toNat * 2)).block, (ad242.add ((x7_5).toNat * 2)).off + 1, none⟩ = some (.slice A242_1 ((rd_T38 l0_0 x7_5).f1).length c242_1) ∧ w'.cell? (ad242.add ((x6_4).toNat * 2)) = some (.string ((rd_T38 l0_0 x6_4).f0)) ∧ w'.cell? ⟨(ad242.add ((x6_4).toNat * 2)).block, (ad242.add ((x6_4).toNat * 2)).off + 1, none⟩ = some (.slice A243_1 ((rd_T38 l0_0 x6_4).f1).length c243_1)) (ds := []) #[false, false, false, false, false, false, false, false, false, false, false, false, false, false, false, false, false] (by kernel_rfl) rfl rfl (and5 BK237 ⟨((HB.out.cell (World.block_lt_of_cell? w _ hw242_0)).trans hw242_0), ((HB.out.cell (World.block_lt_of_cell? w _ hw242_1)).trans hw242_1), ((HB.out.cell (World.block_lt_of_cell? w _ hw243_0)).trans hw243_0), ((HB.out.cell (World.block_lt_of_cell? w _ hw243_1)).trans hw243_1)⟩) (fun hHeld => ?_); refine with_tabW r11_Check.tab15 r11_Check.bits15 (fun HT_ HW_ => ?_)
                  generalize wr.drew = w40 at BK237 HB HR242_1 HR243_1 hx242_0 hx242_1 hx243_0 hx243_1 hHeld ⊢;refine pureS 0 85 (bl 17 1) ?_;refine pureS 1 86 (bl 17 3) ?_;refine pureS 2 87 (bl 17 7) ?_;refine pureS 4 89 (bl 17 23) ?_;refine pureS 8 93 (bl 17 279) ?_;refine pureS 10 95 (bl 17 1303) ?_;refine takeS 3 88 (bl 17 1311) hHeld ?_;refine pureS 5 90 (bl 17 1343) ?_;refine pureS 6 91 (bl 17 1407) ?_;refine takeS 7 92 (bl 17 1535) hHeld ?_;refine takeS 9 94 (bl 17 2047) hHeld ?_;refine pureS 11 96 (bl 17 4095) ?_;refine pureS 12 97 (bl 17 8191) ?_;refine takeS 13 98 (bl 17 16383) hHeld ?_;refine pureS 14 99 (bl 17 32767) ?_;refine pureS 15 100 (bl 17 65535) ?_;refine pureS 16 5 (bl 17 131071) ?_;refine done_ (done_of HT_.out (by kernel_rfl)) ?_;(try go_wp2);go_roundg k5
                  case measure => have := HJ1.out; have := HJ10.out; have := HJ18.out; have := HK4.out; have := HK5.out; omega
                  case rel => exact ⟨((((rd_T38 l0_0 x7_5).f0).toList != ((rd_T38 l0_0 x6_4).f0).toList)), (wrap64 (x7_5 + 1)), Rs, Rs, H', ⟨by have := HJ1.out; have := HJ10.out; have := HJ18.out; have := HK4.out; have := HK5.out; omega⟩, ⟨(Bk BK237)⟩, ⟨Bw⟩⟩
                 rw [if_neg c39] at H;exact absurd H (by simp)
                rw [if_neg c38] at H;exact absurd H (by simp)
               rw [if_neg c37] at H;exact absurd H (by simp)
              rw [if_neg c36] at H;exact absurd H (by simp)
             replace c35 := bf c35;subst c35;rw [if_neg (show ¬ (false = true) by decide)] at H;have H' := Am H;clear H;(try go_wp2);replace BK237 := Am (blk_drew BK237.out);replace HB := Am (below_drew1 HB.out);refine start_ (n := 17) (S := fun w' => True) (ds := []) #[false, false, false, false, false, false, false, false, false, false, false, false, false, false, false, false, false] (by kernel_rfl) rfl rfl trivial (fun hHeld => ?_); refine with_tabW r11_Check.tab15 r11_Check.bits15 (fun HT_ HW_ => ?_);generalize wr.drew = w41 at BK237 HB hHeld ⊢;refine pureS 0 85 (bl 17 1) ?_;refine pureS 1 86 (bl 17 3) ?_;refine pureU 2 87 (bl 17 7) ?_;refine pureU 3 88 (bl 17 15) ?_;refine pureU 4 89 (bl 17 31) ?_;refine pureU 5 90 (bl 17 63) ?_;refine pureU 6 91 (bl 17 127) ?_;refine pureU 7 92 (bl 17 255) ?_;refine pureU 8 93 (bl 17 511) ?_;refine pureU 9 94 (bl 17 1023) ?_;refine pureU 10 95 (bl 17 2047) ?_;refine pureU 11 96 (bl 17 4095) ?_;refine pureU 12 97 (bl 17 8191) ?_;refine pureU 13 98 (bl 17 16383) ?_;refine pureU 14 99 (bl 17 32767) ?_;refine pureS 15 100 (bl 17 65535) ?_;refine pureS 16 5 (bl 17 131071) ?_;refine done_ (done_of HT_.out (by kernel_rfl)) ?_;(try go_wp2);go_roundg k5
             case measure => have := HJ1.out; have := HJ10.out; have := HJ18.out; have := HK4.out; have := HK5.out; omega
             case rel => exact ⟨(false), (wrap64 (x7_5 + 1)), Rs, Rs, H', ⟨by have := HJ1.out; have := HJ10.out; have := HJ18.out; have := HK4.out; have := HK5.out; omega⟩, ⟨(Bk BK237)⟩, ⟨Bw⟩⟩
            rw [if_neg c34] at H;have c34b0 := decide_eq_false c34;clear c34
            by_cases c42 : x5_5 = true
            ·subst c42;rw [if_pos rfl] at H
             by_cases c43 : 0 ≤ x6_4
             ·rw [if_pos c43] at H;have c43b0 := decide_eq_true c43;clear c43
              by_cases c44 : x6_4 < (l0_0.length : Int)
              ·rw [if_pos c44] at H;have c44b0 := decide_eq_true c44;clear c44;obtain ⟨t245, A45, H⟩ := bx H;(try dsimp -simprocs only at H)
               by_cases c46 : t245 = true
               ·subst c46;rw [if_pos rfl] at H;obtain ⟨t247, A47, H⟩ := bx H;(try dsimp -simprocs only at H);have H' := Am H;clear H;(try go_wp2);replace BK237 := Am (blk_drew BK237.out);replace HB := Am (below_drew1 HB.out);have p244 : 0 ≤ (x6_4 : Int) := Od;have q244 : x6_4 < (l0_0.length : Int) := Od;obtain ⟨ad244, A244_1, c244_1, e244, hx244_0, hx244_1, hl244_1, hi244_1⟩ := at_T38 HR0_0.out x6_4 p244 q244;have hw244_1 := hx244_1;have hw244_0 := hx244_0;cases e244;replace hx244_0 := Hx hx244_0;replace hx244_1 := Hx hx244_1;have HR244_1 := Am hi244_1;have HC244_1 := Am hl244_1;clear hi244_1 hl244_1;replace p244 := eq_true p244;replace q244 := eq_true q244;have p246 : 0 ≤ (x6_4 : Int) := Od;have q246 : x6_4 < (l0_0.length : Int) := Od;obtain ⟨ad246, A246_1, c246_1, e246, hx246_0, hx246_1, hl246_1, hi246_1⟩ := at_T38 HR0_0.out x6_4 p246 q246;have hw246_1 := hx246_1;have hw246_0 := hx246_0;obtain rfl : ad244 = ad246 := (by injection e246);replace hx246_0 := Hx hx246_0;replace hx246_1 := Hx hx246_1;have HR246_1 := Am hi246_1;have HC246_1 := Am hl246_1;clear hi246_1 hl246_1;replace p246 := eq_true p246;replace q246 := eq_true q246;refine start_ (n := 22) (S := fun w' => w'.cell? ⟨gb237, 0, none⟩ = some (.slice (some ad244) l0_0.length c0_0) ∧ w'.cell? ⟨gb237, 1, none⟩ = some (.slice A0_1 l0_1.length c0_1) ∧ w'.cell? ⟨gb237, 2, none⟩ = some (.slice A0_2 l0_2.length c0_2) ∧ w'.cell? ⟨gb237, 3, none⟩ = some (.slice A0_3 l0_3.length c0_3) ∧ w'.cell? ⟨gb237, 4, none⟩ = some (.int .i64 a0_4) ∧ w'.cell? (ad244.add ((x6_4).toNat * 2)) = some (.string ((rd_T38 l0_0 x6_4).f0)) ∧ w'.cell? ⟨(ad244.add ((x6_4).toNat * 2)).block, (ad244.add ((x6_4).toNat * 2)).off + 1, none⟩ = some (.slice A244_1 ((rd_T38 l0_0 x6_4).f1).length c244_1) ∧ w'.cell? (ad244.add ((x6_4).toNat * 2)) = some (.string ((rd_T38 l0_0 x6_4).f0)) ∧ w'.cell? ⟨(ad244.add ((x6_4).toNat * 2)).block, (ad244.add ((x6_4).toNat * 2)).off + 1, none⟩ = some (.slice A246_1 ((rd_T38 l0_0 x6_4).f1).length c246_1)) (ds := []) #[false, false, false, false, false, false, false, false, false, false, false, false, false, false, false, false, false, false, false, false, false, false] (by kernel_rfl) rfl rfl (and5 BK237 ⟨((HB.out.cell (World.block_lt_of_cell? w _ hw244_0)).trans hw244_0), ((HB.out.cell (World.block_lt_of_cell? w _ hw244_1)).trans hw244_1), ((HB.out.cell (World.block_lt_of_cell? w _ hw246_0)).trans hw246_0), ((HB.out.cell (World.block_lt_of_cell? w _ hw246_1)).trans hw246_1)⟩) (fun hHeld => ?_); refine with_tabW r11_Check.tab16 r11_Check.bits16 (fun HT_ HW_ => ?_)
                generalize wr.drew = w48 at BK237 HB HR244_1 HR246_1 hx244_0 hx244_1 hx246_0 hx246_1 hHeld ⊢;refine pureS 0 101 (bl 22 1) ?_;refine pureS 1 102 (bl 22 3) ?_;refine pureS 2 103 (bl 22 7) ?_;refine pureS 4 105 (bl 22 23) ?_;refine takeS 3 104 (bl 22 31) hHeld ?_;refine pureS 5 106 (bl 22 63) ?_;refine takeS 6 107 (bl 22 127) hHeld ?_;refine one_ (i := 7) (N := some 108) (bl 22 255) rfl rfl (one_of HT_.out (by kernel_rfl)) (by decide) (fun K hK => ?_);refine goG Tryz.func41 #[.agg #[.string ((rd_T38 l0_0 x6_4).f0), .slice A244_1 ((rd_T38 l0_0 x6_4).f1).length c244_1]] ?_
                with_reducible refine (r11_rule.calls k5 ((rd_T38 l0_0 x6_4).f0) _ _ ((rd_T38 l0_0 x6_4).f1) true _ (Cs HR244_1) HC244_1.out A45.out).mono ?_
                rintro e w49 ⟨rfl, hb⟩;refine ⟨_, rfl, ?_⟩;replace BK237 := Bb BK237 hb;replace HB := Bs hb;(try clear hb);(try clear hb2);(try clear hk);(try clear hi);refine hK.out _ _ (and5 BK237 ⟨((HB.out.cell (World.block_lt_of_cell? w _ hw244_0)).trans hw244_0), ((HB.out.cell (World.block_lt_of_cell? w _ hw244_1)).trans hw244_1), ((HB.out.cell (World.block_lt_of_cell? w _ hw246_0)).trans hw246_0), ((HB.out.cell (World.block_lt_of_cell? w _ hw246_1)).trans hw246_1)⟩) (fun hHeld => ?_);clear hK K;refine norm_ (a' := ?_) ?_ ?_
                rotate_left
                ·show Act.put _ (some 108) _ = _;simp only [Act.put, List.setIfInBounds_toArray, List.set_cons_zero, List.set_cons_succ, i64_w, i32_w];rfl
                refine pureS 8 109 (bl 22 511) ?_;refine pureS 9 110 (bl 22 1023) ?_;refine pureS 10 111 (bl 22 2047) ?_;refine pureS 12 113 (bl 22 6143) ?_;refine pureS 14 115 (bl 22 22527) ?_;refine takeS 11 112 (bl 22 24575) hHeld ?_;refine takeS 13 114 (bl 22 32767) hHeld ?_;refine pureS 15 116 (bl 22 65535) ?_;refine pureS 16 117 (bl 22 131071) ?_;refine takeS 17 118 (bl 22 262143) hHeld ?_;refine one_ (i := 18) (N := some 119) (bl 22 524287) rfl rfl (one_of HT_.out (by kernel_rfl)) (by decide) (fun K hK => ?_);refine goG Tryz.func42 #[.slice A0_3 l0_3.length c0_3, .string ((rd_T38 l0_0 x6_4).f0)] ?_
                with_reducible refine (r11_in.calls k5 _ _ l0_3 ((rd_T38 l0_0 x6_4).f0) t247 _ (Cs HR0_3) HC0_3.out A47.out).mono ?_
                rintro e w' ⟨rfl, ⟨nd, rfl⟩⟩;refine ⟨_, rfl, ?_⟩;refine hK.out _ _ (and5 BK237 ⟨((HB.out.cell (World.block_lt_of_cell? w _ hw244_0)).trans hw244_0), ((HB.out.cell (World.block_lt_of_cell? w _ hw244_1)).trans hw244_1), ((HB.out.cell (World.block_lt_of_cell? w _ hw246_0)).trans hw246_0), ((HB.out.cell (World.block_lt_of_cell? w _ hw246_1)).trans hw246_1)⟩) (fun hHeld => ?_);clear hK K;refine norm_ (a' := ?_) ?_ ?_
                rotate_left
                ·show Act.put _ (some 119) _ = _;simp only [Act.put, List.setIfInBounds_toArray, List.set_cons_zero, List.set_cons_succ, i64_w, i32_w];rfl
                refine pureS 19 120 (bl 22 1048575) ?_;refine pureS 20 121 (bl 22 2097151) ?_;refine pureS 21 5 (bl 22 4194303) ?_;refine done_ (done_of HT_.out (by kernel_rfl)) ?_;(try go_wp2);go_roundg k5
                case measure => have := HJ1.out; have := HJ10.out; have := HJ18.out; have := HK4.out; have := HK5.out; omega
                case rel => exact ⟨(!t247), (wrap64 (x6_4 + 1)), Rs, Rs, H', ⟨by have := HJ1.out; have := HJ10.out; have := HJ18.out; have := HK4.out; have := HK5.out; omega⟩, ⟨(Bk BK237)⟩, ⟨Bw⟩⟩
               replace c46 := bf c46;subst c46;rw [if_neg (show ¬ (false = true) by decide)] at H;have H' := Am H;clear H;(try go_wp2);replace BK237 := Am (blk_drew BK237.out);replace HB := Am (below_drew1 HB.out);have p244 : 0 ≤ (x6_4 : Int) := Od;have q244 : x6_4 < (l0_0.length : Int) := Od;obtain ⟨ad244, A244_1, c244_1, e244, hx244_0, hx244_1, hl244_1, hi244_1⟩ := at_T38 HR0_0.out x6_4 p244 q244;have hw244_1 := hx244_1;have hw244_0 := hx244_0;cases e244;replace hx244_0 := Hx hx244_0;replace hx244_1 := Hx hx244_1;have HR244_1 := Am hi244_1;have HC244_1 := Am hl244_1;clear hi244_1 hl244_1;replace p244 := eq_true p244;replace q244 := eq_true q244;refine start_ (n := 22) (S := fun w' => w'.cell? ⟨gb237, 0, none⟩ = some (.slice (some ad244) l0_0.length c0_0) ∧ w'.cell? ⟨gb237, 1, none⟩ = some (.slice A0_1 l0_1.length c0_1) ∧ w'.cell? ⟨gb237, 2, none⟩ = some (.slice A0_2 l0_2.length c0_2) ∧ w'.cell? ⟨gb237, 3, none⟩ = some (.slice A0_3 l0_3.length c0_3) ∧ w'.cell? ⟨gb237, 4, none⟩ = some (.int .i64 a0_4) ∧ w'.cell? (ad244.add ((x6_4).toNat * 2)) = some (.string ((rd_T38 l0_0 x6_4).f0)) ∧ w'.cell? ⟨(ad244.add ((x6_4).toNat * 2)).block, (ad244.add ((x6_4).toNat * 2)).off + 1, none⟩ = some (.slice A244_1 ((rd_T38 l0_0 x6_4).f1).length c244_1)) (ds := []) #[false, false, false, false, false, false, false, false, false, false, false, false, false, false, false, false, false, false, false, false, false, false] (by kernel_rfl) rfl rfl (and5 BK237 ⟨((HB.out.cell (World.block_lt_of_cell? w _ hw244_0)).trans hw244_0), ((HB.out.cell (World.block_lt_of_cell? w _ hw244_1)).trans hw244_1)⟩) (fun hHeld => ?_); refine with_tabW r11_Check.tab16 r11_Check.bits16 (fun HT_ HW_ => ?_);generalize wr.drew = w50 at BK237 HB HR244_1 hx244_0 hx244_1 hHeld ⊢;refine pureS 0 101 (bl 22 1) ?_;refine pureS 1 102 (bl 22 3) ?_;refine pureS 2 103 (bl 22 7) ?_;refine pureS 4 105 (bl 22 23) ?_;refine takeS 3 104 (bl 22 31) hHeld ?_;refine pureS 5 106 (bl 22 63) ?_
               refine takeS 6 107 (bl 22 127) hHeld ?_;refine one_ (i := 7) (N := some 108) (bl 22 255) rfl rfl (one_of HT_.out (by kernel_rfl)) (by decide) (fun K hK => ?_);refine goG Tryz.func41 #[.agg #[.string ((rd_T38 l0_0 x6_4).f0), .slice A244_1 ((rd_T38 l0_0 x6_4).f1).length c244_1]] ?_
               with_reducible refine (r11_rule.calls k5 ((rd_T38 l0_0 x6_4).f0) _ _ ((rd_T38 l0_0 x6_4).f1) false _ (Cs HR244_1) HC244_1.out A45.out).mono ?_
               rintro e w51 ⟨rfl, hb⟩;refine ⟨_, rfl, ?_⟩;replace BK237 := Bb BK237 hb;replace HB := Bs hb;(try clear hb);(try clear hb2);(try clear hk);(try clear hi);refine hK.out _ _ (and5 BK237 ⟨((HB.out.cell (World.block_lt_of_cell? w _ hw244_0)).trans hw244_0), ((HB.out.cell (World.block_lt_of_cell? w _ hw244_1)).trans hw244_1)⟩) (fun hHeld => ?_);clear hK K;refine norm_ (a' := ?_) ?_ ?_
               rotate_left
               ·show Act.put _ (some 108) _ = _;simp only [Act.put, List.setIfInBounds_toArray, List.set_cons_zero, List.set_cons_succ, i64_w, i32_w];rfl
               refine pureS 8 109 (bl 22 511) ?_;refine pureS 9 110 (bl 22 1023) ?_;refine pureU 10 111 (bl 22 2047) ?_;refine pureU 11 112 (bl 22 4095) ?_;refine pureU 12 113 (bl 22 8191) ?_;refine pureU 13 114 (bl 22 16383) ?_;refine pureU 14 115 (bl 22 32767) ?_;refine pureU 15 116 (bl 22 65535) ?_;refine pureU 16 117 (bl 22 131071) ?_;refine pureU 17 118 (bl 22 262143) ?_;refine pureU 18 119 (bl 22 524287) ?_;refine pureU 19 120 (bl 22 1048575) ?_;refine pureS 20 121 (bl 22 2097151) ?_;refine pureS 21 5 (bl 22 4194303) ?_;refine done_ (done_of HT_.out (by kernel_rfl)) ?_;(try go_wp2);go_roundg k5
               case measure => have := HJ1.out; have := HJ10.out; have := HJ18.out; have := HK4.out; have := HK5.out; omega
               case rel => exact ⟨(false), (wrap64 (x6_4 + 1)), Rs, Rs, H', ⟨by have := HJ1.out; have := HJ10.out; have := HJ18.out; have := HK4.out; have := HK5.out; omega⟩, ⟨(Bk BK237)⟩, ⟨Bw⟩⟩
              rw [if_neg c44] at H;exact absurd H (by simp)
             rw [if_neg c43] at H;exact absurd H (by simp)
            replace c42 := bf c42;subst c42;rw [if_neg (show ¬ (false = true) by decide)] at H;have H' := Am H;clear H;(try go_wp2);replace BK237 := Am (blk_drew BK237.out);replace HB := Am (below_drew1 HB.out);refine start_ (n := 22) (S := fun w' => True) (ds := []) #[false, false, false, false, false, false, false, false, false, false, false, false, false, false, false, false, false, false, false, false, false, false] (by kernel_rfl) rfl rfl trivial (fun hHeld => ?_); refine with_tabW r11_Check.tab16 r11_Check.bits16 (fun HT_ HW_ => ?_);generalize wr.drew = w52 at BK237 HB hHeld ⊢;refine pureS 0 101 (bl 22 1) ?_;refine pureS 1 102 (bl 22 3) ?_;refine pureU 2 103 (bl 22 7) ?_;refine pureU 3 104 (bl 22 15) ?_;refine pureU 4 105 (bl 22 31) ?_;refine pureU 5 106 (bl 22 63) ?_;refine pureU 6 107 (bl 22 127) ?_;refine pureU 7 108 (bl 22 255) ?_;refine pureS 8 109 (bl 22 511) ?_;refine pureS 9 110 (bl 22 1023) ?_;refine pureU 10 111 (bl 22 2047) ?_;refine pureU 11 112 (bl 22 4095) ?_;refine pureU 12 113 (bl 22 8191) ?_;refine pureU 13 114 (bl 22 16383) ?_;refine pureU 14 115 (bl 22 32767) ?_;refine pureU 15 116 (bl 22 65535) ?_;refine pureU 16 117 (bl 22 131071) ?_;refine pureU 17 118 (bl 22 262143) ?_;refine pureU 18 119 (bl 22 524287) ?_;refine pureU 19 120 (bl 22 1048575) ?_;refine pureS 20 121 (bl 22 2097151) ?_;refine pureS 21 5 (bl 22 4194303) ?_;refine done_ (done_of HT_.out (by kernel_rfl)) ?_;(try go_wp2);go_roundg k5
            case measure => have := HJ1.out; have := HJ10.out; have := HJ18.out; have := HK4.out; have := HK5.out; omega
            case rel => exact ⟨(false), (wrap64 (x6_4 + 1)), Rs, Rs, H', ⟨by have := HJ1.out; have := HJ10.out; have := HJ18.out; have := HK4.out; have := HK5.out; omega⟩, ⟨(Bk BK237)⟩, ⟨Bw⟩⟩
         rw [if_neg c32] at H;have c32b0 := decide_eq_false c32;clear c32
         by_cases c53 : x5_4 = true
         ·subst c53;rw [if_pos rfl] at H;obtain ⟨t248, A54, H⟩ := bx H;(try dsimp -simprocs only at H)
          by_cases c55 : t248 = true
          ·subst c55;rw [if_pos rfl] at H;obtain rfl := si H;obtain ⟨Z56_0, Z56_1, Z56_2, Z56_3, Z56_4, Y56_0, Y56_1, Y56_2, Y56_3, Y56_4⟩ := cells5 BK237;go_wp2_with (first | (go_at_call 42; (with_reducible refine (r11_in.calls k4 _ _ l0_2 (⟨#[100, 97, 116, 97]⟩ : ByteArray) true _ (Cs HR0_2) HC0_2.out A54.out).mono ?_); rintro e w' ⟨rfl, ⟨nd, rfl⟩⟩));go_ret;exact ⟨Re, Bw⟩
          replace c55 := bf c55;subst c55;rw [if_neg (show ¬ (false = true) by decide)] at H;obtain ⟨t249, A57, H⟩ := bx H;(try dsimp -simprocs only at H)
          by_cases c58 : t249 = true
          ·subst c58;rw [if_pos rfl] at H;obtain rfl := si H;obtain ⟨Z59_0, Z59_1, Z59_2, Z59_3, Z59_4, Y59_0, Y59_1, Y59_2, Y59_3, Y59_4⟩ := cells5 BK237;go_wp2_with (first | (go_at_call 42; (with_reducible refine (r11_in.calls k4 _ _ l0_2 (⟨#[100, 97, 116, 97]⟩ : ByteArray) false _ (Cs HR0_2) HC0_2.out A54.out).mono ?_); rintro e w' ⟨rfl, ⟨nd, rfl⟩⟩) | (go_at_call 42; (with_reducible refine (r11_in.calls k4 _ _ l0_2 (⟨#[106, 97, 118, 97, 115, 99, 114, 105, 112, 116]⟩ : ByteArray) true _ ?side1 HC0_2.out A57.out).mono ?_); (case side1 => exact Cd (Kd.C_below HR0_2.out Bw)); rintro e w' ⟨rfl, ⟨nd, rfl⟩⟩));go_ret;exact ⟨Re, Bw⟩
          replace c58 := bf c58;subst c58;rw [if_neg (show ¬ (false = true) by decide)] at H;obtain ⟨t250, A60, H⟩ := bx H;replace H : (if t250 = true then (some 1) else (some 0)) = some r := H
          by_cases c61 : t250 = true
          ·subst c61;rw [if_pos rfl] at H;obtain rfl := si H;obtain ⟨Z62_0, Z62_1, Z62_2, Z62_3, Z62_4, Y62_0, Y62_1, Y62_2, Y62_3, Y62_4⟩ := cells5 BK237;go_wp2_with (first | (go_at_call 42; (with_reducible refine (r11_in.calls k4 _ _ l0_2 (⟨#[100, 97, 116, 97]⟩ : ByteArray) false _ (Cs HR0_2) HC0_2.out A54.out).mono ?_); rintro e w' ⟨rfl, ⟨nd, rfl⟩⟩) | (go_at_call 42; (with_reducible refine (r11_in.calls k4 _ _ l0_2 (⟨#[106, 97, 118, 97, 115, 99, 114, 105, 112, 116]⟩ : ByteArray) false _ ?side1 HC0_2.out A57.out).mono ?_); (case side1 => exact Cd (Kd.C_below HR0_2.out Bw)); rintro e w' ⟨rfl, ⟨nd, rfl⟩⟩) | (go_at_call 42; (with_reducible refine (r11_in.calls k4 _ _ l0_2 (⟨#[118, 98, 115, 99, 114, 105, 112, 116]⟩ : ByteArray) true _ ?side1 HC0_2.out A60.out).mono ?_); (case side1 => exact Cd (Kd.C_below HR0_2.out Bw)); rintro e w' ⟨rfl, ⟨nd, rfl⟩⟩));go_ret;exact ⟨Re, Bw⟩
          replace c61 := bf c61;subst c61;rw [if_neg (show ¬ (false = true) by decide)] at H;obtain rfl := si H;obtain ⟨Z63_0, Z63_1, Z63_2, Z63_3, Z63_4, Y63_0, Y63_1, Y63_2, Y63_3, Y63_4⟩ := cells5 BK237;go_wp2_with (first | (go_at_call 42; (with_reducible refine (r11_in.calls k4 _ _ l0_2 (⟨#[100, 97, 116, 97]⟩ : ByteArray) false _ (Cs HR0_2) HC0_2.out A54.out).mono ?_); rintro e w' ⟨rfl, ⟨nd, rfl⟩⟩) | (go_at_call 42; (with_reducible refine (r11_in.calls k4 _ _ l0_2 (⟨#[106, 97, 118, 97, 115, 99, 114, 105, 112, 116]⟩ : ByteArray) false _ ?side1 HC0_2.out A57.out).mono ?_); (case side1 => exact Cd (Kd.C_below HR0_2.out Bw)); rintro e w' ⟨rfl, ⟨nd, rfl⟩⟩) | (go_at_call 42; (with_reducible refine (r11_in.calls k4 _ _ l0_2 (⟨#[118, 98, 115, 99, 114, 105, 112, 116]⟩ : ByteArray) false _ ?side1 HC0_2.out A60.out).mono ?_); (case side1 => exact Cd (Kd.C_below HR0_2.out Bw)); rintro e w' ⟨rfl, ⟨nd, rfl⟩⟩));go_ret;exact ⟨Re, Bw⟩
         replace c53 := bf c53;subst c53;rw [if_neg (show ¬ (false = true) by decide)] at H;obtain rfl := si H;obtain ⟨Z64_0, Z64_1, Z64_2, Z64_3, Z64_4, Y64_0, Y64_1, Y64_2, Y64_3, Y64_4⟩ := cells5 BK237;go_wp2;go_ret;exact ⟨Re, Bw⟩

def r11_said.l0 : Nat → ByteArray → List ByteArray → Int → Option (ByteArray)
  | 0, _, _, _ => none
  | k + 1, x0, x1, x5 => if x5 < (x1.length : Int) then (if x0.size + 1 ≤ 9223372036854775807 then (if 0 ≤ x5 then (if (x0 ++ (⟨#[32]⟩ : ByteArray)).size + (rdOf ByteArray.empty x1 x5).size ≤ 9223372036854775807 then (r11_said.l0 k ((x0 ++ (⟨#[32]⟩ : ByteArray)) ++ (rdOf ByteArray.empty x1 x5)) x1 (wrap64 (x5 + 1))) else (none)) else (none)) else (none)) else (if x0.size + 1 ≤ 9223372036854775807 then (some (x0 ++ (⟨#[10]⟩ : ByteArray))) else (none))
def r11_said.f (k : Nat) (a0 : ByteArray) (l1 : List ByteArray) : Option (ByteArray) := r11_said.l0 k a0 l1 0
theorem r11_said.calls (k : Nat) (a0 : ByteArray) (A1 : Option Addr) (c1 : Nat) (l1 : List ByteArray) (r : ByteArray) (w : World) (hr1 : Kd.C Kd.string w A1 l1.length l1) (hc1 : l1.length ≤ c1) (h : r11_said.f k a0 l1 = some r) :
  Calls Tryz.prog 23 #[.string a0, .slice A1 l1.length c1] w fun e w' => e = .returned (.string r) ∧ Drawn0 w w' := by
 have HR1 := Am hr1;have HC1 := Am hc1;clear hr1 hc1;have H : (r11_said.l0 k a0 l1 0) = some r := h;clear h;have H' := Am H;clear H;go_enter Tryz.func23, Tryz.ntmps23;go_wp2
 go_loopg [0, 5] k (fun kq v0 v5 w' => ∃ (x0_1 : ByteArray) (x5_1 : Int), v0 = .string x0_1 ∧ v5 = .int .i64 x5_1 ∧ Aside0 (r11_said.l0 kq x0_1 l1 x5_1 = some r) ∧ Aside0 (kq ≤ k) ∧ Drawn0 w w')
 case atStart => exact ⟨(a0), (0), Rs, Rs, H', ⟨Nat.le_refl _⟩, by repeat (first | exact Drawn0.refl _ | apply Drawn0.step)⟩
 case round =>
  clear H';(try clear c1);(try clear c2);(try clear p2);obtain ⟨x0_1, x5_1, rfl, rfl, HA, HK1, ⟨m1, rfl⟩⟩ := hrel
  cases gk with
  | zero => exact absurd HA.out (by simp [r11_said.l0])
  | succ k1 =>
   have H := HA.out;clear HA;simp only [r11_said.l0] at H
   by_cases c3 : x5_1 < (l1.length : Int)
   ·rw [if_pos c3] at H;have c3b0 := decide_eq_true c3;clear c3
    by_cases c4 : x0_1.size + 1 ≤ 9223372036854775807
    ·rw [if_pos c4] at H;have c4b0 := eq_true c4;have c4b1 : decide (x0_1.size + 1 ≤ 9223372036854775807) = true := decide_eq_true c4;(try have c4b2 : (9223372036854775807 < x0_1.size + 1) = False := eq_false (Nat.not_lt.2 c4))
     by_cases c5 : 0 ≤ x5_1
     ·rw [if_pos c5] at H;have c5b0 := decide_eq_true c5;clear c5
      by_cases c6 : (x0_1 ++ (⟨#[32]⟩ : ByteArray)).size + (rdOf ByteArray.empty l1 x5_1).size ≤ 9223372036854775807
      ·rw [if_pos c6] at H;have c6b0 := eq_true c6;have c6b1 : decide ((x0_1 ++ (⟨#[32]⟩ : ByteArray)).size + (rdOf ByteArray.empty l1 x5_1).size ≤ 9223372036854775807) = true := decide_eq_true c6;(try have c6b2 : (9223372036854775807 < (x0_1 ++ (⟨#[32]⟩ : ByteArray)).size + (rdOf ByteArray.empty l1 x5_1).size) = False := eq_false (Nat.not_lt.2 c6));have H' := Am H;clear H;have p251 : 0 ≤ (x5_1 : Int) := Od;have q251 : x5_1 < (l1.length : Int) := Od;obtain ⟨ad251, e251, hx251_0⟩ := Kd.at_string HR1.out x5_1 p251 q251;cases e251;replace p251 := eq_true p251;replace q251 := eq_true q251;go_wp2;go_roundg k1
       case measure => have := HK1.out; omega
       case rel => exact ⟨((x0_1 ++ (⟨#[32]⟩ : ByteArray)) ++ (rdOf ByteArray.empty l1 x5_1)), (wrap64 (x5_1 + 1)), Rs, Rs, H', ⟨by have := HK1.out; omega⟩, by repeat (first | exact Drawn0.refl _ | apply Drawn0.step)⟩
      rw [if_neg c6] at H;exact absurd H (by simp)
     rw [if_neg c5] at H;exact absurd H (by simp)
    rw [if_neg c4] at H;exact absurd H (by simp)
   rw [if_neg c3] at H;have c3b0 := decide_eq_false c3;clear c3
   by_cases c7 : x0_1.size + 1 ≤ 9223372036854775807
   ·rw [if_pos c7] at H;have c7b0 := eq_true c7;have c7b1 : decide (x0_1.size + 1 ≤ 9223372036854775807) = true := decide_eq_true c7;(try have c7b2 : (9223372036854775807 < x0_1.size + 1) = False := eq_false (Nat.not_lt.2 c7));obtain rfl := si H;go_wp2;go_ret;exact ⟨Rs, Dw⟩
   rw [if_neg c7] at H;exact absurd H (by simp)

mutual
def r11_Print.j0 : Nat → ByteArray → List (S38) → List ByteArray → List ByteArray → List ByteArray → Int → Option (ByteArray × Int)
  | 0, _, _, _, _, _, _ => none
  | k + 1, x5, x253000, x253001, x253002, x253003, x253004 => (r11_said.f k (⟨#[100, 101, 101, 112]⟩ : ByteArray) (([x5] : List ByteArray))).bind fun t257 => (r11_Print.l0 k t257 0 x253000 x253001 x253002 x253003 x253004)
def r11_Print.l0 : Nat → ByteArray → Int → List (S38) → List ByteArray → List ByteArray → List ByteArray → Int → Option (ByteArray × Int)
  | 0, _, _, _, _, _, _, _ => none
  | k + 1, x6, x7, x253000, x253001, x253002, x253003, x253004 => if x7 < (x253000.length : Int) then (if 0 ≤ x7 then (if 8 + ((rd_T38 x253000 x7).f0).size ≤ 9223372036854775807 then ((r11_said.f k ((⟨#[101, 108, 101, 109, 101, 110, 116, 32]⟩ : ByteArray) ++ ((rd_T38 x253000 x7).f0)) ((rd_T38 x253000 x7).f1)).bind fun t260 => (if x6.size + t260.size ≤ 9223372036854775807 then (r11_Print.l0 k (x6 ++ t260) (wrap64 (x7 + 1)) x253000 x253001 x253002 x253003 x253004) else (none))) else (none)) else (none)) else (if (x253001.length : Int) > 0 then ((r11_said.f k (⟨#[108, 105, 110, 107]⟩ : ByteArray) x253001).bind fun t261 => (if x6.size + t261.size ≤ 9223372036854775807 then (r11_Print.j2 k (x6 ++ t261) x253000 x253001 x253002 x253003 x253004) else (none))) else (r11_Print.j2 k x6 x253000 x253001 x253002 x253003 x253004))
def r11_Print.j2 : Nat → ByteArray → List (S38) → List ByteArray → List ByteArray → List ByteArray → Int → Option (ByteArray × Int)
  | 0, _, _, _, _, _, _ => none
  | k + 1, x6, x253000, x253001, x253002, x253003, x253004 => if (x253002.length : Int) > 0 then ((r11_said.f k (⟨#[115, 99, 104, 101, 109, 101]⟩ : ByteArray) x253002).bind fun t262 => (if x6.size + t262.size ≤ 9223372036854775807 then (if (x253003.length : Int) > 0 then ((r11_said.f k (⟨#[100, 114, 111, 112]⟩ : ByteArray) x253003).bind fun t263 => (if (x6 ++ t262).size + t263.size ≤ 9223372036854775807 then (some ((x6 ++ t262) ++ t263, 0)) else (none))) else (some (x6 ++ t262, 0))) else (none))) else (if (x253003.length : Int) > 0 then ((r11_said.f k (⟨#[100, 114, 111, 112]⟩ : ByteArray) x253003).bind fun t264 => (if x6.size + t264.size ≤ 9223372036854775807 then (some (x6 ++ t264, 0)) else (none))) else (some (x6, 0)))
end
def r11_Print.f (k : Nat) (l0_0 : List (S38)) (l0_1 : List ByteArray) (l0_2 : List ByteArray) (l0_3 : List ByteArray) (a0_4 : Int) : Option (ByteArray × Int) := (r11_Check.f k l0_0 l0_1 l0_2 l0_3 a0_4).bind fun t253 => (if t253 = 0 then (if 0 ≤ (Int.tmod a0_4 10) then (if (Int.tmod a0_4 10) ≤ (wrap64 ((Int.tmod a0_4 10) + 1)) then (if (wrap64 ((Int.tmod a0_4 10) + 1)) ≤ 10 then (if a0_4 ≥ 10 then (if 0 ≤ (wrap64 (Int.tdiv a0_4 10)) then (if (wrap64 (Int.tdiv a0_4 10)) ≤ (wrap64 ((wrap64 (Int.tdiv a0_4 10)) + 1)) then (if (wrap64 ((wrap64 (Int.tdiv a0_4 10)) + 1)) ≤ 10 then (if ((⟨#[48, 49, 50, 51, 52, 53, 54, 55, 56, 57]⟩ : ByteArray).extract ((wrap64 (Int.tdiv a0_4 10)) : Int).toNat ((wrap64 ((wrap64 (Int.tdiv a0_4 10)) + 1)) : Int).toNat).size + ((⟨#[48, 49, 50, 51, 52, 53, 54, 55, 56, 57]⟩ : ByteArray).extract ((Int.tmod a0_4 10) : Int).toNat ((wrap64 ((Int.tmod a0_4 10) + 1)) : Int).toNat).size ≤ 9223372036854775807 then (r11_Print.j0 k (((⟨#[48, 49, 50, 51, 52, 53, 54, 55, 56, 57]⟩ : ByteArray).extract ((wrap64 (Int.tdiv a0_4 10)) : Int).toNat ((wrap64 ((wrap64 (Int.tdiv a0_4 10)) + 1)) : Int).toNat) ++ ((⟨#[48, 49, 50, 51, 52, 53, 54, 55, 56, 57]⟩ : ByteArray).extract ((Int.tmod a0_4 10) : Int).toNat ((wrap64 ((Int.tmod a0_4 10) + 1)) : Int).toNat)) l0_0 l0_1 l0_2 l0_3 a0_4) else (none)) else (none)) else (none)) else (none)) else (r11_Print.j0 k ((⟨#[48, 49, 50, 51, 52, 53, 54, 55, 56, 57]⟩ : ByteArray).extract ((Int.tmod a0_4 10) : Int).toNat ((wrap64 ((Int.tmod a0_4 10) + 1)) : Int).toNat) l0_0 l0_1 l0_2 l0_3 a0_4)) else (none)) else (none)) else (none)) else (some ((⟨#[]⟩ : ByteArray), t253)))
theorem r11_Print.calls (k : Nat) (A0_0 : Option Addr) (c0_0 : Nat) (l0_0 : List (S38)) (A0_1 : Option Addr) (c0_1 : Nat) (l0_1 : List ByteArray) (A0_2 : Option Addr) (c0_2 : Nat) (l0_2 : List ByteArray) (A0_3 : Option Addr) (c0_3 : Nat) (l0_3 : List ByteArray) (a0_4 : Int) (r1 : ByteArray) (r2 : Int) (w : World) (hr0_0 : Kd.C k38 w A0_0 l0_0.length l0_0) (hc0_0 : l0_0.length ≤ c0_0) (hr0_1 : Kd.C Kd.string w A0_1 l0_1.length l0_1) (hc0_1 : l0_1.length ≤ c0_1) (hr0_2 : Kd.C Kd.string w A0_2 l0_2.length l0_2) (hc0_2 : l0_2.length ≤ c0_2) (hr0_3 : Kd.C Kd.string w A0_3 l0_3.length l0_3) (hc0_3 : l0_3.length ≤ c0_3) (h : r11_Print.f k l0_0 l0_1 l0_2 l0_3 a0_4 = some (r1, r2)) :
  Calls Tryz.prog 8 #[.agg #[.slice A0_0 l0_0.length c0_0, .slice A0_1 l0_1.length c0_1, .slice A0_2 l0_2.length c0_2, .slice A0_3 l0_3.length c0_3, .int .i64 a0_4]] w fun e w' => e = .returned (.tuple #[.string r1, .int .i64 r2]) ∧ Below w.heap.size w w' := by
 have hu25 := Tryz.underlying25;obtain ⟨HR0_0, HC0_0, HR0_1, HC0_1⟩ := as4 hr0_0 hc0_0 hr0_1 hc0_1;clear hr0_0 hc0_0 hr0_1 hc0_1;obtain ⟨HR0_2, HC0_2, HR0_3, HC0_3⟩ := as4 hr0_2 hc0_2 hr0_3 hc0_3;clear hr0_2 hc0_2 hr0_3 hc0_3;have HB := Am (Below.refl w.heap.size w);have H : ((r11_Check.f k l0_0 l0_1 l0_2 l0_3 a0_4).bind fun t253 => (if t253 = 0 then (if 0 ≤ (Int.tmod a0_4 10) then (if (Int.tmod a0_4 10) ≤ (wrap64 ((Int.tmod a0_4 10) + 1)) then (if (wrap64 ((Int.tmod a0_4 10) + 1)) ≤ 10 then (if a0_4 ≥ 10 then (if 0 ≤ (wrap64 (Int.tdiv a0_4 10)) then (if (wrap64 (Int.tdiv a0_4 10)) ≤ (wrap64 ((wrap64 (Int.tdiv a0_4 10)) + 1)) then (if (wrap64 ((wrap64 (Int.tdiv a0_4 10)) + 1)) ≤ 10 then (if ((⟨#[48, 49, 50, 51, 52, 53, 54, 55, 56, 57]⟩ : ByteArray).extract ((wrap64 (Int.tdiv a0_4 10)) : Int).toNat ((wrap64 ((wrap64 (Int.tdiv a0_4 10)) + 1)) : Int).toNat).size + ((⟨#[48, 49, 50, 51, 52, 53, 54, 55, 56, 57]⟩ : ByteArray).extract ((Int.tmod a0_4 10) : Int).toNat ((wrap64 ((Int.tmod a0_4 10) + 1)) : Int).toNat).size ≤ 9223372036854775807 then (r11_Print.j0 k (((⟨#[48, 49, 50, 51, 52, 53, 54, 55, 56, 57]⟩ : ByteArray).extract ((wrap64 (Int.tdiv a0_4 10)) : Int).toNat ((wrap64 ((wrap64 (Int.tdiv a0_4 10)) + 1)) : Int).toNat) ++ ((⟨#[48, 49, 50, 51, 52, 53, 54, 55, 56, 57]⟩ : ByteArray).extract ((Int.tmod a0_4 10) : Int).toNat ((wrap64 ((Int.tmod a0_4 10) + 1)) : Int).toNat)) l0_0 l0_1 l0_2 l0_3 a0_4) else (none)) else (none)) else (none)) else (none)) else (r11_Print.j0 k ((⟨#[48, 49, 50, 51, 52, 53, 54, 55, 56, 57]⟩ : ByteArray).extract ((Int.tmod a0_4 10) : Int).toNat ((wrap64 ((Int.tmod a0_4 10) + 1)) : Int).toNat) l0_0 l0_1 l0_2 l0_3 a0_4)) else (none)) else (none)) else (none)) else (some ((⟨#[]⟩ : ByteArray), t253)))) = some (r1, r2) := h;clear h;obtain ⟨t253, A2, H⟩ := bx H;replace H : (if t253 = 0 then (if 0 ≤ (Int.tmod a0_4 10) then (if (Int.tmod a0_4 10) ≤ (wrap64 ((Int.tmod a0_4 10) + 1)) then (if (wrap64 ((Int.tmod a0_4 10) + 1)) ≤ 10 then (if a0_4 ≥ 10 then (if 0 ≤ (wrap64 (Int.tdiv a0_4 10)) then (if (wrap64 (Int.tdiv a0_4 10)) ≤ (wrap64 ((wrap64 (Int.tdiv a0_4 10)) + 1)) then (if (wrap64 ((wrap64 (Int.tdiv a0_4 10)) + 1)) ≤ 10 then (if ((⟨#[48, 49, 50, 51, 52, 53, 54, 55, 56, 57]⟩ : ByteArray).extract ((wrap64 (Int.tdiv a0_4 10)) : Int).toNat ((wrap64 ((wrap64 (Int.tdiv a0_4 10)) + 1)) : Int).toNat).size + ((⟨#[48, 49, 50, 51, 52, 53, 54, 55, 56, 57]⟩ : ByteArray).extract ((Int.tmod a0_4 10) : Int).toNat ((wrap64 ((Int.tmod a0_4 10) + 1)) : Int).toNat).size ≤ 9223372036854775807 then (r11_Print.j0 k (((⟨#[48, 49, 50, 51, 52, 53, 54, 55, 56, 57]⟩ : ByteArray).extract ((wrap64 (Int.tdiv a0_4 10)) : Int).toNat ((wrap64 ((wrap64 (Int.tdiv a0_4 10)) + 1)) : Int).toNat) ++ ((⟨#[48, 49, 50, 51, 52, 53, 54, 55, 56, 57]⟩ : ByteArray).extract ((Int.tmod a0_4 10) : Int).toNat ((wrap64 ((Int.tmod a0_4 10) + 1)) : Int).toNat)) l0_0 l0_1 l0_2 l0_3 a0_4) else (none)) else (none)) else (none)) else (none)) else (r11_Print.j0 k ((⟨#[48, 49, 50, 51, 52, 53, 54, 55, 56, 57]⟩ : ByteArray).extract ((Int.tmod a0_4 10) : Int).toNat ((wrap64 ((Int.tmod a0_4 10) + 1)) : Int).toNat) l0_0 l0_1 l0_2 l0_3 a0_4)) else (none)) else (none)) else (none)) else (some ((⟨#[]⟩ : ByteArray), t253))) = some (r1, r2) := H
 by_cases c3 : t253 = 0
 ·rw [if_pos c3] at H;obtain ⟨c3b0, c3b1⟩ := eqb c3;clear c3;obtain ⟨ji4, hji4⟩ : ∃ j_ : Int, (Int.tmod a0_4 10) = j_ := ⟨_, rfl⟩;replace H : (if 0 ≤ (ji4) then (if (ji4) ≤ (wrap64 ((ji4) + 1)) then (if (wrap64 ((ji4) + 1)) ≤ 10 then (if a0_4 ≥ 10 then (if 0 ≤ (wrap64 (Int.tdiv a0_4 10)) then (if (wrap64 (Int.tdiv a0_4 10)) ≤ (wrap64 ((wrap64 (Int.tdiv a0_4 10)) + 1)) then (if (wrap64 ((wrap64 (Int.tdiv a0_4 10)) + 1)) ≤ 10 then (if ((⟨#[48, 49, 50, 51, 52, 53, 54, 55, 56, 57]⟩ : ByteArray).extract ((wrap64 (Int.tdiv a0_4 10)) : Int).toNat ((wrap64 ((wrap64 (Int.tdiv a0_4 10)) + 1)) : Int).toNat).size + ((⟨#[48, 49, 50, 51, 52, 53, 54, 55, 56, 57]⟩ : ByteArray).extract ((ji4) : Int).toNat ((wrap64 ((ji4) + 1)) : Int).toNat).size ≤ 9223372036854775807 then (r11_Print.j0 k (((⟨#[48, 49, 50, 51, 52, 53, 54, 55, 56, 57]⟩ : ByteArray).extract ((wrap64 (Int.tdiv a0_4 10)) : Int).toNat ((wrap64 ((wrap64 (Int.tdiv a0_4 10)) + 1)) : Int).toNat) ++ ((⟨#[48, 49, 50, 51, 52, 53, 54, 55, 56, 57]⟩ : ByteArray).extract ((ji4) : Int).toNat ((wrap64 ((ji4) + 1)) : Int).toNat)) l0_0 l0_1 l0_2 l0_3 a0_4) else (none)) else (none)) else (none)) else (none)) else (r11_Print.j0 k ((⟨#[48, 49, 50, 51, 52, 53, 54, 55, 56, 57]⟩ : ByteArray).extract ((ji4) : Int).toNat ((wrap64 ((ji4) + 1)) : Int).toNat) l0_0 l0_1 l0_2 l0_3 a0_4)) else (none)) else (none)) else (none)) = some (r1, r2) := by first | (rw [hji4] at H; exact H) | (simp only [hji4] at H ⊢; exact H)
  (try rw [hji4] at A2)
  by_cases c5 : 0 ≤ (ji4)
  ·rw [if_pos c5] at H;have c5b0 := eq_true c5;have c5b1 : decide (0 ≤ (ji4)) = true := decide_eq_true c5;clear c5
   by_cases c6 : (ji4) ≤ (wrap64 ((ji4) + 1))
   ·rw [if_pos c6] at H;have c6b0 := eq_true c6;have c6b1 : decide ((ji4) ≤ (wrap64 ((ji4) + 1))) = true := decide_eq_true c6
    by_cases c7 : (wrap64 ((ji4) + 1)) ≤ 10
    ·rw [if_pos c7] at H;have c7b0 := eq_true c7;have c7b1 : decide ((wrap64 ((ji4) + 1)) ≤ 10) = true := decide_eq_true c7;have HC8 := Am H;clear H;go_enter Tryz.func8, Tryz.ntmps8
     go_upto_if 23 with (first | ((with_reducible refine gate_dst (N := 1) rfl ?_); refine box5 25 1 (cs := #[.slice A0_0 l0_0.length c0_0, .slice A0_1 l0_1.length c0_1, .slice A0_2 l0_2.length c0_2, .slice A0_3 l0_3.length c0_3, .int .i64 a0_4]) ?_; clear HB; intro gb252 w9 HB BK252 GE252; obtain ⟨Z10_0, Z10_1, Z10_2, Z10_3, Z10_4, Y10_0, Y10_1, Y10_2, Y10_3, Y10_4⟩ := cells5 BK252) | (go_at_call 22; (with_reducible refine (r11_Check.calls k _ _ l0_0 _ _ l0_1 _ _ l0_2 _ _ l0_3 a0_4 t253 _ (Cs HR0_0) HC0_0.out (Cs HR0_1) HC0_1.out (Cs HR0_2) HC0_2.out (Cs HR0_3) HC0_3.out A2.out).mono ?_); rintro e w11 ⟨rfl, hb⟩; replace BK252 := Bb BK252 hb; replace HB := Bs hb; clear hb; obtain ⟨Z12_0, Z12_1, Z12_2, Z12_3, Z12_4, Y12_0, Y12_1, Y12_2, Y12_3, Y12_4⟩ := cells5 BK252))
     repeat (go_quiet (first | ((with_reducible refine gate_dst (N := 1) rfl ?_); refine box5 25 1 (cs := #[.slice A0_0 l0_0.length c0_0, .slice A0_1 l0_1.length c0_1, .slice A0_2 l0_2.length c0_2, .slice A0_3 l0_3.length c0_3, .int .i64 a0_4]) ?_; clear HB; intro gb252 w9 HB BK252 GE252; obtain ⟨Z10_0, Z10_1, Z10_2, Z10_3, Z10_4, Y10_0, Y10_1, Y10_2, Y10_3, Y10_4⟩ := cells5 BK252) | (go_at_call 22; (with_reducible refine (r11_Check.calls k _ _ l0_0 _ _ l0_1 _ _ l0_2 _ _ l0_3 a0_4 t253 _ (Cs HR0_0) HC0_0.out (Cs HR0_1) HC0_1.out (Cs HR0_2) HC0_2.out (Cs HR0_3) HC0_3.out A2.out).mono ?_); rintro e w11 ⟨rfl, hb⟩; replace BK252 := Bb BK252 hb; replace HB := Bs hb; clear hb; obtain ⟨Z12_0, Z12_1, Z12_2, Z12_3, Z12_4, Y12_0, Y12_1, Y12_2, Y12_3, Y12_4⟩ := cells5 BK252)); go_upto_if 23 with (first | ((with_reducible refine gate_dst (N := 1) rfl ?_); refine box5 25 1 (cs := #[.slice A0_0 l0_0.length c0_0, .slice A0_1 l0_1.length c0_1, .slice A0_2 l0_2.length c0_2, .slice A0_3 l0_3.length c0_3, .int .i64 a0_4]) ?_; clear HB; intro gb252 w9 HB BK252 GE252; obtain ⟨Z10_0, Z10_1, Z10_2, Z10_3, Z10_4, Y10_0, Y10_1, Y10_2, Y10_3, Y10_4⟩ := cells5 BK252) | (go_at_call 22; (with_reducible refine (r11_Check.calls k _ _ l0_0 _ _ l0_1 _ _ l0_2 _ _ l0_3 a0_4 t253 _ (Cs HR0_0) HC0_0.out (Cs HR0_1) HC0_1.out (Cs HR0_2) HC0_2.out (Cs HR0_3) HC0_3.out A2.out).mono ?_); rintro e w11 ⟨rfl, hb⟩; replace BK252 := Bb BK252 hb; replace HB := Bs hb; clear hb; obtain ⟨Z12_0, Z12_1, Z12_2, Z12_3, Z12_4, Y12_0, Y12_1, Y12_2, Y12_3, Y12_4⟩ := cells5 BK252)))
     (try simp only [Act.put, List.setIfInBounds_toArray, List.set_cons_zero, List.set_cons_succ])
     go_cut [5] (fun v5 wc => ∃ (kq : Nat) (x5_7 : ByteArray), v5 = .string x5_7 ∧ Aside0 (r11_Print.j0 kq x5_7 l0_0 l0_1 l0_2 l0_3 a0_4 = some (r1, r2)) ∧ Aside0 (kq ≤ k) ∧ Aside0 (wc.heap[gb252]? = some (.cells #[(.slice A0_0 l0_0.length c0_0), (.slice A0_1 l0_1.length c0_1), (.slice A0_2 l0_2.length c0_2), (.slice A0_3 l0_3.length c0_3), .int .i64 a0_4] 25 (0, 0))) ∧ Aside0 (Below w.heap.size w wc))
     case first =>
      have H := HC8.out;clear HC8
      by_cases c13 : a0_4 ≥ 10
      ·rw [if_pos c13] at H;have c13b0 := dge c13;clear c13;(first | rw [c13b0] | rw [c13b1] | (simp only [i64_w, i32_w]; rw [c13b0]) | skip);obtain ⟨ji14, hji14⟩ : ∃ j_ : Int, (wrap64 (Int.tdiv a0_4 10)) = j_ := ⟨_, rfl⟩;replace H : (if 0 ≤ (ji14) then (if (ji14) ≤ (wrap64 ((ji14) + 1)) then (if (wrap64 ((ji14) + 1)) ≤ 10 then (if ((⟨#[48, 49, 50, 51, 52, 53, 54, 55, 56, 57]⟩ : ByteArray).extract ((ji14) : Int).toNat ((wrap64 ((ji14) + 1)) : Int).toNat).size + ((⟨#[48, 49, 50, 51, 52, 53, 54, 55, 56, 57]⟩ : ByteArray).extract ((ji4) : Int).toNat ((wrap64 ((ji4) + 1)) : Int).toNat).size ≤ 9223372036854775807 then (r11_Print.j0 k (((⟨#[48, 49, 50, 51, 52, 53, 54, 55, 56, 57]⟩ : ByteArray).extract ((ji14) : Int).toNat ((wrap64 ((ji14) + 1)) : Int).toNat) ++ ((⟨#[48, 49, 50, 51, 52, 53, 54, 55, 56, 57]⟩ : ByteArray).extract ((ji4) : Int).toNat ((wrap64 ((ji4) + 1)) : Int).toNat)) l0_0 l0_1 l0_2 l0_3 a0_4) else (none)) else (none)) else (none)) else (none)) = some (r1, r2) := by first | (rw [hji14] at H; exact H) | (simp only [hji14] at H ⊢; exact H)
       have hji14w : (IntKind.i64.wrap (Int.tdiv a0_4 10)) = ji14 := (i64_w _).trans hji14
       by_cases c15 : 0 ≤ (ji14)
       ·rw [if_pos c15] at H;have c15b0 := eq_true c15;have c15b1 : decide (0 ≤ (ji14)) = true := decide_eq_true c15;clear c15
        by_cases c16 : (ji14) ≤ (wrap64 ((ji14) + 1))
        ·rw [if_pos c16] at H;have c16b0 := eq_true c16;have c16b1 : decide ((ji14) ≤ (wrap64 ((ji14) + 1))) = true := decide_eq_true c16
         by_cases c17 : (wrap64 ((ji14) + 1)) ≤ 10
         ·rw [if_pos c17] at H;have c17b0 := eq_true c17;have c17b1 : decide ((wrap64 ((ji14) + 1)) ≤ 10) = true := decide_eq_true c17
          by_cases c18 : ((⟨#[48, 49, 50, 51, 52, 53, 54, 55, 56, 57]⟩ : ByteArray).extract ((ji14) : Int).toNat ((wrap64 ((ji14) + 1)) : Int).toNat).size + ((⟨#[48, 49, 50, 51, 52, 53, 54, 55, 56, 57]⟩ : ByteArray).extract ((ji4) : Int).toNat ((wrap64 ((ji4) + 1)) : Int).toNat).size ≤ 9223372036854775807
          ·rw [if_pos c18] at H;have c18b0 := eq_true c18;have c18b1 : decide (((⟨#[48, 49, 50, 51, 52, 53, 54, 55, 56, 57]⟩ : ByteArray).extract ((ji14) : Int).toNat ((wrap64 ((ji14) + 1)) : Int).toNat).size + ((⟨#[48, 49, 50, 51, 52, 53, 54, 55, 56, 57]⟩ : ByteArray).extract ((ji4) : Int).toNat ((wrap64 ((ji4) + 1)) : Int).toNat).size ≤ 9223372036854775807) = true := decide_eq_true c18;(try have c18b2 : (9223372036854775807 < ((⟨#[48, 49, 50, 51, 52, 53, 54, 55, 56, 57]⟩ : ByteArray).extract ((ji14) : Int).toNat ((wrap64 ((ji14) + 1)) : Int).toNat).size + ((⟨#[48, 49, 50, 51, 52, 53, 54, 55, 56, 57]⟩ : ByteArray).extract ((ji4) : Int).toNat ((wrap64 ((ji4) + 1)) : Int).toNat).size) = False := eq_false (Nat.not_lt.2 c18));have H' := Am H;clear H;obtain ⟨Z19_0, Z19_1, Z19_2, Z19_3, Z19_4, Y19_0, Y19_1, Y19_2, Y19_3, Y19_4⟩ := cells5 BK252;go_wp2
           repeat (go_quiet (fail); try go_wp2)
           go_meet
           case rel => exact ⟨_, (((⟨#[48, 49, 50, 51, 52, 53, 54, 55, 56, 57]⟩ : ByteArray).extract ((ji14) : Int).toNat ((wrap64 ((ji14) + 1)) : Int).toNat) ++ ((⟨#[48, 49, 50, 51, 52, 53, 54, 55, 56, 57]⟩ : ByteArray).extract ((ji4) : Int).toNat ((wrap64 ((ji4) + 1)) : Int).toNat)), (by first | rfl | (simp; done) | (simp only [← hji4, ← hji14] <;> (first | rfl | simp)) | (simp [*]; done)), H', ⟨On⟩, ⟨(Bk BK252)⟩, ⟨Bw⟩⟩
          rw [if_neg c18] at H;exact absurd H (by simp)
         rw [if_neg c17] at H;exact absurd H (by simp)
        rw [if_neg c16] at H;exact absurd H (by simp)
       rw [if_neg c15] at H;exact absurd H (by simp)
      rw [if_neg c13] at H;have c13b0 := nge c13;clear c13;(first | rw [c13b0] | rw [c13b1] | (simp only [i64_w, i32_w]; rw [c13b0]) | skip);have H' := Am H;clear H;go_wp2
      repeat (go_quiet (fail); try go_wp2)
      go_meet
      case rel => exact ⟨_, ((⟨#[48, 49, 50, 51, 52, 53, 54, 55, 56, 57]⟩ : ByteArray).extract ((ji4) : Int).toNat ((wrap64 ((ji4) + 1)) : Int).toNat), (by first | rfl | (simp; done) | (simp only [← hji4] <;> (first | rfl | simp)) | (simp [*]; done)), H', ⟨On⟩, ⟨(Bk BK252)⟩, ⟨Bw⟩⟩
     case rest =>
      clear HC8;(try clear c1);(try clear p2);(try clear c3);(try clear c3b0);(try clear c3b1);(try clear c5);(try clear c5b0);(try clear c5b1);(try clear c6);(try clear c6b0);(try clear c6b1);(try clear p6);(try clear c7);(try clear c7b0);(try clear c7b1);(try clear c8);(try clear c13);(try clear c13b0);(try clear c15);(try clear c15b0);(try clear c15b1);(try clear c16);(try clear c16b0);(try clear c16b1);(try clear c17);(try clear c17b0);(try clear c17b1);(try clear c18);(try clear c18b0);(try clear c18b1);(try clear c18b2);(try clear Z10_0 Z10_1 Z10_2 Z10_3 Z10_4);(try clear Z12_0 Z12_1 Z12_2 Z12_3 Z12_4);(try clear Z19_0 Z19_1 Z19_2 Z19_3 Z19_4);(try clear Y10_0 Y10_1 Y10_2 Y10_3 Y10_4);(try clear Y12_0 Y12_1 Y12_2 Y12_3 Y12_4);(try clear Y19_0 Y19_1 Y19_2 Y19_3 Y19_4);obtain ⟨kq, x5_7, rfl, HA, HJ7, BK252, HB⟩ := hcut
      cases kq with
      | zero => exact absurd HA.out (by simp [r11_Print.j0])
      | succ kj7 =>
       have H := HA.out;clear HA;simp only [r11_Print.j0] at H;obtain ⟨y254, hy254⟩ : ∃ y_ : List ByteArray, y_ = (([x5_7] : List ByteArray)) := ⟨_, rfl⟩;replace H : ((r11_said.f kj7 (⟨#[100, 101, 101, 112]⟩ : ByteArray) y254).bind fun t257 => (r11_Print.l0 kj7 t257 0 l0_0 l0_1 l0_2 l0_3 a0_4)) = some (r1, r2) := by first | (rw [hy254]; with_reducible exact H) | (have H2_ := (Option.bind_some _ _).symm.trans H; rw [hy254]; with_reducible exact H2_) | (have H2_ := (Option.bind_some _ _).symm.trans H; with_reducible exact H2_) | with_reducible exact H | (rw [hy254]; exact H) | exact H
       have Ny254 := Am hy254;clear hy254;obtain ⟨t257, A20, H⟩ := bx H;replace H : (r11_Print.l0 kj7 t257 0 l0_0 l0_1 l0_2 l0_3 a0_4) = some (r1, r2) := H;have H' := Am H;clear H;go_wp2_with (first | ((with_reducible refine gate_dst (N := 35) rfl ?_); refine Kd.R_lit Kd.string _ 9 ?hg (N := 35) ?hd (xs := ([x5_7] : List ByteArray)) (inner := [.string x5_7]) (ok := fun _ => True) (okp := fun _ => True) ?hr ?hp (fun _ hk => hk) trivial (Below.refl _ _) (Nat.le_refl _) (by simp) ?_; (case hd => rfl); (case hg => rfl); (case hr => first | (go_simp; done) | (go_simp; rfl)); (case hp => exact (Reps.one (show Kd.M Kd.string _ _ _ x5_7 [.string x5_7] from rfl) (Reps.none _ _))); intro v255 w21 ho22 hb hg_ hnew_; clear hg_ hnew_; (first | rw [← Ny254.out] at ho22 | (simp only [Int.reduceToNat] at ho22; rw [← Ny254.out] at ho22)); replace HO256 := Am (Kd.R_lower ho22 (below_size Bw)); replace BK252 := Bb BK252 hb; replace HB := Bs hb; clear hb ho22; obtain ⟨Ao23, co23, eo23⟩ := Kd.R_slice HO256.out; subst eo23) | (go_at_call 23; (with_reducible refine (r11_said.calls kj7 (⟨#[100, 101, 101, 112]⟩ : ByteArray) _ _ y254 t257 _ ?side1 ?side2 A20.out).mono ?_); (case side1 => repeat (first | exact (Kd.R_reads' HO256.out).2.2 | (with_reducible refine Kd.C_alloc ?_ _) | (with_reducible refine Kd.C_drewN ?_ _) | (with_reducible refine Kd.C_drew ?_))); (case side2 => exact (Kd.R_reads' HO256.out).2.1); rintro e w' ⟨rfl, ⟨nd, rfl⟩⟩; (try first | exact ⟨rfl, _, World.drewN_drewN _ _ _⟩ | exact ⟨rfl, _, Eq.trans (World.drewN_drewN _ _ _) (congrArg (World.drewN _) (Nat.add_assoc _ _ _))⟩)))
       repeat (go_quiet (first | ((with_reducible refine gate_dst (N := 35) rfl ?_); refine Kd.R_lit Kd.string _ 9 ?hg (N := 35) ?hd (xs := ([x5_7] : List ByteArray)) (inner := [.string x5_7]) (ok := fun _ => True) (okp := fun _ => True) ?hr ?hp (fun _ hk => hk) trivial (Below.refl _ _) (Nat.le_refl _) (by simp) ?_; (case hd => rfl); (case hg => rfl); (case hr => first | (go_simp; done) | (go_simp; rfl)); (case hp => exact (Reps.one (show Kd.M Kd.string _ _ _ x5_7 [.string x5_7] from rfl) (Reps.none _ _))); intro v255 w21 ho22 hb hg_ hnew_; clear hg_ hnew_; (first | rw [← Ny254.out] at ho22 | (simp only [Int.reduceToNat] at ho22; rw [← Ny254.out] at ho22)); replace HO256 := Am (Kd.R_lower ho22 (below_size Bw)); replace BK252 := Bb BK252 hb; replace HB := Bs hb; clear hb ho22; obtain ⟨Ao23, co23, eo23⟩ := Kd.R_slice HO256.out; subst eo23) | (go_at_call 23; (with_reducible refine (r11_said.calls kj7 (⟨#[100, 101, 101, 112]⟩ : ByteArray) _ _ y254 t257 _ ?side1 ?side2 A20.out).mono ?_); (case side1 => repeat (first | exact (Kd.R_reads' HO256.out).2.2 | (with_reducible refine Kd.C_alloc ?_ _) | (with_reducible refine Kd.C_drewN ?_ _) | (with_reducible refine Kd.C_drew ?_))); (case side2 => exact (Kd.R_reads' HO256.out).2.1); rintro e w' ⟨rfl, ⟨nd, rfl⟩⟩; (try first | exact ⟨rfl, _, World.drewN_drewN _ _ _⟩ | exact ⟨rfl, _, Eq.trans (World.drewN_drewN _ _ _) (congrArg (World.drewN _) (Nat.add_assoc _ _ _))⟩))); try go_wp2_with (first | ((with_reducible refine gate_dst (N := 35) rfl ?_); refine Kd.R_lit Kd.string _ 9 ?hg (N := 35) ?hd (xs := ([x5_7] : List ByteArray)) (inner := [.string x5_7]) (ok := fun _ => True) (okp := fun _ => True) ?hr ?hp (fun _ hk => hk) trivial (Below.refl _ _) (Nat.le_refl _) (by simp) ?_; (case hd => rfl); (case hg => rfl); (case hr => first | (go_simp; done) | (go_simp; rfl)); (case hp => exact (Reps.one (show Kd.M Kd.string _ _ _ x5_7 [.string x5_7] from rfl) (Reps.none _ _))); intro v255 w21 ho22 hb hg_ hnew_; clear hg_ hnew_; (first | rw [← Ny254.out] at ho22 | (simp only [Int.reduceToNat] at ho22; rw [← Ny254.out] at ho22)); replace HO256 := Am (Kd.R_lower ho22 (below_size Bw)); replace BK252 := Bb BK252 hb; replace HB := Bs hb; clear hb ho22; obtain ⟨Ao23, co23, eo23⟩ := Kd.R_slice HO256.out; subst eo23) | (go_at_call 23; (with_reducible refine (r11_said.calls kj7 (⟨#[100, 101, 101, 112]⟩ : ByteArray) _ _ y254 t257 _ ?side1 ?side2 A20.out).mono ?_); (case side1 => repeat (first | exact (Kd.R_reads' HO256.out).2.2 | (with_reducible refine Kd.C_alloc ?_ _) | (with_reducible refine Kd.C_drewN ?_ _) | (with_reducible refine Kd.C_drew ?_))); (case side2 => exact (Kd.R_reads' HO256.out).2.1); rintro e w' ⟨rfl, ⟨nd, rfl⟩⟩; (try first | exact ⟨rfl, _, World.drewN_drewN _ _ _⟩ | exact ⟨rfl, _, Eq.trans (World.drewN_drewN _ _ _) (congrArg (World.drewN _) (Nat.add_assoc _ _ _))⟩))))
       go_loopg [6, 7] kj7 (fun kq v6 v7 w' => ∃ (x6_2 : ByteArray) (x7_2 : Int), v6 = .string x6_2 ∧ v7 = .int .i64 x7_2 ∧ Aside0 (r11_Print.l0 kq x6_2 x7_2 l0_0 l0_1 l0_2 l0_3 a0_4 = some (r1, r2)) ∧ Aside0 (kq ≤ kj7) ∧ Aside0 (w'.heap[gb252]? = some (.cells #[(.slice A0_0 l0_0.length c0_0), (.slice A0_1 l0_1.length c0_1), (.slice A0_2 l0_2.length c0_2), (.slice A0_3 l0_3.length c0_3), .int .i64 a0_4] 25 (0, 0))) ∧ Aside0 (Below w.heap.size w w'))
       case atStart => exact ⟨(t257), (0), Rs, Rs, H', ⟨Nat.le_refl _⟩, ⟨(Bk BK252)⟩, ⟨Bw⟩⟩
       case round =>
        clear H';(try clear c1);(try clear p2);(try clear c3);(try clear c3b0);(try clear c3b1);(try clear c5);(try clear c5b0);(try clear c5b1);(try clear c6);(try clear c6b0);(try clear c6b1);(try clear p6);(try clear c7);(try clear c7b0);(try clear c7b1);(try clear c8);(try clear c13);(try clear c13b0);(try clear c15);(try clear c15b0);(try clear c15b1);(try clear c16);(try clear c16b0);(try clear c16b1);(try clear c17);(try clear c17b0);(try clear c17b1);(try clear c18);(try clear c18b0);(try clear c18b1);(try clear c18b2);(try clear Z10_0 Z10_1 Z10_2 Z10_3 Z10_4);(try clear Z12_0 Z12_1 Z12_2 Z12_3 Z12_4);(try clear Z19_0 Z19_1 Z19_2 Z19_3 Z19_4);(try clear Y10_0 Y10_1 Y10_2 Y10_3 Y10_4);(try clear Y12_0 Y12_1 Y12_2 Y12_3 Y12_4);(try clear Y19_0 Y19_1 Y19_2 Y19_3 Y19_4);(try clear p2);(try clear p6);obtain ⟨x6_2, x7_2, rfl, rfl, HA, HK2, BK252, HB⟩ := hrel
        cases gk with
        | zero => exact absurd HA.out (by simp [r11_Print.l0])
        | succ k2 =>
         have H := HA.out;clear HA;simp only [r11_Print.l0] at H
         by_cases c24 : x7_2 < (l0_0.length : Int)
         ·rw [if_pos c24] at H;have c24b0 := decide_eq_true c24;clear c24
          by_cases c25 : 0 ≤ x7_2
          ·rw [if_pos c25] at H;have c25b0 := decide_eq_true c25;clear c25
           by_cases c26 : 8 + ((rd_T38 l0_0 x7_2).f0).size ≤ 9223372036854775807
           ·rw [if_pos c26] at H;have c26b0 := eq_true c26;have c26b1 : decide (8 + ((rd_T38 l0_0 x7_2).f0).size ≤ 9223372036854775807) = true := decide_eq_true c26;(try have c26b2 : (9223372036854775807 < 8 + ((rd_T38 l0_0 x7_2).f0).size) = False := eq_false (Nat.not_lt.2 c26));obtain ⟨t260, A27, H⟩ := bx H;replace H : (if x6_2.size + t260.size ≤ 9223372036854775807 then (r11_Print.l0 k2 (x6_2 ++ t260) (wrap64 (x7_2 + 1)) l0_0 l0_1 l0_2 l0_3 a0_4) else (none)) = some (r1, r2) := H
            by_cases c28 : x6_2.size + t260.size ≤ 9223372036854775807
            ·rw [if_pos c28] at H;have c28b0 := eq_true c28;have c28b1 : decide (x6_2.size + t260.size ≤ 9223372036854775807) = true := decide_eq_true c28;(try have c28b2 : (9223372036854775807 < x6_2.size + t260.size) = False := eq_false (Nat.not_lt.2 c28));have H' := Am H;clear H;obtain ⟨Z29_0, Z29_1, Z29_2, Z29_3, Z29_4, Y29_0, Y29_1, Y29_2, Y29_3, Y29_4⟩ := cells5 BK252;have p258 : 0 ≤ (x7_2 : Int) := Od;have q258 : x7_2 < (l0_0.length : Int) := Od;obtain ⟨ad258, A258_1, c258_1, e258, hx258_0, hx258_1, HC258_1, HR258_1⟩ := at'_T38 HR0_0.out x7_2 p258 q258;cases e258;replace p258 := eq_true p258;replace q258 := eq_true q258;have p259 : 0 ≤ (x7_2 : Int) := Od;have q259 : x7_2 < (l0_0.length : Int) := Od;obtain ⟨ad259, A259_1, c259_1, e259, hx259_0, hx259_1, hl259_1, hi259_1⟩ := at_T38 HR0_0.out x7_2 p259 q259;obtain rfl : ad258 = ad259 := (by injection e259);replace hx259_0 := Hx hx259_0;replace hx259_1 := Hx hx259_1;have HR259_1 := Am hi259_1;have HC259_1 := Am hl259_1;clear hi259_1 hl259_1;replace p259 := eq_true p259;replace q259 := eq_true q259;have ea_ := Option.some.inj (hx258_1.symm.trans hx259_1)
             injection ea_ with ea_ en_ ec_
             subst ea_;subst ec_;clear en_;go_wp2_with (first | (go_at_call 23; (with_reducible refine (r11_said.calls k2 ((⟨#[101, 108, 101, 109, 101, 110, 116, 32]⟩ : ByteArray) ++ ((rd_T38 l0_0 x7_2).f0)) _ _ ((rd_T38 l0_0 x7_2).f1) t260 _ (Cs HR259_1) HC259_1.out A27.out).mono ?_); rintro e w' ⟨rfl, ⟨nd, rfl⟩⟩; (try first | exact ⟨rfl, _, World.drewN_drewN _ _ _⟩ | exact ⟨rfl, _, Eq.trans (World.drewN_drewN _ _ _) (congrArg (World.drewN _) (Nat.add_assoc _ _ _))⟩)))
             repeat (go_quiet (first | (go_at_call 23; (with_reducible refine (r11_said.calls k2 ((⟨#[101, 108, 101, 109, 101, 110, 116, 32]⟩ : ByteArray) ++ ((rd_T38 l0_0 x7_2).f0)) _ _ ((rd_T38 l0_0 x7_2).f1) t260 _ (Cs HR259_1) HC259_1.out A27.out).mono ?_); rintro e w' ⟨rfl, ⟨nd, rfl⟩⟩; (try first | exact ⟨rfl, _, World.drewN_drewN _ _ _⟩ | exact ⟨rfl, _, Eq.trans (World.drewN_drewN _ _ _) (congrArg (World.drewN _) (Nat.add_assoc _ _ _))⟩))); try go_wp2_with (first | (go_at_call 23; (with_reducible refine (r11_said.calls k2 ((⟨#[101, 108, 101, 109, 101, 110, 116, 32]⟩ : ByteArray) ++ ((rd_T38 l0_0 x7_2).f0)) _ _ ((rd_T38 l0_0 x7_2).f1) t260 _ (Cs HR259_1) HC259_1.out A27.out).mono ?_); rintro e w' ⟨rfl, ⟨nd, rfl⟩⟩; (try first | exact ⟨rfl, _, World.drewN_drewN _ _ _⟩ | exact ⟨rfl, _, Eq.trans (World.drewN_drewN _ _ _) (congrArg (World.drewN _) (Nat.add_assoc _ _ _))⟩))))
             go_roundg k2
             case measure => have := HJ7.out; have := HK2.out; omega
             case rel => exact ⟨(x6_2 ++ t260), (wrap64 (x7_2 + 1)), Rs, Rs, H', ⟨by have := HJ7.out; have := HK2.out; omega⟩, ⟨(Bk BK252)⟩, ⟨Bw⟩⟩
            rw [if_neg c28] at H;exact absurd H (by simp)
           rw [if_neg c26] at H;exact absurd H (by simp)
          rw [if_neg c25] at H;exact absurd H (by simp)
         rw [if_neg c24] at H;have c24b0 := decide_eq_false c24;clear c24;have HC30 := Am H;clear H;obtain ⟨Z31_0, Z31_1, Z31_2, Z31_3, Z31_4, Y31_0, Y31_1, Y31_2, Y31_3, Y31_4⟩ := cells5 BK252
         go_upto_if 63 with (fail)
         repeat (go_quiet (fail); go_upto_if 63 with (fail))
         go_cut [6] (fun v6 wc => ∃ (kq : Nat) (x6_29 : ByteArray), v6 = .string x6_29 ∧ Aside0 (r11_Print.j2 kq x6_29 l0_0 l0_1 l0_2 l0_3 a0_4 = some (r1, r2)) ∧ Aside0 (kq ≤ k2) ∧ Aside0 (wc.heap[gb252]? = some (.cells #[(.slice A0_0 l0_0.length c0_0), (.slice A0_1 l0_1.length c0_1), (.slice A0_2 l0_2.length c0_2), (.slice A0_3 l0_3.length c0_3), .int .i64 a0_4] 25 (0, 0))) ∧ Aside0 (Below w.heap.size w wc))
         case first =>
          have H := HC30.out;clear HC30
          by_cases c32 : (l0_1.length : Int) > 0
          ·rw [if_pos c32] at H;have c32b0 := dgt c32;have c32b1 : decide (0 < l0_1.length) = true := decide_eq_true (by omega);clear c32;(first | rw [c32b0] | rw [c32b1] | (simp only [i64_w, i32_w]; rw [c32b0]) | skip);obtain ⟨t261, A33, H⟩ := bx H;replace H : (if x6_2.size + t261.size ≤ 9223372036854775807 then (r11_Print.j2 k2 (x6_2 ++ t261) l0_0 l0_1 l0_2 l0_3 a0_4) else (none)) = some (r1, r2) := H
           by_cases c34 : x6_2.size + t261.size ≤ 9223372036854775807
           ·rw [if_pos c34] at H;have c34b0 := eq_true c34;have c34b1 : decide (x6_2.size + t261.size ≤ 9223372036854775807) = true := decide_eq_true c34;(try have c34b2 : (9223372036854775807 < x6_2.size + t261.size) = False := eq_false (Nat.not_lt.2 c34));have H' := Am H;clear H;obtain ⟨Z35_0, Z35_1, Z35_2, Z35_3, Z35_4, Y35_0, Y35_1, Y35_2, Y35_3, Y35_4⟩ := cells5 BK252;go_wp2_with (first | (go_at_call 23; (with_reducible refine (r11_said.calls k2 (⟨#[108, 105, 110, 107]⟩ : ByteArray) _ _ l0_1 t261 _ (Cs HR0_1) HC0_1.out A33.out).mono ?_); rintro e w' ⟨rfl, ⟨nd, rfl⟩⟩; (try first | exact ⟨rfl, _, World.drewN_drewN _ _ _⟩ | exact ⟨rfl, _, Eq.trans (World.drewN_drewN _ _ _) (congrArg (World.drewN _) (Nat.add_assoc _ _ _))⟩)))
            repeat (go_quiet (first | (go_at_call 23; (with_reducible refine (r11_said.calls k2 (⟨#[108, 105, 110, 107]⟩ : ByteArray) _ _ l0_1 t261 _ (Cs HR0_1) HC0_1.out A33.out).mono ?_); rintro e w' ⟨rfl, ⟨nd, rfl⟩⟩; (try first | exact ⟨rfl, _, World.drewN_drewN _ _ _⟩ | exact ⟨rfl, _, Eq.trans (World.drewN_drewN _ _ _) (congrArg (World.drewN _) (Nat.add_assoc _ _ _))⟩))); try go_wp2_with (first | (go_at_call 23; (with_reducible refine (r11_said.calls k2 (⟨#[108, 105, 110, 107]⟩ : ByteArray) _ _ l0_1 t261 _ (Cs HR0_1) HC0_1.out A33.out).mono ?_); rintro e w' ⟨rfl, ⟨nd, rfl⟩⟩; (try first | exact ⟨rfl, _, World.drewN_drewN _ _ _⟩ | exact ⟨rfl, _, Eq.trans (World.drewN_drewN _ _ _) (congrArg (World.drewN _) (Nat.add_assoc _ _ _))⟩))))
            go_meet
            case rel => exact ⟨_, (x6_2 ++ t261), Rs, H', ⟨by have := HJ7.out; have := HK2.out; first | omega | exact Nat.le_refl _⟩, ⟨(Bk BK252)⟩, ⟨Bw⟩⟩
           rw [if_neg c34] at H;exact absurd H (by simp)
          rw [if_neg c32] at H;have c32b0 := ngt c32;have c32b1 : decide (0 < l0_1.length) = false := decide_eq_false (by omega);clear c32;(first | rw [c32b0] | rw [c32b1] | (simp only [i64_w, i32_w]; rw [c32b0]) | skip);have H' := Am H;clear H;go_wp2
          repeat (go_quiet (fail); try go_wp2)
          go_meet
          case rel => exact ⟨_, (x6_2), Rs, H', ⟨by have := HJ7.out; have := HK2.out; first | omega | exact Nat.le_refl _⟩, ⟨(Bk BK252)⟩, ⟨Bw⟩⟩
         case rest =>
          clear HC30;(try clear c1);(try clear c2);(try clear p2);(try clear q2);(try clear hx2);(try clear c3);(try clear c3b0);(try clear c3b1);(try clear c5);(try clear c5b0);(try clear c5b1);(try clear c6);(try clear c6b0);(try clear c6b1);(try clear p6);(try clear c7);(try clear c7b0);(try clear c7b1);(try clear c8);(try clear c13);(try clear c13b0);(try clear c15);(try clear c15b0);(try clear c15b1);(try clear c16);(try clear c16b0);(try clear c16b1);(try clear c17);(try clear c17b0);(try clear c17b1);(try clear c18);(try clear c18b0);(try clear c18b1);(try clear c18b2);(try clear c24);(try clear c24b0);(try clear c25);(try clear c25b0);(try clear p25);(try clear q25);(try clear hx25);(try clear c26);(try clear c26b0);(try clear c26b1);(try clear c26b2);(try clear c28);(try clear c28b0);(try clear c28b1);(try clear c28b2);(try clear c32);(try clear c32b0);(try clear c32b1);(try clear c34);(try clear c34b0);(try clear c34b1);(try clear c34b2);(try clear Z10_0 Z10_1 Z10_2 Z10_3 Z10_4);(try clear Z12_0 Z12_1 Z12_2 Z12_3 Z12_4);(try clear Z19_0 Z19_1 Z19_2 Z19_3 Z19_4);(try clear Z29_0 Z29_1 Z29_2 Z29_3 Z29_4);(try clear Z31_0 Z31_1 Z31_2 Z31_3 Z31_4);(try clear Z35_0 Z35_1 Z35_2 Z35_3 Z35_4);(try clear Y10_0 Y10_1 Y10_2 Y10_3 Y10_4);(try clear Y12_0 Y12_1 Y12_2 Y12_3 Y12_4);(try clear Y19_0 Y19_1 Y19_2 Y19_3 Y19_4);(try clear Y29_0 Y29_1 Y29_2 Y29_3 Y29_4);(try clear Y31_0 Y31_1 Y31_2 Y31_3 Y31_4);(try clear Y35_0 Y35_1 Y35_2 Y35_3 Y35_4);(try clear hx258_0);(try clear hx258_1);(try clear hx259_0);(try clear hx259_1);(try clear p2);(try clear p258);(try clear p259);(try clear p6);(try clear q258);(try clear q259);obtain ⟨kq, x6_29, rfl, HA, HJ29, BK252, HB⟩ := hcut
          cases kq with
          | zero => exact absurd HA.out (by simp [r11_Print.j2])
          | succ kj29 =>
           have H := HA.out;clear HA;simp only [r11_Print.j2] at H
           by_cases c36 : (l0_2.length : Int) > 0
           ·rw [if_pos c36] at H;have c36b0 := dgt c36;have c36b1 : decide (0 < l0_2.length) = true := decide_eq_true (by omega);clear c36;obtain ⟨t262, A37, H⟩ := bx H;replace H : (if x6_29.size + t262.size ≤ 9223372036854775807 then (if (l0_3.length : Int) > 0 then ((r11_said.f kj29 (⟨#[100, 114, 111, 112]⟩ : ByteArray) l0_3).bind fun t263 => (if (x6_29 ++ t262).size + t263.size ≤ 9223372036854775807 then (some ((x6_29 ++ t262) ++ t263, 0)) else (none))) else (some (x6_29 ++ t262, 0))) else (none)) = some (r1, r2) := H
            by_cases c38 : x6_29.size + t262.size ≤ 9223372036854775807
            ·rw [if_pos c38] at H;have c38b0 := eq_true c38;have c38b1 : decide (x6_29.size + t262.size ≤ 9223372036854775807) = true := decide_eq_true c38;(try have c38b2 : (9223372036854775807 < x6_29.size + t262.size) = False := eq_false (Nat.not_lt.2 c38))
             by_cases c39 : (l0_3.length : Int) > 0
             ·rw [if_pos c39] at H;have c39b0 := dgt c39;have c39b1 : decide (0 < l0_3.length) = true := decide_eq_true (by omega);clear c39;obtain ⟨t263, A40, H⟩ := bx H;replace H : (if (x6_29 ++ t262).size + t263.size ≤ 9223372036854775807 then (some ((x6_29 ++ t262) ++ t263, 0)) else (none)) = some (r1, r2) := H
              by_cases c41 : (x6_29 ++ t262).size + t263.size ≤ 9223372036854775807
              ·rw [if_pos c41] at H;have c41b0 := eq_true c41;have c41b1 : decide ((x6_29 ++ t262).size + t263.size ≤ 9223372036854775807) = true := decide_eq_true c41;(try have c41b2 : (9223372036854775807 < (x6_29 ++ t262).size + t263.size) = False := eq_false (Nat.not_lt.2 c41));simp only [Option.some.injEq, Prod.mk.injEq] at H;obtain ⟨rfl, rfl⟩ := H;obtain ⟨Z42_0, Z42_1, Z42_2, Z42_3, Z42_4, Y42_0, Y42_1, Y42_2, Y42_3, Y42_4⟩ := cells5 BK252;go_wp2_with (first | (go_at_call 23; (with_reducible refine (r11_said.calls kj29 (⟨#[115, 99, 104, 101, 109, 101]⟩ : ByteArray) _ _ l0_2 t262 _ (Cs HR0_2) HC0_2.out A37.out).mono ?_); rintro e w' ⟨rfl, ⟨nd, rfl⟩⟩; (try first | exact ⟨rfl, _, World.drewN_drewN _ _ _⟩ | exact ⟨rfl, _, Eq.trans (World.drewN_drewN _ _ _) (congrArg (World.drewN _) (Nat.add_assoc _ _ _))⟩)) | (go_at_call 23; (with_reducible refine (r11_said.calls kj29 (⟨#[100, 114, 111, 112]⟩ : ByteArray) _ _ l0_3 t263 _ ?side1 HC0_3.out A40.out).mono ?_); (case side1 => exact Cd (Kd.C_below HR0_3.out Bw)); rintro e w' ⟨rfl, ⟨nd, rfl⟩⟩; (try first | exact ⟨rfl, _, World.drewN_drewN _ _ _⟩ | exact ⟨rfl, _, Eq.trans (World.drewN_drewN _ _ _) (congrArg (World.drewN _) (Nat.add_assoc _ _ _))⟩)))
               repeat (go_quiet (first | (go_at_call 23; (with_reducible refine (r11_said.calls kj29 (⟨#[115, 99, 104, 101, 109, 101]⟩ : ByteArray) _ _ l0_2 t262 _ (Cs HR0_2) HC0_2.out A37.out).mono ?_); rintro e w' ⟨rfl, ⟨nd, rfl⟩⟩; (try first | exact ⟨rfl, _, World.drewN_drewN _ _ _⟩ | exact ⟨rfl, _, Eq.trans (World.drewN_drewN _ _ _) (congrArg (World.drewN _) (Nat.add_assoc _ _ _))⟩)) | (go_at_call 23; (with_reducible refine (r11_said.calls kj29 (⟨#[100, 114, 111, 112]⟩ : ByteArray) _ _ l0_3 t263 _ ?side1 HC0_3.out A40.out).mono ?_); (case side1 => exact Cd (Kd.C_below HR0_3.out Bw)); rintro e w' ⟨rfl, ⟨nd, rfl⟩⟩; (try first | exact ⟨rfl, _, World.drewN_drewN _ _ _⟩ | exact ⟨rfl, _, Eq.trans (World.drewN_drewN _ _ _) (congrArg (World.drewN _) (Nat.add_assoc _ _ _))⟩))); try go_wp2_with (first | (go_at_call 23; (with_reducible refine (r11_said.calls kj29 (⟨#[115, 99, 104, 101, 109, 101]⟩ : ByteArray) _ _ l0_2 t262 _ (Cs HR0_2) HC0_2.out A37.out).mono ?_); rintro e w' ⟨rfl, ⟨nd, rfl⟩⟩; (try first | exact ⟨rfl, _, World.drewN_drewN _ _ _⟩ | exact ⟨rfl, _, Eq.trans (World.drewN_drewN _ _ _) (congrArg (World.drewN _) (Nat.add_assoc _ _ _))⟩)) | (go_at_call 23; (with_reducible refine (r11_said.calls kj29 (⟨#[100, 114, 111, 112]⟩ : ByteArray) _ _ l0_3 t263 _ ?side1 HC0_3.out A40.out).mono ?_); (case side1 => exact Cd (Kd.C_below HR0_3.out Bw)); rintro e w' ⟨rfl, ⟨nd, rfl⟩⟩; (try first | exact ⟨rfl, _, World.drewN_drewN _ _ _⟩ | exact ⟨rfl, _, Eq.trans (World.drewN_drewN _ _ _) (congrArg (World.drewN _) (Nat.add_assoc _ _ _))⟩))))
               go_ret2;exact ⟨by first | rfl | (simp [errW_none, errW_some] <;> rfl) | (simp only [← hji4]; first | rfl | (simp [errW_none, errW_some] <;> rfl)) | (simp [*, errW_none, errW_some] <;> rfl), Bw⟩
              rw [if_neg c41] at H;exact absurd H (by simp)
             rw [if_neg c39] at H;have c39b0 := ngt c39;have c39b1 : decide (0 < l0_3.length) = false := decide_eq_false (by omega);clear c39;simp only [Option.some.injEq, Prod.mk.injEq] at H;obtain ⟨rfl, rfl⟩ := H;obtain ⟨Z43_0, Z43_1, Z43_2, Z43_3, Z43_4, Y43_0, Y43_1, Y43_2, Y43_3, Y43_4⟩ := cells5 BK252;go_wp2_with (first | (go_at_call 23; (with_reducible refine (r11_said.calls kj29 (⟨#[115, 99, 104, 101, 109, 101]⟩ : ByteArray) _ _ l0_2 t262 _ (Cs HR0_2) HC0_2.out A37.out).mono ?_); rintro e w' ⟨rfl, ⟨nd, rfl⟩⟩; (try first | exact ⟨rfl, _, World.drewN_drewN _ _ _⟩ | exact ⟨rfl, _, Eq.trans (World.drewN_drewN _ _ _) (congrArg (World.drewN _) (Nat.add_assoc _ _ _))⟩)))
             repeat (go_quiet (first | (go_at_call 23; (with_reducible refine (r11_said.calls kj29 (⟨#[115, 99, 104, 101, 109, 101]⟩ : ByteArray) _ _ l0_2 t262 _ (Cs HR0_2) HC0_2.out A37.out).mono ?_); rintro e w' ⟨rfl, ⟨nd, rfl⟩⟩; (try first | exact ⟨rfl, _, World.drewN_drewN _ _ _⟩ | exact ⟨rfl, _, Eq.trans (World.drewN_drewN _ _ _) (congrArg (World.drewN _) (Nat.add_assoc _ _ _))⟩))); try go_wp2_with (first | (go_at_call 23; (with_reducible refine (r11_said.calls kj29 (⟨#[115, 99, 104, 101, 109, 101]⟩ : ByteArray) _ _ l0_2 t262 _ (Cs HR0_2) HC0_2.out A37.out).mono ?_); rintro e w' ⟨rfl, ⟨nd, rfl⟩⟩; (try first | exact ⟨rfl, _, World.drewN_drewN _ _ _⟩ | exact ⟨rfl, _, Eq.trans (World.drewN_drewN _ _ _) (congrArg (World.drewN _) (Nat.add_assoc _ _ _))⟩))))
             go_ret2;exact ⟨by first | rfl | (simp [errW_none, errW_some] <;> rfl) | (simp only [← hji4]; first | rfl | (simp [errW_none, errW_some] <;> rfl)) | (simp [*, errW_none, errW_some] <;> rfl), Bw⟩
            rw [if_neg c38] at H;exact absurd H (by simp)
           rw [if_neg c36] at H;have c36b0 := ngt c36;have c36b1 : decide (0 < l0_2.length) = false := decide_eq_false (by omega);clear c36
           by_cases c44 : (l0_3.length : Int) > 0
           ·rw [if_pos c44] at H;have c44b0 := dgt c44;have c44b1 : decide (0 < l0_3.length) = true := decide_eq_true (by omega);clear c44;obtain ⟨t264, A45, H⟩ := bx H;replace H : (if x6_29.size + t264.size ≤ 9223372036854775807 then (some (x6_29 ++ t264, 0)) else (none)) = some (r1, r2) := H
            by_cases c46 : x6_29.size + t264.size ≤ 9223372036854775807
            ·rw [if_pos c46] at H;have c46b0 := eq_true c46;have c46b1 : decide (x6_29.size + t264.size ≤ 9223372036854775807) = true := decide_eq_true c46;(try have c46b2 : (9223372036854775807 < x6_29.size + t264.size) = False := eq_false (Nat.not_lt.2 c46));simp only [Option.some.injEq, Prod.mk.injEq] at H;obtain ⟨rfl, rfl⟩ := H;obtain ⟨Z47_0, Z47_1, Z47_2, Z47_3, Z47_4, Y47_0, Y47_1, Y47_2, Y47_3, Y47_4⟩ := cells5 BK252;go_wp2_with (first | (go_at_call 23; (with_reducible refine (r11_said.calls kj29 (⟨#[100, 114, 111, 112]⟩ : ByteArray) _ _ l0_3 t264 _ (Cs HR0_3) HC0_3.out A45.out).mono ?_); rintro e w' ⟨rfl, ⟨nd, rfl⟩⟩; (try first | exact ⟨rfl, _, World.drewN_drewN _ _ _⟩ | exact ⟨rfl, _, Eq.trans (World.drewN_drewN _ _ _) (congrArg (World.drewN _) (Nat.add_assoc _ _ _))⟩)))
             repeat (go_quiet (first | (go_at_call 23; (with_reducible refine (r11_said.calls kj29 (⟨#[100, 114, 111, 112]⟩ : ByteArray) _ _ l0_3 t264 _ (Cs HR0_3) HC0_3.out A45.out).mono ?_); rintro e w' ⟨rfl, ⟨nd, rfl⟩⟩; (try first | exact ⟨rfl, _, World.drewN_drewN _ _ _⟩ | exact ⟨rfl, _, Eq.trans (World.drewN_drewN _ _ _) (congrArg (World.drewN _) (Nat.add_assoc _ _ _))⟩))); try go_wp2_with (first | (go_at_call 23; (with_reducible refine (r11_said.calls kj29 (⟨#[100, 114, 111, 112]⟩ : ByteArray) _ _ l0_3 t264 _ (Cs HR0_3) HC0_3.out A45.out).mono ?_); rintro e w' ⟨rfl, ⟨nd, rfl⟩⟩; (try first | exact ⟨rfl, _, World.drewN_drewN _ _ _⟩ | exact ⟨rfl, _, Eq.trans (World.drewN_drewN _ _ _) (congrArg (World.drewN _) (Nat.add_assoc _ _ _))⟩))))
             go_ret2;exact ⟨by first | rfl | (simp [errW_none, errW_some] <;> rfl) | (simp only [← hji4]; first | rfl | (simp [errW_none, errW_some] <;> rfl)) | (simp [*, errW_none, errW_some] <;> rfl), Bw⟩
            rw [if_neg c46] at H;exact absurd H (by simp)
           rw [if_neg c44] at H;have c44b0 := ngt c44;have c44b1 : decide (0 < l0_3.length) = false := decide_eq_false (by omega);clear c44;simp only [Option.some.injEq, Prod.mk.injEq] at H;obtain ⟨rfl, rfl⟩ := H;obtain ⟨Z48_0, Z48_1, Z48_2, Z48_3, Z48_4, Y48_0, Y48_1, Y48_2, Y48_3, Y48_4⟩ := cells5 BK252;go_wp2
           repeat (go_quiet (fail); try go_wp2)
           go_ret2;exact ⟨by first | rfl | (simp [errW_none, errW_some] <;> rfl) | (simp only [← hji4]; first | rfl | (simp [errW_none, errW_some] <;> rfl)) | (simp [*, errW_none, errW_some] <;> rfl), Bw⟩
    rw [if_neg c7] at H;exact absurd H (by simp)
   rw [if_neg c6] at H;exact absurd H (by simp)
  rw [if_neg c5] at H;exact absurd H (by simp)
 rw [if_neg c3] at H;obtain ⟨c3b0, c3b1⟩ := neb c3;simp only [Option.some.injEq, Prod.mk.injEq] at H;obtain ⟨rfl, rfl⟩ := H;go_enter Tryz.func8, Tryz.ntmps8;go_wp2_with (first | ((with_reducible refine gate_dst (N := 1) rfl ?_); refine box5 25 1 (cs := #[.slice A0_0 l0_0.length c0_0, .slice A0_1 l0_1.length c0_1, .slice A0_2 l0_2.length c0_2, .slice A0_3 l0_3.length c0_3, .int .i64 a0_4]) ?_; clear HB; intro gb252 w49 HB BK252 GE252; obtain ⟨Z50_0, Z50_1, Z50_2, Z50_3, Z50_4, Y50_0, Y50_1, Y50_2, Y50_3, Y50_4⟩ := cells5 BK252) | (go_at_call 22; (with_reducible refine (r11_Check.calls k _ _ l0_0 _ _ l0_1 _ _ l0_2 _ _ l0_3 a0_4 t253 _ (Cs HR0_0) HC0_0.out (Cs HR0_1) HC0_1.out (Cs HR0_2) HC0_2.out (Cs HR0_3) HC0_3.out A2.out).mono ?_); rintro e w51 ⟨rfl, hb⟩; replace BK252 := Bb BK252 hb; replace HB := Bs hb; clear hb))
 repeat (go_quiet (first | ((with_reducible refine gate_dst (N := 1) rfl ?_); refine box5 25 1 (cs := #[.slice A0_0 l0_0.length c0_0, .slice A0_1 l0_1.length c0_1, .slice A0_2 l0_2.length c0_2, .slice A0_3 l0_3.length c0_3, .int .i64 a0_4]) ?_; clear HB; intro gb252 w49 HB BK252 GE252; obtain ⟨Z50_0, Z50_1, Z50_2, Z50_3, Z50_4, Y50_0, Y50_1, Y50_2, Y50_3, Y50_4⟩ := cells5 BK252) | (go_at_call 22; (with_reducible refine (r11_Check.calls k _ _ l0_0 _ _ l0_1 _ _ l0_2 _ _ l0_3 a0_4 t253 _ (Cs HR0_0) HC0_0.out (Cs HR0_1) HC0_1.out (Cs HR0_2) HC0_2.out (Cs HR0_3) HC0_3.out A2.out).mono ?_); rintro e w51 ⟨rfl, hb⟩; replace BK252 := Bb BK252 hb; replace HB := Bs hb; clear hb)); try go_wp2_with (first | ((with_reducible refine gate_dst (N := 1) rfl ?_); refine box5 25 1 (cs := #[.slice A0_0 l0_0.length c0_0, .slice A0_1 l0_1.length c0_1, .slice A0_2 l0_2.length c0_2, .slice A0_3 l0_3.length c0_3, .int .i64 a0_4]) ?_; clear HB; intro gb252 w49 HB BK252 GE252; obtain ⟨Z50_0, Z50_1, Z50_2, Z50_3, Z50_4, Y50_0, Y50_1, Y50_2, Y50_3, Y50_4⟩ := cells5 BK252) | (go_at_call 22; (with_reducible refine (r11_Check.calls k _ _ l0_0 _ _ l0_1 _ _ l0_2 _ _ l0_3 a0_4 t253 _ (Cs HR0_0) HC0_0.out (Cs HR0_1) HC0_1.out (Cs HR0_2) HC0_2.out (Cs HR0_3) HC0_3.out A2.out).mono ?_); rintro e w51 ⟨rfl, hb⟩; replace BK252 := Bb BK252 hb; replace HB := Bs hb; clear hb)))
 go_ret2;exact ⟨Re, Bw⟩

noncomputable def l11_PolicyPrint.f (k : Nat) (l0_0 : List (S38)) (l0_1 : List ByteArray) (l0_2 : List ByteArray) (l0_3 : List ByteArray) (a0_4 : Int) : Option (Bool) := (r11_Small.f k l0_0 l0_1 l0_2 l0_3 a0_4).bind fun t266 => (if t266 = true then ((p_Print.f k l0_0 l0_1 l0_2 l0_3 a0_4).bind fun bt267 => ((r11_Print.f k l0_0 l0_1 l0_2 l0_3 a0_4).bind fun bt269 => ((l11_alive.f k).bind fun t271 => (if t271 = true then (if bt267.1.toList = bt269.1.toList then (some (bt267.2 == bt269.2)) else (some false)) else (some false))))) else ((l11_alive.f k).bind fun t272 => (some t272)))
theorem l11_PolicyPrint.calls (k : Nat) (A0_0 : Option Addr) (c0_0 : Nat) (l0_0 : List (S38)) (A0_1 : Option Addr) (c0_1 : Nat) (l0_1 : List ByteArray) (A0_2 : Option Addr) (c0_2 : Nat) (l0_2 : List ByteArray) (A0_3 : Option Addr) (c0_3 : Nat) (l0_3 : List ByteArray) (a0_4 : Int) (r : Bool) (w : World) (hr0_0 : Kd.C k38 w A0_0 l0_0.length l0_0) (hc0_0 : l0_0.length ≤ c0_0) (hr0_1 : Kd.C Kd.string w A0_1 l0_1.length l0_1) (hc0_1 : l0_1.length ≤ c0_1) (hr0_2 : Kd.C Kd.string w A0_2 l0_2.length l0_2) (hc0_2 : l0_2.length ≤ c0_2) (hr0_3 : Kd.C Kd.string w A0_3 l0_3.length l0_3) (hc0_3 : l0_3.length ≤ c0_3) (m_ : Int) (hm_ : w.cell? ⟨0, 0, none⟩ = some (.int .i64 m_)) (h : l11_PolicyPrint.f k l0_0 l0_1 l0_2 l0_3 a0_4 = some r) :
  Calls Tryz.prog 3 #[.agg #[.slice A0_0 l0_0.length c0_0, .slice A0_1 l0_1.length c0_1, .slice A0_2 l0_2.length c0_2, .slice A0_3 l0_3.length c0_3, .int .i64 a0_4]] w fun e w' => e = .returned (.bool r) ∧ Below w.heap.size w w' := by
 have HM := Am hm_;clear hm_;have hu25 := Tryz.underlying25;obtain ⟨HR0_0, HC0_0, HR0_1, HC0_1⟩ := as4 hr0_0 hc0_0 hr0_1 hc0_1;clear hr0_0 hc0_0 hr0_1 hc0_1;obtain ⟨HR0_2, HC0_2, HR0_3, HC0_3⟩ := as4 hr0_2 hc0_2 hr0_3 hc0_3;clear hr0_2 hc0_2 hr0_3 hc0_3;have HB := Am (Below.refl w.heap.size w);have H := h;clear h;unfold l11_PolicyPrint.f at H;obtain ⟨t266, A2, H⟩ := bx H;(try dsimp -simprocs only at H)
 by_cases c3 : t266 = true
 ·subst c3;rw [if_pos rfl] at H;obtain ⟨⟨t267, t268⟩, A4, H⟩ := bx H;(try dsimp -simprocs only at H);obtain ⟨⟨t269, t270⟩, A5, H⟩ := bx H;(try dsimp -simprocs only at H);obtain ⟨t271, A6, H⟩ := bx H;(try dsimp -simprocs only at H)
  by_cases c7 : t271 = true
  ·subst c7;rw [if_pos rfl] at H
   by_cases c8 : t267.toList = t269.toList
   ·rw [if_pos c8] at H;obtain ⟨c8b0, c8b1⟩ := eqb c8;clear c8;obtain rfl := si H;go_enter Tryz.func3, Tryz.ntmps3;go_wp2_with (first | ((with_reducible refine gate_dst (N := 1) rfl ?_); refine box5 25 1 (cs := #[.slice A0_0 l0_0.length c0_0, .slice A0_1 l0_1.length c0_1, .slice A0_2 l0_2.length c0_2, .slice A0_3 l0_3.length c0_3, .int .i64 a0_4]) ?_; clear HB; intro gb265 w9 HB BK265 GE265; obtain ⟨Z10_0, Z10_1, Z10_2, Z10_3, Z10_4, Y10_0, Y10_1, Y10_2, Y10_3, Y10_4⟩ := cells5 BK265) | ((with_reducible refine gate_callee (f := 5) rfl ?_); refine goL (some 8) Tryz.func5 #[.agg #[.slice A0_0 l0_0.length c0_0, .slice A0_1 l0_1.length c0_1, .slice A0_2 l0_2.length c0_2, .slice A0_3 l0_3.length c0_3, .int .i64 a0_4]] ?_; (with_reducible refine (r11_Small.calls k _ _ l0_0 _ _ l0_1 _ _ l0_2 _ _ l0_3 a0_4 true _ (Cs HR0_0) HC0_0.out (Cs HR0_1) HC0_1.out (Cs HR0_2) HC0_2.out (Cs HR0_3) HC0_3.out A2.out).mono ?_); rintro e w11 ⟨rfl, hb⟩; refine ⟨_, rfl, ?_⟩; replace BK265 := Bb BK265 hb; replace HB := Bs hb; clear hb; obtain ⟨Z12_0, Z12_1, Z12_2, Z12_3, Z12_4, Y12_0, Y12_1, Y12_2, Y12_3, Y12_4⟩ := cells5 BK265) | ((with_reducible refine gate_callee (f := 7) rfl ?_); refine goL (some 13) Tryz.func7 #[.agg #[.slice A0_0 l0_0.length c0_0, .slice A0_1 l0_1.length c0_1, .slice A0_2 l0_2.length c0_2, .slice A0_3 l0_3.length c0_3, .int .i64 a0_4]] ?_; (with_reducible refine (p_Print.calls k _ _ l0_0 _ _ l0_1 _ _ l0_2 _ _ l0_3 a0_4 t267 t268 _ (Cs HR0_0) HC0_0.out (Cs HR0_1) HC0_1.out (Cs HR0_2) HC0_2.out (Cs HR0_3) HC0_3.out A4.out).mono ?_); rintro e w13 ⟨rfl, hb⟩; refine ⟨_, rfl, ?_⟩; replace BK265 := Bb BK265 hb; replace HB := Bs hb; clear hb; obtain ⟨Z14_0, Z14_1, Z14_2, Z14_3, Z14_4, Y14_0, Y14_1, Y14_2, Y14_3, Y14_4⟩ := cells5 BK265) | ((with_reducible refine gate_callee (f := 8) rfl ?_); refine goL (some 18) Tryz.func8 #[.agg #[.slice A0_0 l0_0.length c0_0, .slice A0_1 l0_1.length c0_1, .slice A0_2 l0_2.length c0_2, .slice A0_3 l0_3.length c0_3, .int .i64 a0_4]] ?_; (with_reducible refine (r11_Print.calls k _ _ l0_0 _ _ l0_1 _ _ l0_2 _ _ l0_3 a0_4 t269 t270 _ (Cs HR0_0) HC0_0.out (Cs HR0_1) HC0_1.out (Cs HR0_2) HC0_2.out (Cs HR0_3) HC0_3.out A5.out).mono ?_); rintro e w15 ⟨rfl, hb⟩; refine ⟨_, rfl, ?_⟩; replace BK265 := Bb BK265 hb; replace HB := Bs hb; clear hb) | ((with_reducible refine gate_callee (f := 6) rfl ?_); refine goL (some 21) Tryz.func6 #[] ?_; (with_reducible refine (l11_alive.calls k  true _ m_ ?hmS A6.out).mono ?_); (case hmS => exact (pw_cell_below Bw HM.out)); rintro e w16 ⟨rfl, hb⟩; refine ⟨_, rfl, ?_⟩; replace BK265 := Bb BK265 hb; replace HB := Bs hb; clear hb))
    go_ret;exact ⟨Re, Bw⟩
   rw [if_neg c8] at H;obtain ⟨c8b0, c8b1⟩ := neb c8;obtain rfl := si H;go_enter Tryz.func3, Tryz.ntmps3;go_wp2_with (first | ((with_reducible refine gate_dst (N := 1) rfl ?_); refine box5 25 1 (cs := #[.slice A0_0 l0_0.length c0_0, .slice A0_1 l0_1.length c0_1, .slice A0_2 l0_2.length c0_2, .slice A0_3 l0_3.length c0_3, .int .i64 a0_4]) ?_; clear HB; intro gb265 w17 HB BK265 GE265; obtain ⟨Z18_0, Z18_1, Z18_2, Z18_3, Z18_4, Y18_0, Y18_1, Y18_2, Y18_3, Y18_4⟩ := cells5 BK265) | ((with_reducible refine gate_callee (f := 5) rfl ?_); refine goL (some 8) Tryz.func5 #[.agg #[.slice A0_0 l0_0.length c0_0, .slice A0_1 l0_1.length c0_1, .slice A0_2 l0_2.length c0_2, .slice A0_3 l0_3.length c0_3, .int .i64 a0_4]] ?_; (with_reducible refine (r11_Small.calls k _ _ l0_0 _ _ l0_1 _ _ l0_2 _ _ l0_3 a0_4 true _ (Cs HR0_0) HC0_0.out (Cs HR0_1) HC0_1.out (Cs HR0_2) HC0_2.out (Cs HR0_3) HC0_3.out A2.out).mono ?_); rintro e w19 ⟨rfl, hb⟩; refine ⟨_, rfl, ?_⟩; replace BK265 := Bb BK265 hb; replace HB := Bs hb; clear hb; obtain ⟨Z20_0, Z20_1, Z20_2, Z20_3, Z20_4, Y20_0, Y20_1, Y20_2, Y20_3, Y20_4⟩ := cells5 BK265) | ((with_reducible refine gate_callee (f := 7) rfl ?_); refine goL (some 13) Tryz.func7 #[.agg #[.slice A0_0 l0_0.length c0_0, .slice A0_1 l0_1.length c0_1, .slice A0_2 l0_2.length c0_2, .slice A0_3 l0_3.length c0_3, .int .i64 a0_4]] ?_; (with_reducible refine (p_Print.calls k _ _ l0_0 _ _ l0_1 _ _ l0_2 _ _ l0_3 a0_4 t267 t268 _ (Cs HR0_0) HC0_0.out (Cs HR0_1) HC0_1.out (Cs HR0_2) HC0_2.out (Cs HR0_3) HC0_3.out A4.out).mono ?_); rintro e w21 ⟨rfl, hb⟩; refine ⟨_, rfl, ?_⟩; replace BK265 := Bb BK265 hb; replace HB := Bs hb; clear hb; obtain ⟨Z22_0, Z22_1, Z22_2, Z22_3, Z22_4, Y22_0, Y22_1, Y22_2, Y22_3, Y22_4⟩ := cells5 BK265) | ((with_reducible refine gate_callee (f := 8) rfl ?_); refine goL (some 18) Tryz.func8 #[.agg #[.slice A0_0 l0_0.length c0_0, .slice A0_1 l0_1.length c0_1, .slice A0_2 l0_2.length c0_2, .slice A0_3 l0_3.length c0_3, .int .i64 a0_4]] ?_; (with_reducible refine (r11_Print.calls k _ _ l0_0 _ _ l0_1 _ _ l0_2 _ _ l0_3 a0_4 t269 t270 _ (Cs HR0_0) HC0_0.out (Cs HR0_1) HC0_1.out (Cs HR0_2) HC0_2.out (Cs HR0_3) HC0_3.out A5.out).mono ?_); rintro e w23 ⟨rfl, hb⟩; refine ⟨_, rfl, ?_⟩; replace BK265 := Bb BK265 hb; replace HB := Bs hb; clear hb) | ((with_reducible refine gate_callee (f := 6) rfl ?_); refine goL (some 21) Tryz.func6 #[] ?_; (with_reducible refine (l11_alive.calls k  true _ m_ ?hmS A6.out).mono ?_); (case hmS => exact (pw_cell_below Bw HM.out)); rintro e w24 ⟨rfl, hb⟩; refine ⟨_, rfl, ?_⟩; replace BK265 := Bb BK265 hb; replace HB := Bs hb; clear hb))
   go_ret;exact ⟨Re, Bw⟩
  replace c7 := bf c7;subst c7;rw [if_neg (show ¬ (false = true) by decide)] at H;obtain rfl := si H;go_enter Tryz.func3, Tryz.ntmps3;go_wp2_with (first | ((with_reducible refine gate_dst (N := 1) rfl ?_); refine box5 25 1 (cs := #[.slice A0_0 l0_0.length c0_0, .slice A0_1 l0_1.length c0_1, .slice A0_2 l0_2.length c0_2, .slice A0_3 l0_3.length c0_3, .int .i64 a0_4]) ?_; clear HB; intro gb265 w25 HB BK265 GE265; obtain ⟨Z26_0, Z26_1, Z26_2, Z26_3, Z26_4, Y26_0, Y26_1, Y26_2, Y26_3, Y26_4⟩ := cells5 BK265) | ((with_reducible refine gate_callee (f := 5) rfl ?_); refine goL (some 8) Tryz.func5 #[.agg #[.slice A0_0 l0_0.length c0_0, .slice A0_1 l0_1.length c0_1, .slice A0_2 l0_2.length c0_2, .slice A0_3 l0_3.length c0_3, .int .i64 a0_4]] ?_; (with_reducible refine (r11_Small.calls k _ _ l0_0 _ _ l0_1 _ _ l0_2 _ _ l0_3 a0_4 true _ (Cs HR0_0) HC0_0.out (Cs HR0_1) HC0_1.out (Cs HR0_2) HC0_2.out (Cs HR0_3) HC0_3.out A2.out).mono ?_); rintro e w27 ⟨rfl, hb⟩; refine ⟨_, rfl, ?_⟩; replace BK265 := Bb BK265 hb; replace HB := Bs hb; clear hb; obtain ⟨Z28_0, Z28_1, Z28_2, Z28_3, Z28_4, Y28_0, Y28_1, Y28_2, Y28_3, Y28_4⟩ := cells5 BK265) | ((with_reducible refine gate_callee (f := 7) rfl ?_); refine goL (some 13) Tryz.func7 #[.agg #[.slice A0_0 l0_0.length c0_0, .slice A0_1 l0_1.length c0_1, .slice A0_2 l0_2.length c0_2, .slice A0_3 l0_3.length c0_3, .int .i64 a0_4]] ?_; (with_reducible refine (p_Print.calls k _ _ l0_0 _ _ l0_1 _ _ l0_2 _ _ l0_3 a0_4 t267 t268 _ (Cs HR0_0) HC0_0.out (Cs HR0_1) HC0_1.out (Cs HR0_2) HC0_2.out (Cs HR0_3) HC0_3.out A4.out).mono ?_); rintro e w29 ⟨rfl, hb⟩; refine ⟨_, rfl, ?_⟩; replace BK265 := Bb BK265 hb; replace HB := Bs hb; clear hb; obtain ⟨Z30_0, Z30_1, Z30_2, Z30_3, Z30_4, Y30_0, Y30_1, Y30_2, Y30_3, Y30_4⟩ := cells5 BK265) | ((with_reducible refine gate_callee (f := 8) rfl ?_); refine goL (some 18) Tryz.func8 #[.agg #[.slice A0_0 l0_0.length c0_0, .slice A0_1 l0_1.length c0_1, .slice A0_2 l0_2.length c0_2, .slice A0_3 l0_3.length c0_3, .int .i64 a0_4]] ?_; (with_reducible refine (r11_Print.calls k _ _ l0_0 _ _ l0_1 _ _ l0_2 _ _ l0_3 a0_4 t269 t270 _ (Cs HR0_0) HC0_0.out (Cs HR0_1) HC0_1.out (Cs HR0_2) HC0_2.out (Cs HR0_3) HC0_3.out A5.out).mono ?_); rintro e w31 ⟨rfl, hb⟩; refine ⟨_, rfl, ?_⟩; replace BK265 := Bb BK265 hb; replace HB := Bs hb; clear hb) | ((with_reducible refine gate_callee (f := 6) rfl ?_); refine goL (some 21) Tryz.func6 #[] ?_; (with_reducible refine (l11_alive.calls k  false _ m_ ?hmS A6.out).mono ?_); (case hmS => exact (pw_cell_below Bw HM.out)); rintro e w32 ⟨rfl, hb⟩; refine ⟨_, rfl, ?_⟩; replace BK265 := Bb BK265 hb; replace HB := Bs hb; clear hb))
  go_ret;exact ⟨Re, Bw⟩
 replace c3 := bf c3;subst c3;rw [if_neg (show ¬ (false = true) by decide)] at H;obtain ⟨t272, A33, H⟩ := bx H;replace H : (some t272) = some r := H;obtain rfl := si H;go_enter Tryz.func3, Tryz.ntmps3;go_wp2_with (first | ((with_reducible refine gate_dst (N := 1) rfl ?_); refine box5 25 1 (cs := #[.slice A0_0 l0_0.length c0_0, .slice A0_1 l0_1.length c0_1, .slice A0_2 l0_2.length c0_2, .slice A0_3 l0_3.length c0_3, .int .i64 a0_4]) ?_; clear HB; intro gb265 w34 HB BK265 GE265; obtain ⟨Z35_0, Z35_1, Z35_2, Z35_3, Z35_4, Y35_0, Y35_1, Y35_2, Y35_3, Y35_4⟩ := cells5 BK265) | ((with_reducible refine gate_callee (f := 5) rfl ?_); refine goL (some 8) Tryz.func5 #[.agg #[.slice A0_0 l0_0.length c0_0, .slice A0_1 l0_1.length c0_1, .slice A0_2 l0_2.length c0_2, .slice A0_3 l0_3.length c0_3, .int .i64 a0_4]] ?_; (with_reducible refine (r11_Small.calls k _ _ l0_0 _ _ l0_1 _ _ l0_2 _ _ l0_3 a0_4 false _ (Cs HR0_0) HC0_0.out (Cs HR0_1) HC0_1.out (Cs HR0_2) HC0_2.out (Cs HR0_3) HC0_3.out A2.out).mono ?_); rintro e w36 ⟨rfl, hb⟩; refine ⟨_, rfl, ?_⟩; replace BK265 := Bb BK265 hb; replace HB := Bs hb; clear hb) | ((with_reducible refine gate_callee (f := 6) rfl ?_); refine goL (some 10) Tryz.func6 #[] ?_; (with_reducible refine (l11_alive.calls k  t272 _ m_ ?hmS A33.out).mono ?_); (case hmS => exact (pw_cell_below Bw HM.out)); rintro e w37 ⟨rfl, hb⟩; refine ⟨_, rfl, ?_⟩; replace BK265 := Bb BK265 hb; replace HB := Bs hb; clear hb));go_ret;exact ⟨Re, Bw⟩

end Go.Proofs.YtnbghhddmlohoaaGreatDoor.PAll

end

section
namespace Go.Proofs.YtnbghhddmlohoaaGreatDoor.RowOpen
open Go.RowKit Go.Proofs.YtnbghhddmlohoaaGreatDoorW.PrintWords

section
variable {P : Program}
def Opens (P : Program) {α : Type} (t : TypeId) (d : Kd α) (g : α → Prop) : Prop :=
  ∀ (H : Type) (enc : TypeId × Value → H) (fuel : Nat) (w : World) (cs : List Value) (x : DataW H × List MemPlace), DataW.trod enc P w 0 (fun _ => true) true fuel t cs = some x → ∃ a, d.K w a cs ∧ g a
theorem Opens.imp {α : Type} {t : TypeId} {d : Kd α} {g g' : α → Prop} (h : Opens P t d g) (hg : ∀ a, g a → g' a) : Opens P t d g' := fun H enc fuel w cs x hx => by
  obtain ⟨a, hK, ha⟩ := h H enc fuel w cs x hx
  exact ⟨a, hK, hg a ha⟩
theorem opens_int {t : TypeId} {k : IntKind} (hu : P.underlying t = some (.int k)) : Opens P t (Kd.int k) (fun n => (Lit.int k n).wf = true) := fun H enc fuel w cs x hx => by
  cases fuel with
  | zero => simp [DataW.trod] at hx
  | succ m =>
    unfold DataW.trod at hx
    rw [hu] at hx
    split at hx <;> simp_all
    obtain ⟨⟨rfl, hw⟩, _⟩ := hx
    exact ⟨_, rfl, hw⟩
theorem opens_string {t : TypeId} (hu : P.underlying t = some .string) : Opens P t Kd.string (fun s => s.size ≤ maxLen) := fun H enc fuel w cs x hx => by
  cases fuel with
  | zero => simp [DataW.trod] at hx
  | succ m =>
    unfold DataW.trod at hx
    rw [hu] at hx
    split at hx <;> simp_all
    exact ⟨_, rfl, hx.1⟩
theorem cells_get {w : World} {a : Addr} {n : Nat} {cs : List Value} (h : w.cells? 0 a n = some cs) : cs.length = n ∧ ∀ j u, cs[j]? = some u → w.cell? (a.add j) = some u := by
 unfold World.cells? at h;rw [if_pos (Nat.zero_le _)] at h;have hl := mapM_some_length h;rw [List.length_range] at hl;refine ⟨hl, fun j u hj => ?_⟩;have hlt : j < cs.length := (List.getElem?_eq_some_iff.1 hj).1;have := mapM_some_get h j j (by rw [List.getElem?_range (by omega)]);rw [this, hj]
theorem list_of {α : Type} {p : Nat → α → Prop} : ∀ n : Nat, (∀ i, i < n → ∃ a, p i a) → ∃ xs : List α, xs.length = n ∧ ∀ i a, xs[i]? = some a → p i a
 | 0, _ => ⟨[], rfl, fun i a h => by simp at h⟩
 | n + 1, h => by
  obtain ⟨xs, hl, hx⟩ := list_of n (fun i hi => h i (by omega))
  obtain ⟨a, ha⟩ := h n (by omega)
  refine ⟨xs ++ [a], by simp [hl], fun i b hb => ?_⟩
  rcases Nat.lt_trichotomy i n with hi | hi | hi
  ·rw [List.getElem?_append_left (by omega)] at hb
   exact hx i b hb
  ·subst hi
   rw [List.getElem?_append_right (by omega), hl, Nat.sub_self] at hb
   simp at hb
   subst hb
   exact ha
  rw [List.getElem?_eq_none (by simp; omega)] at hb
  cases hb
theorem opens_slice {α : Type} {t e : TypeId} {d : Kd α} {g : α → Prop} (hu : P.underlying t = some (.slice e)) (hsz : P.cellsOf e = d.sz) (h : Opens P e d g) :
  Opens P t (Kd.slice e d) (fun xs => xs.length ≤ maxLen ∧ ∀ x ∈ xs, g x) := fun H enc fuel w cs x hx => by
 rcases Go.Deep.open_slice hu hx with ⟨rfl, _⟩ | ⟨a, len, cap, m, n, D, Pl, rfl, _, hl, hm, hmm, _, hel⟩
 ·exact ⟨[], ⟨none, 0, rfl, Nat.le_refl _, rfl, by simp, fun h => absurd h (by simp)⟩, by simp, by simp⟩
 rw [if_pos rfl] at hmm
 subst hmm
 obtain ⟨xs, hxl, hxs⟩ := list_of (p := fun i y => ∃ c, w.cells? 0 (a.add (i * d.sz)) d.sz = some c ∧ d.K w y c ∧ g y) len (fun i hi => by
  obtain ⟨c, hc, ht⟩ := hel i (by omega)
  rw [hsz] at hc
  obtain ⟨y, hK, hg⟩ := h H enc n w c _ ht
  exact ⟨y, c, hc, hK, hg⟩)
 subst hxl
 refine ⟨xs, ⟨some a, m, rfl, hl, rfl, ?_, fun _ => ⟨a, rfl, fun j p hp => ?_⟩⟩, by omega, fun y hy => ?_⟩
 ·unfold maxLen at hm; omega
 ·obtain ⟨c, hc, hK, _⟩ := hxs j p hp
  obtain ⟨hcl, hcg⟩ := cells_get hc
  exact ⟨c, hcl, hK, fun i u hu' => by rw [← Addr.add_add]; exact hcg i u hu'⟩
 obtain ⟨j, hj⟩ := List.getElem?_of_mem hy
 obtain ⟨c, _, _, hg⟩ := hxs j y hj
 exact hg
def OpensF (P : Program) {α : Type} (fs : List Field) (d : Kd α) (g : α → Prop) (off : Nat) : Prop :=
  ∀ (H : Type) (enc : TypeId × Value → H) (fuel : Nat) (w : World) (cs : List Value) (xs : List (DataW H × List MemPlace)), cs.length = off + d.sz →
    (∀ (i : Nat) (f : Field), fs[i]? = some f → DataW.trod enc P w 0 (fun _ => true) true fuel f.type ((cs.drop f.offset).take (P.cellsOf f.type)) = xs[i]?) → xs.length = fs.length → ∃ a, d.K w a (cs.drop off) ∧ g a
theorem opensF_one {α : Type} {f : Field} {d : Kd α} {g : α → Prop} {off : Nat} (ho : f.offset = off) (hsz : P.cellsOf f.type = d.sz) (h : Opens P f.type d g) : OpensF P [f] d g off := fun H enc fuel w cs xs hl hx hn => by
  have h0 := hx 0 f rfl
  match xs, hn with
  | [x], _ =>
    rw [ho, hsz, List.take_of_length_le (by rw [List.length_drop]; omega)] at h0
    exact h H enc fuel w _ x h0
theorem opensF_cons {α β : Type} {f : Field} {fs : List Field} {d : Kd α} {d' : Kd β} {g : α → Prop} {g' : β → Prop} {off : Nat} (ho : f.offset = off) (hsz : P.cellsOf f.type = d.sz) (h : Opens P f.type d g) (hf : OpensF P fs d' g' (off + d.sz)) :
  OpensF P (f :: fs) (Kd.pair d d') (fun x => g x.1 ∧ g' x.2) off := fun H enc fuel w cs xs hl hx hn => by
 match xs, hn with
 | x :: xs, hn =>
  have h0 := hx 0 f rfl
  rw [ho, hsz] at h0
  obtain ⟨a, hK, hg⟩ := h H enc fuel w _ x h0
  have hl' : cs.length = off + (d.sz + d'.sz) := hl
  obtain ⟨b, hK', hg'⟩ := hf H enc fuel w cs xs (by omega) (fun i q hq => hx (i + 1) q hq) (by simpa using hn)
  refine ⟨(a, b), ⟨(cs.drop off).take d.sz, cs.drop (off + d.sz), ?_, hK, hK'⟩, hg, hg'⟩
  rw [← List.drop_drop, List.take_append_drop]
theorem opens_struct {α : Type} {t : TypeId} {fs : Array Field} {d : Kd α} {g : α → Prop} (hu : P.underlying t = some (.struct fs)) (hsz : P.cellsOf t = d.sz) (hf : OpensF P fs.toList d g 0) : Opens P t d g := fun H enc fuel w cs x hx => by
 obtain ⟨xs, m, rfl, _, hl, hlen, hel⟩ := DataW.trod_struct hu hx
 obtain ⟨a, hK, hg⟩ := hf H enc m w cs xs (by omega) (fun i f hi => hel i f (by rw [← Array.getElem?_toList]; exact hi)) (by simpa using hlen)
 exact ⟨a, hK, hg⟩
theorem opens_iso {α β : Type} {t : TypeId} {d : Kd α} {g : α → Prop} {f : β → α} (inv : α → β) (hi : ∀ x, f (inv x) = x) (h : Opens P t d g) : Opens P t (Kd.iso d f) (fun y => g (f y)) := fun H enc fuel w cs x hx => by
  obtain ⟨a, hK, hg⟩ := h H enc fuel w cs x hx
  refine ⟨inv a, ?_, by show g (f (inv a)); rw [hi]; exact hg⟩
  show d.K w (f (inv a)) cs
  rw [hi]
  exact hK
end
end Go.Proofs.YtnbghhddmlohoaaGreatDoor.RowOpen

end

section
namespace Go.Proofs.YtnbghhddmlohoaaGreatDoor.policyPrintOp
open Go.RowKit Go.Proofs.YtnbghhddmlohoaaGreatDoor.PAll Go.Proofs.YtnbghhddmlohoaaGreatDoorW.PrintWords Go.Proofs.YtnbghhddmlohoaaGreatDoor.RowOpen
def G38 (y : S38) : Prop := y.f0.size ≤ maxLen ∧ (y.f1.length ≤ maxLen ∧ ∀ y4 ∈ y.f1, y4.size ≤ maxLen)
theorem o38 : Opens Tryz.prog 38 k38 G38 := Opens.imp (opens_iso (f := fun x : S38 => (x.f0, x.f1)) (fun x => (⟨x.1, x.2⟩ : S38)) (fun _ => rfl) (opens_struct Tryz.underlying38 (by kernel_rfl) (opensF_cons rfl (by kernel_rfl) (opens_string Tryz.underlying9) (opensF_one rfl (by kernel_rfl) (opens_slice Tryz.underlying23 (by kernel_rfl) (opens_string Tryz.underlying9)))))) (fun y h => h)
def G25 (y : S25) : Prop := (y.f0.length ≤ maxLen ∧ ∀ y4 ∈ y.f0, G38 y4) ∧ (y.f1.length ≤ maxLen ∧ ∀ y4 ∈ y.f1, y4.size ≤ maxLen) ∧ (y.f2.length ≤ maxLen ∧ ∀ y4 ∈ y.f2, y4.size ≤ maxLen) ∧ (y.f3.length ≤ maxLen ∧ ∀ y4 ∈ y.f3, y4.size ≤ maxLen) ∧ (Lit.int .i64 y.f4).wf = true
theorem o25 : Opens Tryz.prog 25 k25 G25 := Opens.imp (opens_iso (f := fun x : S25 => (x.f0, x.f1, x.f2, x.f3, x.f4)) (fun x => (⟨x.1, x.2.1, x.2.2.1, x.2.2.2.1, x.2.2.2.2⟩ : S25)) (fun _ => rfl) (opens_struct Tryz.underlying25 (by kernel_rfl) (opensF_cons rfl (by kernel_rfl) (opens_slice Tryz.underlying22 (by kernel_rfl) o38) (opensF_cons rfl (by kernel_rfl) (opens_slice Tryz.underlying23 (by kernel_rfl) (opens_string Tryz.underlying9)) (opensF_cons rfl (by kernel_rfl) (opens_slice Tryz.underlying23 (by kernel_rfl) (opens_string Tryz.underlying9)) (opensF_cons rfl (by kernel_rfl) (opens_slice Tryz.underlying23 (by kernel_rfl) (opens_string Tryz.underlying9)) (opensF_one rfl (by kernel_rfl) (opens_int Tryz.underlying3)))))))) (fun y h => h)
def Plain : Prop := ∀ (x0 : S25), G25 x0 → ∃ k, l11_PolicyPrint.f k x0.f0 x0.f1 x0.f2 x0.f3 x0.f4 = some true
end Go.Proofs.YtnbghhddmlohoaaGreatDoor.policyPrintOp

end

section
namespace Go.Proofs.YtnbghhddmlohoaaGreatDoor.Pure
open Go.RowKit Go.Proofs.YtnbghhddmlohoaaGreatDoor.PAll Go.Proofs.YtnbghhddmlohoaaGreatDoorW.PrintWords Go.Proofs.YtnbghhddmlohoaaGreatDoorW.PrintLast

theorem wrap_next {i : Nat} (h : i < 9223372036854775807) : wrap64 ((i : Int) + 1) = ((i + 1 : Nat) : Int) := by
  unfold wrap64
  omega
theorem bytes_data (s : ByteArray) : s.toList = s.data.toList := ByteArray.toList_eq s
theorem data_len (s : ByteArray) : s.data.toList.length = s.size := by simp
theorem bt_get (s : ByteArray) (i : Nat) (c : UInt8) (h : s.data.toList[i]? = some c) : bt s (i : Int) = (c.toNat : Int) := by
  obtain ⟨h1, h2⟩ := List.getElem?_eq_some_iff.1 h
  have h3 : i < s.size := by simpa using h1
  unfold bt
  rw [dif_pos (by omega), ← h2]
  rfl
theorem ext_take (s : ByteArray) (a b : Nat) : (s.extract a b).data.toList = (s.data.toList.drop a).take (b - a) := by
  have e : (s.extract a b).data = s.data.extract a b := by simp
  rw [e, Array.toList_extract, List.extract_eq_take_drop]
theorem ba_ext {a b : ByteArray} (h : a.data.toList = b.data.toList) : a = b := by
  obtain ⟨⟨a⟩⟩ := a
  obtain ⟨⟨b⟩⟩ := b
  simp at h
  rw [h]
def sFig (c : UInt8) : Bool := decide (48 ≤ c.toNat ∧ c.toNat ≤ 57)
theorem u8_all {p : UInt8 → Prop} (h : ∀ n, n < 256 → p (UInt8.ofNat n)) (c : UInt8) : p c := by
  have := h c.toNat c.toNat_lt
  simpa using this
theorem rfigure_f (c : UInt8) : r02_Figure.f (c.toNat : Int) = some (sFig c) := by
  revert c
  apply u8_all
  decide +kernel
theorem drop_get (s : ByteArray) (i : Nat) (h : i < s.size) : ∃ c, s.data.toList[i]? = some c ∧ s.data.toList.drop i = c :: s.data.toList.drop (i + 1) := by
  have h' : i < s.data.toList.length := by rw [data_len]; exact h
  exact ⟨s.data.toList[i], List.getElem?_eq_getElem h', List.drop_eq_getElem_cons h'⟩
theorem rd_at (l : List ByteArray) (i : Nat) (h : i < l.length) : rdOf ByteArray.empty l (i : Int) = l[i] := by
  simp [rdOf, List.getD_eq_getElem?_getD, h]
theorem index_l0 (l : List ByteArray) (x : ByteArray) (hl : l.length ≤ 1000000) : ∀ (d i : Nat), i + d = l.length →
  ∃ n : Int, Ev (fun k => slI_.l0 k l x (l.length : Int) (i : Int)) n ∧ decide (n ≥ 0) = (l.drop i).any (fun y => y.data.toList == x.data.toList) := by
 intro d
 induction d with
 | zero =>
  intro i hi;refine ⟨-1, Ev.step (f := fun _ => some (-1)) (fun k => ?_) (Ev.now _), ?_⟩
  ·simp only [slI_.l0];rw [if_neg (by omega)]
  rw [List.drop_of_length_le (by omega)]; rfl
 | succ d ih =>
  intro i hi;have hlt : i < l.length := by omega
  rw [List.drop_eq_getElem_cons hlt, List.any_cons]
  by_cases h : l[i].data.toList = x.data.toList
  ·refine ⟨(i : Int), Ev.step (f := fun _ => some (i : Int)) (fun k => ?_) (Ev.now _), ?_⟩
   ·simp only [slI_.l0];rw [if_pos (by omega), if_pos (by omega), if_pos (by omega), rd_at l i hlt, bytes_data, bytes_data, if_pos h.symm]
   rw [h, beq_self_eq_true, Bool.true_or, decide_eq_true (by omega)]
  obtain ⟨n, h1, h2⟩ := ih (i + 1) (by omega);refine ⟨n, Ev.step (f := fun k => slI_.l0 k l x (l.length : Int) ((i + 1 : Nat) : Int)) (fun k => ?_) h1, ?_⟩
  ·simp only [slI_.l0];rw [if_pos (by omega), if_pos (by omega), if_pos (by omega), rd_at l i hlt, bytes_data, bytes_data, if_neg (fun e => h e.symm), wrap_next (by omega)]
  have e : (l[i].data.toList == x.data.toList) = false := beq_eq_false_iff_ne.mpr h;rw [h2, e, Bool.false_or]
theorem contains_ev (l : List ByteArray) (x : ByteArray) (hl : l.length ≤ 1000000) : Ev (fun k => slC_.f k l x) (l.any fun y => y.data.toList == x.data.toList) := by
 obtain ⟨n, h1, h2⟩ := index_l0 l x hl l.length 0 (by omega);rw [List.drop_zero] at h2;rw [← h2];unfold slC_.f;exact Ev.bind (f := fun _ t => some (decide (t ≥ 0))) h1 (Ev.now _)
end Go.Proofs.YtnbghhddmlohoaaGreatDoor.Pure

end

section
namespace Go.Proofs.YtnbghhddmlohoaaGreatDoor.Pure
open Go.RowKit Go.Proofs.YtnbghhddmlohoaaGreatDoor.PAll Go.Proofs.YtnbghhddmlohoaaGreatDoorW.PrintWords Go.Proofs.YtnbghhddmlohoaaGreatDoorW.PrintLast
set_option linter.unusedSimpArgs false
set_option linter.unusedVariables false

def wsum (l : List ByteArray) : Nat := (l.map fun x => x.size + 1).sum
end Go.Proofs.YtnbghhddmlohoaaGreatDoor.Pure

end

section
namespace Go.Proofs.YtnbghhddmlohoaaGreatDoor.Pure
open Go.RowKit Go.Proofs.YtnbghhddmlohoaaGreatDoor.PAll Go.Proofs.YtnbghhddmlohoaaGreatDoorW.PrintWords Go.Proofs.YtnbghhddmlohoaaGreatDoorW.PrintLast

def w_raw : List (List UInt8) := [[105, 102, 114, 97, 109, 101], [110, 111, 101, 109, 98, 101, 100], [110, 111, 102, 114, 97, 109, 101, 115], [115, 99, 114, 105, 112, 116], [115, 116, 121, 108, 101], [120, 109, 112]]
def w_rcdata : List (List UInt8) := [[116, 101, 120, 116, 97, 114, 101, 97], [116, 105, 116, 108, 101]]
def w_table : List (List UInt8) := [[99, 97, 112, 116, 105, 111, 110], [99, 111, 108], [99, 111, 108, 103, 114, 111, 117, 112], [116, 98, 111, 100, 121], [116, 100], [116, 102, 111, 111, 116], [116, 104], [116, 104, 101, 97, 100], [116, 114]]
def w_skip : List (List UInt8) := [[98, 111, 100, 121], [102, 114, 97, 109, 101], [102, 114, 97, 109, 101, 115, 101, 116], [104, 101, 97, 100], [104, 116, 109, 108]]

def setK (k : Int) : List (List UInt8) :=
  if k = 2 then w_raw else if k = 3 then w_rcdata else if k = 12 then w_table ++ w_skip else []
def inK (k : Int) (name : ByteArray) : Bool := (setK k).contains name.data.toList

theorem size_toList (s : ByteArray) : s.toList.length = s.size := by rw [bytes_data]; simp
theorem bt_nat (s : ByteArray) (i : Nat) (h : i < s.size) : bt s (i : Int) = ((s.toList.getD i 0).toNat : Int) := by
  have h' : i < s.data.size := h
  rw [bytes_data]
  simp [bt, h, List.getD_eq_getElem?_getD]
  rfl
theorem among_l0 (a0 : ByteArray) (xs : List ByteArray) (hx : xs.length ≤ 1000000) : ∀ (d i k : Nat), i + d = xs.length → d < k →
  kind_among.l0 k a0 xs (xs.length : Int) (i : Int) = some ((xs.drop i).any fun s => s.toList == a0.toList) := by
 intro d
 induction d with
 | zero =>
  intro i k hi hk;obtain ⟨k, rfl⟩ : ∃ m, k = m + 1 := ⟨k - 1, by omega⟩;simp only [kind_among.l0];rw [if_neg (by omega), List.drop_of_length_le (by omega)];rfl
 | succ d ih =>
  intro i k hi hk;obtain ⟨k, rfl⟩ : ∃ m, k = m + 1 := ⟨k - 1, by omega⟩;have hlt : i < xs.length := by omega
  simp only [kind_among.l0];rw [if_pos (by omega), if_pos (by omega), if_pos (by omega), wrap_next (by omega), ih (i + 1) k (by omega) (by omega)];have e : rdOf ByteArray.empty xs (i : Int) = xs[i] := by simp [rdOf, List.getD_eq_getElem?_getD, hlt]
  rw [e, List.drop_eq_getElem_cons hlt, List.any_cons]
  by_cases h : xs[i].toList = a0.toList
  ·rw [if_pos h]; simp [h]
  rw [if_neg h]; simp [h]
theorem among_ev (a0 : ByteArray) (xs : List ByteArray) (hx : xs.length ≤ 1000000) : Ev (fun k => kind_among.f k a0 xs) ((xs.map fun s => s.data.toList).contains a0.data.toList) := by
 refine ⟨xs.length + 1, fun k hk => ?_⟩;have h := among_l0 a0 xs hx xs.length 0 k (by omega) (by omega);unfold kind_among.f;rw [List.drop_zero] at h;refine Eq.trans h ?_
 congr 1
 rw [List.contains_eq_any_beq, List.any_map]
 apply congrArg (fun p => List.any xs p)
 funext s
 rw [bytes_data, bytes_data];exact Bool.beq_comm
theorem raw_ev (a0 : ByteArray) : Ev (fun k => kind_raw.f k a0) (w_raw.contains a0.data.toList) := by
  unfold kind_raw.f
  refine Ev.bind (among_ev a0 _ (by decide)) ?_
  exact ⟨0, fun _ _ => rfl⟩
theorem rcdata_ev (a0 : ByteArray) : Ev (fun k => kind_rcdata.f k a0) (w_rcdata.contains a0.data.toList) := by
  unfold kind_rcdata.f
  refine Ev.bind (among_ev a0 _ (by decide)) ?_
  exact ⟨0, fun _ _ => rfl⟩
theorem table_ev (a0 : ByteArray) : Ev (fun k => kind_table.f k a0) (w_table.contains a0.data.toList) := by
  unfold kind_table.f
  refine Ev.bind (among_ev a0 _ (by decide)) ?_
  exact ⟨0, fun _ _ => rfl⟩
theorem Ev.or {g : Nat → Option Bool} {f : Nat → Option Bool} {b c : Bool} (h : Ev g b) (h' : Ev f c) : Ev (fun n => (g n).bind fun t => if t = true then some true else f n) (b || c) := by
  refine Ev.bind h ?_
  cases b with
  | true => exact ⟨0, fun _ _ => rfl⟩
  | false => exact Ev.congr (fun _ => rfl) h'
theorem Ev.pass {g : Nat → Option Bool} {b : Bool} (h : Ev g b) : Ev (fun n => (g n).bind fun t => some t) b := by
  refine Ev.bind h ?_
  exact ⟨0, fun _ _ => rfl⟩
theorem contains_append (a b : List (List UInt8)) (x : List UInt8) : (a ++ b).contains x = (a.contains x || b.contains x) := by
  simp
theorem is_ev (k0 : Int) (a1 : ByteArray) (h : k0 = 2 ∨ k0 = 3 ∨ k0 = 12 := by decide) : Ev (fun k => kind_Is.f k k0 a1) (inK k0 a1) := by
 unfold inK
 rcases h with rfl | rfl | rfl
 ·exact Ev.congr (fun _ => rfl) (Ev.pass (raw_ev a1))
 ·exact Ev.congr (fun _ => rfl) (Ev.pass (rcdata_ev a1))
 have e : setK 12 = w_table ++ w_skip := rfl;rw [e, contains_append];exact Ev.congr (fun _ => rfl) (Ev.or (table_ev a1) (Ev.pass (among_ev a1 _ (by decide))))
def splitG : List UInt8 → List UInt8 → List (List UInt8)
  | cur, [] => [cur]
  | cur, c :: r => if c = 32 then cur :: splitG [] r else splitG (cur ++ [c]) r
def splitB (s : ByteArray) : List (List UInt8) := splitG [] s.data.toList

theorem extract_take (s : ByteArray) (a b : Nat) : (s.extract a b).toList = (s.data.toList.drop a).take (b - a) := by
  rw [bytes_data]
  have e : (s.extract a b).data = s.data.extract a b := by simp
  rw [e, Array.toList_extract, List.extract_eq_take_drop]
theorem bt_data (s : ByteArray) (i : Nat) (h : i < s.size) (h' : i < s.data.toList.length) : bt s (i : Int) = (s.data.toList[i].toNat : Int) := by
  rw [bt_nat s i h, bytes_data, List.getD_eq_getElem?_getD, List.getElem?_eq_getElem h']
  rfl
theorem in_l0 (x0 x1 : ByteArray) (hs : x0.size ≤ 1000000) : ∀ (d b i k : Nat), i + d = x0.size → b ≤ i → 2 * d + 2 < k →
  r02_In.l0 k x0 x1 (b : Int) (i : Int) = some ((splitG ((x0.data.toList.drop b).take (i - b)) (x0.data.toList.drop i)).contains x1.data.toList) := by
 have hlen : x0.data.toList.length = x0.size := by simp
 intro d
 induction d with
 | zero =>
  intro b i k hi hb hk;obtain ⟨k, rfl⟩ : ∃ m, k = m + 3 := ⟨k - 3, by omega⟩;simp only [r02_In.l0, r02_In.j1];rw [if_pos (by omega), if_pos (by omega), if_pos trivial, if_pos (by omega), if_pos (by omega), if_pos (by omega)];rw [List.drop_of_length_le (show x0.data.toList.length ≤ i by omega)];rw [Int.toNat_natCast, Int.toNat_natCast, extract_take x0 b i, bytes_data];simp only [splitG]
  by_cases e : (x0.data.toList.drop b).take (i - b) = x1.data.toList
  ·rw [if_pos e]; simp [e]
  rw [if_neg e, wrap_next (by omega), if_neg (by omega)]
  simp [Ne.symm e]
 | succ d ih =>
  intro b i k hi hb hk;obtain ⟨k, rfl⟩ : ∃ m, k = m + 2 := ⟨k - 2, by omega⟩;have hlt : i < x0.size := by omega
  have hlt' : i < x0.data.toList.length := by omega
  simp only [r02_In.l0, r02_In.j1];rw [if_pos (by omega), if_neg (by omega), if_pos (by omega), if_pos (by omega)];rw [bt_data x0 i hlt hlt', wrap_next (by omega)];rw [List.drop_eq_getElem_cons hlt'];simp only [splitG]
  by_cases e : x0.data.toList[i] = 32
  ·have e' : (((x0.data.toList[i]).toNat : Int) == 32) = true := by rw [e]; rfl
   rw [e', if_pos rfl, if_pos e, if_pos (by omega), if_pos (by omega), if_pos (by omega), ih (i + 1) (i + 1) k (by omega) (by omega) (by omega)];rw [Int.toNat_natCast, Int.toNat_natCast, extract_take x0 b i, bytes_data x1];rw [Nat.sub_self, List.take_zero]
   by_cases q : (x0.data.toList.drop b).take (i - b) = x1.data.toList
   ·rw [if_pos q]; simp [q]
   rw [if_neg q]; simp [Ne.symm q]
  have e' : (((x0.data.toList[i]).toNat : Int) == 32) = false := by
   rw [beq_eq_false_iff_ne];intro q;exact e (UInt8.toNat.inj (show _ = 32 by omega))
  rw [e', if_neg (by simp), if_neg e, ih b (i + 1) k (by omega) (by omega) (by omega)];rw [show i + 1 - b = (i - b) + 1 by omega, List.take_add_one, List.getElem?_drop, show b + (i - b) = i by omega, List.getElem?_eq_getElem hlt'];rfl
theorem in_ev (a0 a1 : ByteArray) (hs : a0.size ≤ 1000000) : Ev (fun k => r02_In.f k a0 a1) ((splitB a0).contains a1.data.toList) := by
  refine ⟨2 * a0.size + 3, fun k hk => ?_⟩
  have h := in_l0 a0 a1 hs a0.size 0 0 k (by omega) (by omega) (by omega)
  rw [List.drop_zero, Nat.sub_zero, List.take_zero] at h
  exact h
def anyIn (xs : List ByteArray) (x : List UInt8) : Bool := xs.any fun s => (splitB s).contains x
theorem refIs_l0 (x1 : ByteArray) (xs : List ByteArray) (hx : xs.length ≤ 1000000) (hs : ∀ s ∈ xs, s.size ≤ 1000000) : ∀ (d i : Nat), i + d = xs.length →
  Ev (fun k => r02_Is.l0 k x1 xs (i : Int)) (anyIn (xs.drop i) x1.data.toList) := by
 intro d
 induction d with
 | zero =>
  intro i hi;refine Ev.step (f := fun _ => some false) (fun k => ?_) ?_
  ·simp only [r02_Is.l0]; rw [if_neg (by omega)]
  rw [List.drop_of_length_le (by omega)]; exact ⟨0, fun _ _ => rfl⟩
 | succ d ih =>
  intro i hi;have hlt : i < xs.length := by omega
  refine Ev.step (f := fun k => (r02_In.f k xs[i] x1).bind fun t => if t = true then some true else r02_Is.l0 k x1 xs ((i + 1 : Nat) : Int)) (fun k => ?_) ?_
  ·simp only [r02_Is.l0];have e : rdOf ByteArray.empty xs (i : Int) = xs[i] := by simp [rdOf, List.getD_eq_getElem?_getD, hlt]
   rw [if_pos (by omega), if_pos (by omega), e, wrap_next (by omega)]
  rw [List.drop_eq_getElem_cons hlt];exact Ev.or (in_ev xs[i] x1 (hs _ (List.getElem_mem hlt))) (ih (i + 1) (by omega))
theorem refIs_of {k0 : Int} {xs : List ByteArray} (h : r02_names.f k0 = some xs) (x1 : ByteArray) (hx : xs.length ≤ 1000000) (hs : ∀ s ∈ xs, s.size ≤ 1000000) :
  Ev (fun k => r02_Is.f k k0 x1) (anyIn xs x1.data.toList) := by
 have h0 := refIs_l0 x1 xs hx hs xs.length 0 (by omega);rw [List.drop_zero] at h0;unfold r02_Is.f;exact Ev.bind ⟨0, fun _ _ => h⟩ h0
theorem anyIn_eq {xs : List ByteArray} {S : List (List UInt8)} (h1 : ∀ y ∈ S, y ∈ xs.flatMap splitB) (h2 : ∀ y ∈ xs.flatMap splitB, y ∈ S) (x : List UInt8) : anyIn xs x = S.contains x := by
 rw [Bool.eq_iff_iff, List.contains_iff_mem];unfold anyIn;rw [List.any_eq_true]
 constructor
 ·rintro ⟨s, hs, hc⟩;exact h2 x (List.mem_flatMap.2 ⟨s, hs, List.contains_iff_mem.1 hc⟩)
 intro h;obtain ⟨s, hs, hc⟩ := List.mem_flatMap.1 (h1 x h);exact ⟨s, hs, List.contains_iff_mem.2 hc⟩
theorem refIs_set (k0 : Int) (xs : List ByteArray) (h : r02_names.f k0 = some xs) (x1 : ByteArray) (hx : xs.length ≤ 1000000) (hs : ∀ s ∈ xs, s.size ≤ 1000000)
    (h1 : ∀ y ∈ setK k0, y ∈ xs.flatMap splitB) (h2 : ∀ y ∈ xs.flatMap splitB, y ∈ setK k0) : Ev (fun k => r02_Is.f k k0 x1) (inK k0 x1) := by
  unfold inK
  rw [← anyIn_eq h1 h2]
  exact refIs_of h x1 hx hs
theorem refIs_ev (k0 : Int) (x1 : ByteArray) (h : k0 = 2 ∨ k0 = 3 ∨ k0 = 12 := by decide) : Ev (fun k => r02_Is.f k k0 x1) (inK k0 x1) := by
 rcases h with rfl | rfl | rfl
 ·exact refIs_set 2 _ rfl x1 (by decide +kernel) (by decide +kernel) (by decide +kernel) (by decide +kernel)
 ·exact refIs_set 3 _ rfl x1 (by decide +kernel) (by decide +kernel) (by decide +kernel) (by decide +kernel)
 exact refIs_set 12 _ rfl x1 (by decide +kernel) (by decide +kernel) (by decide +kernel) (by decide +kernel)
theorem Ev.way {α : Type} {g : Nat → Option Bool} {b : Bool} {X Y : Nat → Option α} {r : α} (h : Ev g b) (hx : b = true → Ev X r) (hy : b = false → Ev Y r) :
  Ev (fun n => (g n).bind fun t => if t = true then X n else Y n) r := by
 cases b with
 | true => exact Ev.bind (f := fun n t => if t = true then X n else Y n) h (Ev.congr (fun k => if_pos rfl) (hx rfl))
 | false => exact Ev.bind (f := fun n t => if t = true then X n else Y n) h (Ev.congr (fun k => if_neg (by decide)) (hy rfl))
def memB (l : List ByteArray) (x : ByteArray) : Bool := l.any fun y => y.data.toList == x.data.toList
def nmGo : List ByteArray → List ByteArray → Bool
  | _, [] => true
  | pre, x :: r => nameB x && (!memB pre x && nmGo (pre ++ [x]) r)
def namesS (l : List ByteArray) : Bool := nmGo [] l
theorem take_next (l : List ByteArray) (i : Nat) (h : i < l.length) : l.take i ++ [l[i]] = l.take (i + 1) := by
  rw [List.take_add_one, List.getElem?_eq_getElem h]; rfl
theorem areNames_l0 (l : List ByteArray) (hl : l.length ≤ 1000000) : ∀ (d i : Nat), i + d = l.length → Ev (fun k => p_areNames.l0 k l l (l.length : Int) (i : Int)) (nmGo (l.take i) (l.drop i)) := by
 intro d
 induction d with
 | zero =>
  intro i hi;refine Ev.step (f := fun _ => some true) (fun k => ?_) ?_
  ·simp only [p_areNames.l0];rw [if_neg (by omega)]
  rw [List.drop_of_length_le (by omega)]; exact Ev.now _
 | succ d ih =>
  intro i hi;have hlt : i < l.length := by omega
  rw [List.drop_eq_getElem_cons hlt];refine Ev.step (f := fun k => (p_isName.f l[i]).bind fun t => if t = true then ((slC_.f k (l.take i) l[i]).bind fun t2 => if t2 = true then some false else p_areNames.l0 k l l (l.length : Int) ((i + 1 : Nat) : Int)) else some false) (fun k => ?_) ?_
  ·simp only [p_areNames.l0];rw [if_pos (by omega), if_pos (by omega), if_pos (by omega), rd_at l i hlt, wrap_next (by omega), if_pos (show (i : Int) ≤ (l.length : Int) by omega)];rfl
  unfold nmGo;refine Ev.way (g := fun _ => p_isName.f l[i]) (b := nameB l[i]) ⟨0, fun _ _ => rfl⟩ (fun hn => ?_) (fun hn => ?_)
  ·refine Ev.way (contains_ev (l.take i) l[i] (by rw [List.length_take]; omega)) (fun hm => ?_) (fun hm => ?_)
   ·rw [hn, show memB (l.take i) l[i] = true from hm]; exact Ev.now _
   rw [hn, show memB (l.take i) l[i] = false from hm, take_next l i hlt]; exact ih (i + 1) (by omega)
  rw [hn]; exact Ev.now _
theorem areNames_ev (l : List ByteArray) (hl : l.length ≤ 1000000) : Ev (fun k => p_areNames.f k l) (namesS l) := by
  have h := areNames_l0 l hl l.length 0 (by omega)
  rw [List.take_zero, List.drop_zero] at h
  exact h
theorem refin_l0 (l : List ByteArray) (x : ByteArray) (hl : l.length ≤ 1000000) : ∀ (d i : Nat), i + d = l.length → Ev (fun k => r11_in.l0 k l x (i : Int)) (memB (l.drop i) x) := by
 intro d
 induction d with
 | zero =>
  intro i hi;refine Ev.step (f := fun _ => some false) (fun k => ?_) ?_
  ·simp only [r11_in.l0];rw [if_neg (by omega)]
  rw [List.drop_of_length_le (by omega)]; exact Ev.now _
 | succ d ih =>
  intro i hi;have hlt : i < l.length := by omega
  rw [List.drop_eq_getElem_cons hlt];unfold memB;rw [List.any_cons]
  by_cases h : l[i].data.toList = x.data.toList
  ·refine Ev.step (f := fun _ => some true) (fun k => ?_) ?_
   ·simp only [r11_in.l0];rw [if_pos (by omega), if_pos (by omega), rd_at l i hlt, bytes_data, bytes_data, if_pos h]
   rw [h, beq_self_eq_true, Bool.true_or]; exact Ev.now _
  refine Ev.step (f := fun k => r11_in.l0 k l x ((i + 1 : Nat) : Int)) (fun k => ?_) ?_
  ·simp only [r11_in.l0];rw [if_pos (by omega), if_pos (by omega), rd_at l i hlt, bytes_data, bytes_data, if_neg h, wrap_next (by omega)]
  have e : (l[i].data.toList == x.data.toList) = false := beq_eq_false_iff_ne.mpr h;rw [e, Bool.false_or];exact ih (i + 1) (by omega)
theorem refin_ev (l : List ByteArray) (x : ByteArray) (hl : l.length ≤ 1000000) : Ev (fun k => r11_in.f k l x) (memB l x) := by
  have h := refin_l0 l x hl l.length 0 (by omega)
  rw [List.drop_zero] at h
  exact h
theorem nmC_ref (c : UInt8) : nmC (c.toNat : Int) = (decide ((c.toNat : Int) ≥ 97 ∧ (c.toNat : Int) ≤ 122) || (sFig c || decide ((c.toNat : Int) = 45))) := by
  revert c
  apply u8_all
  decide +kernel
theorem refName_l0 (s : ByteArray) (hs : s.size ≤ 1000000) : ∀ (d i : Nat), i + d = s.size → Ev (fun k => r11_Name.l0 k s (i : Int)) ((s.data.toList.drop i).all (fun c => nmC (c.toNat : Int))) := by
 intro d
 induction d with
 | zero =>
  intro i hi;refine Ev.step (f := fun _ => some true) (fun k => ?_) ?_
  ·simp only [r11_Name.l0];rw [if_neg (by omega)]
  rw [List.drop_of_length_le (by rw [data_len]; omega)]; exact Ev.now _
 | succ d ih =>
  intro i hi;have hlt : i < s.size := by omega
  obtain ⟨c, hc, hd⟩ := drop_get s i hlt;have hb := bt_get s i c hc;rw [hd, List.all_cons, nmC_ref];refine Ev.step (f := fun k => if (c.toNat : Int) ≥ 97 then (if (c.toNat : Int) ≤ 122 then r11_Name.l0 k s ((i + 1 : Nat) : Int) else ((some (sFig c)).bind fun t => if t = true then r11_Name.l0 k s ((i + 1 : Nat) : Int) else (if (c.toNat : Int) = 45 then r11_Name.l0 k s ((i + 1 : Nat) : Int) else some false))) else ((some (sFig c)).bind fun t => if t = true then r11_Name.l0 k s ((i + 1 : Nat) : Int) else (if (c.toNat : Int) = 45 then r11_Name.l0 k s ((i + 1 : Nat) : Int) else some false))) (fun k => ?_) ?_
  ·simp only [r11_Name.l0];rw [if_pos (by omega), if_pos (by omega), hb, rfigure_f, wrap_next (by omega)]
  have hrest : Ev (fun k => (some (sFig c)).bind fun t => if t = true then r11_Name.l0 k s ((i + 1 : Nat) : Int) else (if (c.toNat : Int) = 45 then r11_Name.l0 k s ((i + 1 : Nat) : Int) else some false)) ((sFig c || decide ((c.toNat : Int) = 45)) && (s.data.toList.drop (i + 1)).all (fun c => nmC (c.toNat : Int))) := by
   refine Ev.way (g := fun _ => some (sFig c)) (Ev.now _) (fun h => ?_) (fun h => ?_)
   ·rw [h]; exact ih (i + 1) (by omega)
   rw [h]
   by_cases h45 : (c.toNat : Int) = 45
   ·rw [decide_eq_true h45];exact Ev.congr (fun k => if_pos h45) (ih (i + 1) (by omega))
   rw [decide_eq_false h45];exact Ev.congr (fun k => if_neg h45) (Ev.now _)
  by_cases h97 : (c.toNat : Int) ≥ 97
  ·by_cases h122 : (c.toNat : Int) ≤ 122
   ·rw [decide_eq_true (show (c.toNat : Int) ≥ 97 ∧ (c.toNat : Int) ≤ 122 from ⟨h97, h122⟩)];exact Ev.congr (fun k => by rw [if_pos h97, if_pos h122]) (ih (i + 1) (by omega))
   rw [decide_eq_false (show ¬ ((c.toNat : Int) ≥ 97 ∧ (c.toNat : Int) ≤ 122) from fun h => h122 h.2)];exact Ev.congr (fun k => by rw [if_pos h97, if_neg h122]) hrest
  rw [decide_eq_false (show ¬ ((c.toNat : Int) ≥ 97 ∧ (c.toNat : Int) ≤ 122) from fun h => h97 h.1)];exact Ev.congr (fun k => by rw [if_neg h97]) hrest
theorem refName_ev (s : ByteArray) : Ev (fun k => r11_Name.f k s) (nameB s) := by
 have hj : ∀ b : Bool, Ev (fun k => r11_Name.j0 k s b) (if b = true then false else if s.size ≤ 20 then s.data.toList.all (fun c => nmC (c.toNat : Int)) else false) ∨ ¬ s.size ≤ 20 := by
  intro b
  by_cases hs : s.size ≤ 20
  ·left
   have h := refName_l0 s (by omega) s.size 0 (by omega);rw [List.drop_zero] at h;refine Ev.step (f := fun k => if b = true then some false else r11_Name.l0 k s 0) (fun k => ?_) ?_
   ·simp only [r11_Name.j0]
   cases b with
   | true => exact Ev.congr (fun k => if_pos rfl) (Ev.now _)
   | false => rw [if_neg (by decide), if_pos hs]; exact Ev.congr (fun k => if_neg (by decide)) h
  exact .inr hs
 have hjt : Ev (fun k => r11_Name.j0 k s true) false := Ev.step (f := fun _ => some false) (fun k => by simp only [r11_Name.j0]; rfl) (Ev.now _);unfold r11_Name.f nameB
 by_cases h1 : (s.size : Int) < 1
 ·rw [decide_eq_false (show ¬ (1 ≤ s.size ∧ s.size ≤ 20) by omega)];exact Ev.congr (fun k => if_pos h1) hjt
 by_cases h20 : (s.size : Int) > 20
 ·rw [decide_eq_false (show ¬ (1 ≤ s.size ∧ s.size ≤ 20) by omega)];exact Ev.congr (fun k => by rw [if_neg h1, if_pos h20]) hjt
 rw [decide_eq_true (show 1 ≤ s.size ∧ s.size ≤ 20 by omega), Bool.true_and]
 by_cases ha : bt s 0 < 97
 ·rw [decide_eq_false (show ¬ (97 ≤ bt s 0 ∧ bt s 0 ≤ 122) by omega), Bool.false_and];exact Ev.congr (fun k => by rw [if_neg h1, if_neg h20, if_pos (by omega), if_pos ha]) hjt
 by_cases hb : bt s 0 > 122
 ·rw [decide_eq_false (show ¬ (97 ≤ bt s 0 ∧ bt s 0 ≤ 122) by omega), Bool.false_and];exact Ev.congr (fun k => by rw [if_neg h1, if_neg h20, if_pos (by omega), if_neg ha, decide_eq_true hb]) hjt
 rw [decide_eq_true (show 97 ≤ bt s 0 ∧ bt s 0 ≤ 122 by omega), Bool.true_and];have h := (hj false).resolve_right (by omega);rw [if_neg (by decide), if_pos (by omega)] at h;exact Ev.congr (fun k => by rw [if_neg h1, if_neg h20, if_pos (by omega), if_neg ha, decide_eq_false hb]) h
theorem refnames_l0 (l : List ByteArray) (hl : l.length ≤ 1000000) : ∀ (d i : Nat), i + d = l.length → Ev (fun k => r11_names.l0 k l (i : Int)) (nmGo (l.take i) (l.drop i)) := by
 intro d
 induction d with
 | zero =>
  intro i hi;refine Ev.step (f := fun _ => some true) (fun k => ?_) ?_
  ·simp only [r11_names.l0];rw [if_neg (by omega)]
  rw [List.drop_of_length_le (by omega)]; exact Ev.now _
 | succ d ih =>
  intro i hi;have hlt : i < l.length := by omega
  rw [List.drop_eq_getElem_cons hlt];refine Ev.step (f := fun k => (r11_Name.f k l[i]).bind fun t => if t = true then ((r11_in.f k (l.take i) l[i]).bind fun t2 => if t2 = true then some false else r11_names.l0 k l ((i + 1 : Nat) : Int)) else some false) (fun k => ?_) ?_
  ·simp only [r11_names.l0];rw [if_pos (by omega), if_pos (by omega), rd_at l i hlt, wrap_next (by omega), if_pos (show (i : Int) ≤ (l.length : Int) by omega)];rfl
  unfold nmGo;refine Ev.way (refName_ev l[i]) (fun hn => ?_) (fun hn => ?_)
  ·refine Ev.way (refin_ev (l.take i) l[i] (by rw [List.length_take]; omega)) (fun hm => ?_) (fun hm => ?_)
   ·rw [hn, hm]; exact Ev.now _
   rw [hn, hm, take_next l i hlt]; exact ih (i + 1) (by omega)
  rw [hn]; exact Ev.now _
theorem refnames_ev (l : List ByteArray) (hl : l.length ≤ 1000000) : Ev (fun k => r11_names.f k l) (namesS l) := by
  have h := refnames_l0 l hl l.length 0 (by omega)
  rw [List.take_zero, List.drop_zero] at h
  exact h
def hardN : List (List UInt8) := [[109, 97, 116, 104], [110, 111, 115, 99, 114, 105, 112, 116], [112, 108, 97, 105, 110, 116, 101, 120, 116], [115, 118, 103], [116, 101, 109, 112, 108, 97, 116, 101]]
def neverS (s : ByteArray) : Bool := hardN.contains s.data.toList || (inK 2 s || (inK 3 s || inK 12 s))
theorem never_j0 (s : ByteArray) (b : Bool) : Ev (fun k => p_never.j0 k s b) (b || (inK 2 s || (inK 3 s || inK 12 s))) := by
 refine Ev.step (f := fun k => if b = true then some true else ((kind_Is.f k 2 s).bind fun t => if t = true then some true else ((kind_Is.f k 3 s).bind fun t => if t = true then some true else ((kind_Is.f k 12 s).bind fun t => some t)))) (fun k => by simp only [p_never.j0]) ?_
 cases b with
 | true => exact Ev.congr (fun k => if_pos rfl) (Ev.now _)
 | false =>
  refine Ev.congr (fun k => if_neg (by decide)) ?_;rw [Bool.false_or];exact Ev.or (is_ev 2 s) (Ev.or (is_ev 3 s) (Ev.pass (is_ev 12 s)))
theorem never_ev (s : ByteArray) : Ev (fun k => p_never.f k s) (neverS s) := by
 have hc : ∀ L : List UInt8, (s.data.toList == L) = (s.toList == L) := fun L => by rw [bytes_data]
 have e : neverS s = (s.toList == [109, 97, 116, 104] || (s.toList == [110, 111, 115, 99, 114, 105, 112, 116] || (s.toList == [112, 108, 97, 105, 110, 116, 101, 120, 116] || (s.toList == [115, 118, 103] || (s.toList == [116, 101, 109, 112, 108, 97, 116, 101]))))
   || (inK 2 s || (inK 3 s || inK 12 s))) := by
  unfold neverS hardN;simp only [List.contains_cons, List.contains_nil, Bool.or_false, hc]
 rw [e];unfold p_never.f
 by_cases h1 : s.toList = ([109, 97, 116, 104] : List UInt8)
 ·rw [h1];exact Ev.congr (fun k => if_pos rfl) (never_j0 s true)
 rw [beq_eq_false_iff_ne.mpr h1, Bool.false_or];refine Ev.congr (fun k => if_neg h1) ?_
 by_cases h2 : s.toList = ([110, 111, 115, 99, 114, 105, 112, 116] : List UInt8)
 ·rw [h2];exact Ev.congr (fun k => if_pos rfl) (never_j0 s true)
 rw [beq_eq_false_iff_ne.mpr h2, Bool.false_or];refine Ev.congr (fun k => if_neg h2) ?_
 by_cases h3 : s.toList = ([112, 108, 97, 105, 110, 116, 101, 120, 116] : List UInt8)
 ·rw [h3];exact Ev.congr (fun k => if_pos rfl) (never_j0 s true)
 rw [beq_eq_false_iff_ne.mpr h3, Bool.false_or];refine Ev.congr (fun k => if_neg h3) ?_
 by_cases h4 : s.toList = ([115, 118, 103] : List UInt8)
 ·rw [h4];exact Ev.congr (fun k => if_pos rfl) (never_j0 s true)
 rw [beq_eq_false_iff_ne.mpr h4, Bool.false_or];exact Ev.congr (fun k => if_neg h4) (never_j0 s _)
def restB (dr : List ByteArray) (x : S38) : Bool := !neverS x.f0 && (!memB dr x.f0 && (namesS x.f1 && !x.f1.any actsB))
def chkGo (dr : List ByteArray) : List ByteArray → List S38 → Bool
  | all, [] => namesS all
  | all, x :: r => restB dr x && chkGo dr (all ++ [x.f0]) r
theorem rdT_at (l : List S38) (i : Nat) (h : i < l.length) : rd_T38 l (i : Int) = l[i] := by
  simp [rd_T38, List.getD_eq_getElem?_getD, h]
def okE (b : Bool) : Int := if b = true then 0 else 1
theorem check_l0 (l : List S38) (l1 l2 l3 : List ByteArray) (d0 : Int) (hl : l.length ≤ 1000) (h3 : l3.length ≤ 1000) (ha : ∀ x ∈ l, x.f1.length ≤ 1000) : ∀ (d i : Nat) (all : List ByteArray), i + d = l.length → all.length = i →
  Ev (fun k => p_Check.l0 k all l (l.length : Int) (i : Int) l l1 l2 l3 d0) (okE (chkGo l3 all (l.drop i))) := by
 intro d
 induction d with
 | zero =>
  intro i all hi hall;refine Ev.step (f := fun k => (p_areNames.f k all).bind fun t => if t = true then some 0 else some 1) (fun k => ?_) ?_
  ·simp only [p_Check.l0];rw [if_neg (by omega)]
  rw [List.drop_of_length_le (by omega)];show Ev _ (okE (namesS all));refine Ev.way (areNames_ev all (by omega)) (fun h => ?_) (fun h => ?_)
  ·rw [h]; exact Ev.now _
  rw [h]; exact Ev.now _
 | succ d ih =>
  intro i all hi hall;have hlt : i < l.length := by omega
  rw [List.drop_eq_getElem_cons hlt];have hf1 : l[i].f1.length ≤ 1000 := ha _ (List.getElem_mem hlt);refine Ev.step (f := fun k => (p_never.f k l[i].f0).bind fun t => if t = true then some 1 else ((slC_.f k l3 l[i].f0).bind fun t => if t = true then some 1 else ((p_areNames.f k l[i].f1).bind fun t => if t = true then ((cf_acts.f l[i].f1).bind fun t => if t = true then some 1 else p_Check.l0 k (all ++ [l[i].f0]) l (l.length : Int) ((i + 1 : Nat) : Int) l l1 l2 l3 d0) else some 1))) (fun k => ?_) ?_
  ·simp only [p_Check.l0];rw [if_pos (by omega), if_pos (by omega), if_pos (by omega), rdT_at l i hlt, wrap_next (by omega), if_pos (show all.length < 8796093022208 by omega)]
  unfold chkGo restB;refine Ev.way (never_ev l[i].f0) (fun h => ?_) (fun h => ?_)
  ·rw [h]; exact Ev.now _
  rw [h];refine Ev.way (contains_ev l3 l[i].f0 (by omega)) (fun h => ?_) (fun h => ?_)
  ·rw [show memB l3 l[i].f0 = true from h]; exact Ev.now _
  rw [show memB l3 l[i].f0 = false from h];refine Ev.way (areNames_ev l[i].f1 (by omega)) (fun h => ?_) (fun h => ?_)
  ·rw [h];refine Ev.way (g := fun _ => cf_acts.f l[i].f1) (b := l[i].f1.any actsB) ⟨0, fun _ _ => by unfold cf_acts.f; rw [if_pos hf1]⟩ (fun h => ?_) (fun h => ?_)
   ·rw [h]; exact Ev.now _
   rw [h]; exact ih (i + 1) (all ++ [l[i].f0]) (by omega) (by simp; omega)
  rw [h]; exact Ev.now _
def headB (l1 l2 l3 : List ByteArray) (d : Int) : Bool := decide (1 ≤ d ∧ d ≤ 60) && (namesS l1 && (namesS l2 && (namesS l3 && !l2.any runsB)))
def checkS (l0 : List S38) (l1 l2 l3 : List ByteArray) (d : Int) : Int := if largeB l0 l1 l2 l3 = true then 4 else okE (headB l1 l2 l3 d && chkGo l3 [] l0)
structure SmallP (l0 : List S38) (l1 l2 l3 : List ByteArray) : Prop where
  b0 : l0.length ≤ 1000
  b1 : l1.length ≤ 1000
  b2 : l2.length ≤ 1000
  b3 : l3.length ≤ 1000
  ba : ∀ x ∈ l0, x.f1.length ≤ 1000
theorem check_ev (l0 : List S38) (l1 l2 l3 : List ByteArray) (d : Int) (hs : SmallP l0 l1 l2 l3) : Ev (fun k => p_Check.f k l0 l1 l2 l3 d) (checkS l0 l1 l2 l3 d) := by
 obtain ⟨h0, h1, h2, h3, ha⟩ := hs;have hj1 : Ev (fun k => p_Check.j0 k true l0 l1 l2 l3 d) 1 := Ev.step (f := fun _ => some 1) (fun k => by simp only [p_Check.j0]; rfl) (Ev.now _)
 have hj0 : Ev (fun k => p_Check.j0 k false l0 l1 l2 l3 d) (okE (chkGo l3 [] l0)) := by
  refine Ev.step (f := fun k => p_Check.l0 k [] l0 (l0.length : Int) 0 l0 l1 l2 l3 d) (fun k => by simp only [p_Check.j0]; rfl) ?_;have h := check_l0 l0 l1 l2 l3 d h0 h3 ha l0.length 0 [] (by omega) rfl;rw [List.drop_zero] at h;exact h
 unfold p_Check.f checkS;refine Ev.way (g := fun _ => p_large.f l0 l1 l2 l3 d) (b := largeB l0 l1 l2 l3) ⟨0, fun _ _ => rfl⟩ (fun h => ?_) (fun h => ?_)
 ·rw [if_pos h]; exact Ev.now _
 rw [if_neg (by rw [h]; decide)];unfold headB
 by_cases hd1 : d < 1
 ·rw [decide_eq_false (show ¬ (1 ≤ d ∧ d ≤ 60) by omega)];exact Ev.congr (fun k => if_pos hd1) hj1
 by_cases hd2 : d > 60
 ·rw [decide_eq_false (show ¬ (1 ≤ d ∧ d ≤ 60) by omega)];exact Ev.congr (fun k => by rw [if_neg hd1, if_pos hd2]) hj1
 rw [decide_eq_true (show 1 ≤ d ∧ d ≤ 60 by omega)];refine Ev.congr (fun k => by rw [if_neg hd1, if_neg hd2]) ?_;refine Ev.way (areNames_ev l1 (by omega)) (fun h => ?_) (fun h => ?_)
 ·rw [h];refine Ev.way (areNames_ev l2 (by omega)) (fun h => ?_) (fun h => ?_)
  ·rw [h];refine Ev.way (areNames_ev l3 (by omega)) (fun h => ?_) (fun h => ?_)
   ·rw [h];refine Ev.bind (g := fun _ => cf_runs.f l2) (f := fun k t => p_Check.j0 k t l0 l1 l2 l3 d) (a := l2.any runsB) ⟨0, fun _ _ => by unfold cf_runs.f; rw [if_pos h2]⟩ ?_
    cases h : l2.any runsB with
    | true => exact hj1
    | false => exact hj0
   rw [h]; exact hj1
  rw [h]; exact hj1
 rw [h]; exact hj1
end Go.Proofs.YtnbghhddmlohoaaGreatDoor.Pure

end

section
namespace Go.Proofs.YtnbghhddmlohoaaGreatDoor.Pure
open Go.RowKit Go.Proofs.YtnbghhddmlohoaaGreatDoor.PAll Go.Proofs.YtnbghhddmlohoaaGreatDoorW.PrintWords Go.Proofs.YtnbghhddmlohoaaGreatDoorW.PrintLast
set_option linter.unusedSimpArgs false
set_option linter.unusedVariables false

def ruleS (x : S38) : Bool := nameB x.f0 && (namesS x.f1 && (!(inK 2 x.f0 || (inK 3 x.f0 || inK 12 x.f0)) && (!x.f1.any actsB && !hardN.contains x.f0.data.toList)))
theorem hard_is : splitB (⟨#[109, 97, 116, 104, 32, 110, 111, 115, 99, 114, 105, 112, 116, 32, 112, 108, 97, 105, 110, 116, 101, 120, 116, 32, 115, 118, 103, 32, 116, 101, 109, 112, 108, 97, 116, 101]⟩ : ByteArray) = hardN := by decide +kernel
theorem rule_l0 (a : ByteArray) (l : List ByteArray) (hl : l.length ≤ 1000) : ∀ (d i : Nat), i + d = l.length → Ev (fun k => r11_rule.l0 k (i : Int) a l) (!(l.drop i).any actsB && !hardN.contains a.data.toList) := by
 intro d
 induction d with
 | zero =>
  intro i hi;refine Ev.step (f := fun k => (r02_In.f k (⟨#[109, 97, 116, 104, 32, 110, 111, 115, 99, 114, 105, 112, 116, 32, 112, 108, 97, 105, 110, 116, 101, 120, 116, 32, 115, 118, 103, 32, 116, 101, 109, 112, 108, 97, 116, 101]⟩ : ByteArray) a).bind fun t => some (!t)) (fun k => ?_) ?_
  ·simp only [r11_rule.l0];rw [if_neg (by omega)]
  rw [List.drop_of_length_le (by omega)];have h := in_ev (⟨#[109, 97, 116, 104, 32, 110, 111, 115, 99, 114, 105, 112, 116, 32, 112, 108, 97, 105, 110, 116, 101, 120, 116, 32, 115, 118, 103, 32, 116, 101, 109, 112, 108, 97, 116, 101]⟩ : ByteArray) a (by decide);rw [hard_is] at h;exact Ev.bind (f := fun _ t => some (!t)) h (Ev.now _)
 | succ d ih =>
  intro i hi;have hlt : i < l.length := by omega
  have ih' := ih (i + 1) (by omega);rw [List.drop_eq_getElem_cons hlt, List.any_cons];obtain ⟨y, hy⟩ : ∃ y, y = l[i] := ⟨_, rfl⟩;rw [← hy];have hrd : rdOf ByteArray.empty l (i : Int) = y := by rw [hy]; exact rd_at l i hlt
  have hex : (y.extract 0 2).toList = y.toList.take 2 := by rw [bytes_data, bytes_data, ext_take]; rfl
  have hlen : y.toList.length = y.size := size_toList y;have hfalse : actsB y = true → Ev (fun _ => (some false : Option Bool)) (!(actsB y || (l.drop (i + 1)).any actsB) && !hardN.contains a.data.toList) := fun h => by rw [h]; exact Ev.now _
  have hnext : actsB y = false → Ev (fun k => r11_rule.l0 k ((i + 1 : Nat) : Int) a l) (!(actsB y || (l.drop (i + 1)).any actsB) && !hardN.contains a.data.toList) := fun h => by rw [h, Bool.false_or]; exact ih'
  have hunf : ∀ k, r11_rule.l0 (k + 1) (i : Int) a l = if y.toList = ([115, 116, 121, 108, 101] : List UInt8) then some false else if y.toList = ([115, 114, 99, 100, 111, 99] : List UInt8) then some false else if (y.size : Int) ≥ 2 then (if (y.extract 0 2).toList = ([111, 110] : List UInt8) then some false else r11_rule.l0 k ((i + 1 : Nat) : Int) a l) else r11_rule.l0 k ((i + 1 : Nat) : Int) a l := fun k => by
   simp only [r11_rule.l0];rw [if_pos (by omega), if_pos (by omega), hrd, wrap_next (by omega)]
   by_cases h2 : (y.size : Int) ≥ 2
   ·simp only [if_pos h2, show ((0 : Int) ≤ 2) = True from eq_true (by decide), show ((0 : Nat) ≤ 2) = True from eq_true (by decide), if_true, if_pos (show (2 : Int) ≤ (y.size : Int) from h2)]
   simp only [if_neg h2]
  by_cases h1 : y.toList = ([115, 116, 121, 108, 101] : List UInt8)
  ·exact Ev.step (f := fun _ => some false) (fun k => by rw [hunf, if_pos h1]) (hfalse (by unfold actsB; rw [h1]; decide))
  by_cases h2 : y.toList = ([115, 114, 99, 100, 111, 99] : List UInt8)
  ·exact Ev.step (f := fun _ => some false) (fun k => by rw [hunf, if_neg h1, if_pos h2]) (hfalse (by unfold actsB; rw [h2]; decide))
  by_cases h3 : (y.size : Int) ≥ 2
  ·by_cases h4 : y.toList.take 2 = ([111, 110] : List UInt8)
   ·exact Ev.step (f := fun _ => some false) (fun k => by rw [hunf, if_neg h1, if_neg h2, if_pos h3, hex, if_pos h4]) (hfalse (by unfold actsB; rw [h4]; rfl))
   exact Ev.step (f := fun k => r11_rule.l0 k ((i + 1 : Nat) : Int) a l) (fun k => by rw [hunf, if_neg h1, if_neg h2, if_pos h3, hex, if_neg h4]) (hnext (by unfold actsB; rw [beq_eq_false_iff_ne.mpr h1, beq_eq_false_iff_ne.mpr h2, beq_eq_false_iff_ne.mpr h4]; rfl))
  have h4 : y.toList.take 2 ≠ ([111, 110] : List UInt8) := fun he => by
   have := congrArg List.length he;rw [List.length_take, hlen] at this
   simp at this
   omega
  exact Ev.step (f := fun k => r11_rule.l0 k ((i + 1 : Nat) : Int) a l) (fun k => by rw [hunf, if_neg h1, if_neg h2, if_neg h3]) (hnext (by unfold actsB; rw [beq_eq_false_iff_ne.mpr h1, beq_eq_false_iff_ne.mpr h2, beq_eq_false_iff_ne.mpr h4]; rfl))
theorem rule_ev (x : S38) (hl : x.f1.length ≤ 1000) : Ev (fun k => r11_rule.f k x.f0 x.f1) (ruleS x) := by
 have hjt : Ev (fun k => r11_rule.j0 k true x.f0 x.f1) false := Ev.step (f := fun _ => some false) (fun k => by simp only [r11_rule.j0]; rfl) (Ev.now _)
 have hjf : Ev (fun k => r11_rule.j0 k false x.f0 x.f1) (!x.f1.any actsB && !hardN.contains x.f0.data.toList) := by
  refine Ev.step (f := fun k => r11_rule.l0 k 0 x.f0 x.f1) (fun k => by simp only [r11_rule.j0]; rfl) ?_;have h := rule_l0 x.f0 x.f1 hl x.f1.length 0 (by omega);rw [List.drop_zero] at h;exact h
 unfold r11_rule.f ruleS;refine Ev.way (refName_ev x.f0) (fun h => ?_) (fun h => ?_)
 ·rw [h];refine Ev.way (refnames_ev x.f1 (by omega)) (fun h => ?_) (fun h => ?_)
  ·rw [h];refine Ev.way (refIs_ev 2 x.f0) (fun h => ?_) (fun h => ?_)
   ·rw [h]; exact hjt
   rw [h];refine Ev.way (refIs_ev 3 x.f0) (fun h => ?_) (fun h => ?_)
   ·rw [h]; exact hjt
   rw [h];refine Ev.bind (f := fun k t => r11_rule.j0 k t x.f0 x.f1) (refIs_ev 12 x.f0) ?_
   cases inK 12 x.f0 with
   | true => exact hjt
   | false => exact hjf
  rw [h]; exact hjt
 rw [h]; exact hjt
def farB (pre : List S38) (x : S38) : Bool := pre.all fun y => y.f0.toList != x.f0.toList
def refGo (dr : List ByteArray) : List S38 → List S38 → Bool
  | _, [] => true
  | pre, x :: r => (farB pre x && (ruleS x && !memB dr x.f0)) && refGo dr (pre ++ [x]) r
def runM (l2 : List ByteArray) : Bool := memB l2 ⟨#[100, 97, 116, 97]⟩ || (memB l2 ⟨#[106, 97, 118, 97, 115, 99, 114, 105, 112, 116]⟩ || memB l2 ⟨#[118, 98, 115, 99, 114, 105, 112, 116]⟩)
def finS (l2 : List ByteArray) (b : Bool) : Int := okE (b && !runM l2)
section
variable (l : List S38) (l1 l2 l3 : List ByteArray) (d0 : Int) (hs : SmallP l l1 l2 l3)
include hs
theorem ref_l2 (i : Nat) (hlt : i < l.length) (H1 : ∀ b, Ev (fun k => r11_Check.l1 k b ((i + 1 : Nat) : Int) l l1 l2 l3 d0) (finS l2 (b && refGo l3 (l.take (i + 1)) (l.drop (i + 1))))) :
  ∀ (e j : Nat) (ok : Bool), j + e = i → Ev (fun k => r11_Check.l2 k ok (i : Int) (j : Int) l l1 l2 l3 d0) (finS l2 ((ok && (farB ((l.take i).drop j) l[i] && (ruleS l[i] && !memB l3 l[i].f0))) && refGo l3 (l.take (i + 1)) (l.drop (i + 1)))) := by
 obtain ⟨h0, h1, h2, h3, ha⟩ := hs;intro e
 induction e with
 | zero =>
  intro j ok hj;have hjl : (l.take i).drop j = [] := List.drop_of_length_le (by rw [List.length_take]; omega);rw [hjl];refine Ev.step (f := fun k => if ok = true then ((r11_rule.f k l[i].f0 l[i].f1).bind fun t => if t = true then ((r11_in.f k l3 l[i].f0).bind fun t2 => r11_Check.l1 k (!t2) ((i + 1 : Nat) : Int) l l1 l2 l3 d0) else r11_Check.l1 k false ((i + 1 : Nat) : Int) l l1 l2 l3 d0) else r11_Check.l1 k false ((i + 1 : Nat) : Int) l l1 l2 l3 d0) (fun k => ?_) ?_
  ·simp only [r11_Check.l2];rw [if_neg (show ¬ ((j : Int) < (i : Int)) by omega), if_pos (show (0 : Int) ≤ (i : Int) by omega), if_pos (show (i : Int) < (l.length : Int) by omega), rdT_at l i hlt, wrap_next (by omega)]
  cases ok with
  | false => exact Ev.congr (fun k => if_neg (by decide)) (H1 false)
  | true =>
   refine Ev.congr (fun k => if_pos rfl) ?_;refine Ev.way (rule_ev l[i] (ha _ (List.getElem_mem hlt))) (fun h => ?_) (fun h => ?_)
   ·rw [h];refine Ev.bind (f := fun k t2 => r11_Check.l1 k (!t2) ((i + 1 : Nat) : Int) l l1 l2 l3 d0) (refin_ev l3 l[i].f0 (by omega)) ?_;exact H1 _
   rw [h]; exact H1 false
 | succ e ih =>
  intro j ok hj;have hjl : j < l.length := by omega
  have hd : (l.take i).drop j = l[j] :: (l.take i).drop (j + 1) := by
   rw [List.drop_eq_getElem_cons (by rw [List.length_take]; omega)]
   simp
  rw [hd];unfold farB;rw [List.all_cons];refine Ev.step (f := fun k => if ok = true then r11_Check.l2 k (l[j].f0.toList != l[i].f0.toList) (i : Int) ((j + 1 : Nat) : Int) l l1 l2 l3 d0 else r11_Check.l2 k false (i : Int) ((j + 1 : Nat) : Int) l l1 l2 l3 d0) (fun k => ?_) ?_
  ·simp only [r11_Check.l2];rw [if_pos (show (j : Int) < (i : Int) by omega), if_pos (show (0 : Int) ≤ (j : Int) by omega), if_pos (show (j : Int) < (l.length : Int) by omega), if_pos (show (0 : Int) ≤ (i : Int) by omega), if_pos (show (i : Int) < (l.length : Int) by omega), rdT_at l i hlt, rdT_at l j hjl, wrap_next (by omega)]
  cases ok with
  | false => exact Ev.congr (fun k => if_neg (by decide)) (ih (j + 1) false (by omega))
  | true =>
   have h := ih (j + 1) (l[j].f0.toList != l[i].f0.toList) (by omega);unfold farB at h;refine Ev.congr (fun k => if_pos rfl) ?_;rw [Bool.true_and, Bool.and_assoc (l[j].f0.toList != l[i].f0.toList)];exact h
theorem ref_l1 : ∀ (e i : Nat) (ok : Bool), i + e = l.length → Ev (fun k => r11_Check.l1 k ok (i : Int) l l1 l2 l3 d0) (finS l2 (ok && refGo l3 (l.take i) (l.drop i))) := by
 intro e
 induction e with
 | zero =>
  intro i ok hi;rw [List.drop_of_length_le (by omega)];refine Ev.step (f := fun k => if ok = true then ((r11_in.f k l2 (⟨#[100, 97, 116, 97]⟩ : ByteArray)).bind fun t => if t = true then some 1 else ((r11_in.f k l2 (⟨#[106, 97, 118, 97, 115, 99, 114, 105, 112, 116]⟩ : ByteArray)).bind fun t => if t = true then some 1 else ((r11_in.f k l2 (⟨#[118, 98, 115, 99, 114, 105, 112, 116]⟩ : ByteArray)).bind fun t => if t = true then some 1 else some 0))) else some 1) (fun k => ?_) ?_
  ·simp only [r11_Check.l1];rw [if_neg (by omega)]
  unfold finS runM refGo
  cases ok with
  | false => exact Ev.congr (fun k => if_neg (by decide)) (Ev.now _)
  | true =>
   refine Ev.congr (fun k => if_pos rfl) ?_;have hb2 := hs.b2;refine Ev.way (refin_ev l2 _ (by omega)) (fun h => ?_) (fun h => ?_)
   ·rw [h]; exact Ev.now _
   rw [h];refine Ev.way (refin_ev l2 _ (by omega)) (fun h => ?_) (fun h => ?_)
   ·rw [h]; exact Ev.now _
   rw [h];refine Ev.way (refin_ev l2 _ (by omega)) (fun h => ?_) (fun h => ?_)
   ·rw [h]; exact Ev.now _
   rw [h]; exact Ev.now _
 | succ e ih =>
  intro i ok hi;have hlt : i < l.length := by omega
  have hb0 := hs.b0;rw [List.drop_eq_getElem_cons hlt];refine Ev.step (f := fun k => r11_Check.l2 k ok (i : Int) 0 l l1 l2 l3 d0) (fun k => ?_) ?_
  ·simp only [r11_Check.l1];rw [if_pos (by omega)]
  have h := ref_l2 l l1 l2 l3 d0 hs i hlt (fun b => ih (i + 1) b (by omega)) i 0 ok (by omega);rw [List.drop_zero] at h;unfold refGo;have ht : l.take i ++ [l[i]] = l.take (i + 1) := by rw [List.take_add_one, List.getElem?_eq_getElem hlt]; rfl
  rw [ht, ← Bool.and_assoc ok];exact h
end
end Go.Proofs.YtnbghhddmlohoaaGreatDoor.Pure

end

section
namespace Go.Proofs.YtnbghhddmlohoaaGreatDoor.Pure
open Go.RowKit Go.Proofs.YtnbghhddmlohoaaGreatDoor.PAll Go.Proofs.YtnbghhddmlohoaaGreatDoorW.PrintWords Go.Proofs.YtnbghhddmlohoaaGreatDoorW.PrintLast
set_option linter.unusedSimpArgs false
set_option linter.unusedVariables false

def headR (l1 l2 l3 : List ByteArray) (d : Int) : Bool := decide (1 ≤ d ∧ d ≤ 60) && (namesS l1 && (namesS l2 && namesS l3))
section
variable (l : List S38) (l1 l2 l3 : List ByteArray) (d0 : Int) (hs : SmallP l l1 l2 l3)
include hs
theorem ref_j3 (ok : Bool) : Ev (fun k => r11_Check.j3 k ok l l1 l2 l3 d0) (finS l2 (ok && refGo l3 [] l)) := by
  refine Ev.step (f := fun k => r11_Check.l1 k ok 0 l l1 l2 l3 d0) (fun k => by simp only [r11_Check.j3]) ?_
  have h := ref_l1 l l1 l2 l3 d0 hs l.length 0 ok (by omega)
  rw [List.take_zero, List.drop_zero] at h
  exact h
def refX (b : Bool) : Int := if b = true then 4 else finS l2 (headR l1 l2 l3 d0 && refGo l3 [] l)
theorem ref_j2 (b : Bool) : Ev (fun k => r11_Check.j2 k b l l1 l2 l3 d0) (refX l l1 l2 l3 d0 b) := by
 have hj := ref_j3 l l1 l2 l3 d0 hs;obtain ⟨h0, h1, h2, h3, ha⟩ := hs;refine Ev.step (f := fun k => if b = true then some 4 else (if d0 ≥ 1 then (if d0 ≤ 60 then ((r11_names.f k l1).bind fun t => if t = true then ((r11_names.f k l2).bind fun t => if t = true then ((r11_names.f k l3).bind fun t => r11_Check.j3 k t l l1 l2 l3 d0) else r11_Check.j3 k false l l1 l2 l3 d0) else r11_Check.j3 k false l l1 l2 l3 d0) else r11_Check.j3 k false l l1 l2 l3 d0) else r11_Check.j3 k false l l1 l2 l3 d0)) (fun k => by simp only [r11_Check.j2]) ?_;unfold refX headR
 cases b with
 | true => exact Ev.congr (fun k => if_pos rfl) (Ev.now _)
 | false =>
  refine Ev.congr (fun k => if_neg (by decide)) ?_;rw [if_neg (by decide)]
  by_cases hd1 : d0 ≥ 1
  ·by_cases hd2 : d0 ≤ 60
   ·rw [decide_eq_true (show 1 ≤ d0 ∧ d0 ≤ 60 from ⟨hd1, hd2⟩)];refine Ev.congr (fun k => by rw [if_pos hd1, if_pos hd2]) ?_;refine Ev.way (refnames_ev l1 (by omega)) (fun h => ?_) (fun h => ?_)
    ·rw [h];refine Ev.way (refnames_ev l2 (by omega)) (fun h => ?_) (fun h => ?_)
     ·rw [h];refine Ev.bind (f := fun k t => r11_Check.j3 k t l l1 l2 l3 d0) (refnames_ev l3 (by omega)) ?_;exact hj _
     rw [h]; exact hj false
    rw [h]; exact hj false
   rw [decide_eq_false (show ¬ (1 ≤ d0 ∧ d0 ≤ 60) from fun h => hd2 h.2)];exact Ev.congr (fun k => by rw [if_pos hd1, if_neg hd2]) (hj false)
  rw [decide_eq_false (show ¬ (1 ≤ d0 ∧ d0 ≤ 60) from fun h => hd1 h.1)];exact Ev.congr (fun k => by rw [if_neg hd1]) (hj false)
theorem ref_l0 : ∀ (e i : Nat) (b : Bool), i + e = l.length → Ev (fun k => r11_Check.l0 k b (i : Int) l l1 l2 l3 d0) (refX l l1 l2 l3 d0 (b || (l.drop i).any bigR)) := by
 have hj := ref_j2 l l1 l2 l3 d0 hs;have hb0 := hs.b0;intro e
 induction e with
 | zero =>
  intro i b hi;rw [List.drop_of_length_le (by omega)];refine Ev.step (f := fun k => r11_Check.j2 k b l l1 l2 l3 d0) (fun k => ?_) ?_
  ·simp only [r11_Check.l0];rw [if_neg (show ¬ ((i : Int) < (l.length : Int)) by omega)]
  have h := hj b;rw [show (b || ([] : List S38).any bigR) = b by simp];exact h
 | succ e ih =>
  intro i b hi;have hlt : i < l.length := by omega
  rw [List.drop_eq_getElem_cons hlt, List.any_cons];refine Ev.step (f := fun k => if b = true then r11_Check.j2 k b l l1 l2 l3 d0 else r11_Check.l0 k (bigR l[i]) ((i + 1 : Nat) : Int) l l1 l2 l3 d0) (fun k => ?_) ?_
  ·simp only [r11_Check.l0];rw [if_pos (show (i : Int) < (l.length : Int) by omega), if_pos (show (0 : Int) ≤ (i : Int) by omega), rdT_at l i hlt, wrap_next (by omega)];rfl
  cases b with
  | true => exact Ev.congr (fun k => if_pos rfl) (hj true)
  | false =>
   rw [Bool.false_or];exact Ev.congr (fun k => if_neg (by decide)) (ih (i + 1) (bigR l[i]) (by omega))
theorem refcheck_raw : Ev (fun k => r11_Check.f k l l1 l2 l3 d0) (refX l l1 l2 l3 d0 (largeB l l1 l2 l3)) := by
 have hj : ∀ b, Ev (fun k => r11_Check.j0 k b l l1 l2 l3 d0) (refX l l1 l2 l3 d0 (b || l.any bigR)) := fun b => by
  refine Ev.step (f := fun k => r11_Check.l0 k b 0 l l1 l2 l3 d0) (fun k => by simp only [r11_Check.j0]) ?_;have h := ref_l0 l l1 l2 l3 d0 hs l.length 0 b (by omega);rw [List.drop_zero] at h;exact h
 unfold r11_Check.f largeB
 by_cases a0 : (l.length : Int) > 40
 ·rw [decide_eq_true (show 40 < (l.length : Int) from a0)];exact Ev.congr (fun k => if_pos a0) (hj true)
 rw [decide_eq_false (show ¬ 40 < (l.length : Int) from a0)];refine Ev.congr (fun k => if_neg a0) ?_
 by_cases a1 : (l1.length : Int) > 20
 ·rw [decide_eq_true (show 20 < (l1.length : Int) from a1)];exact Ev.congr (fun k => if_pos a1) (hj true)
 rw [decide_eq_false (show ¬ 20 < (l1.length : Int) from a1)];refine Ev.congr (fun k => if_neg a1) ?_
 by_cases a2 : (l2.length : Int) > 20
 ·rw [decide_eq_true (show 20 < (l2.length : Int) from a2)];exact Ev.congr (fun k => if_pos a2) (hj true)
 rw [decide_eq_false (show ¬ 20 < (l2.length : Int) from a2)];exact Ev.congr (fun k => if_neg a2) (hj _)
end
theorem chk_eq (dr : List ByteArray) : ∀ (r : List S38) (all : List ByteArray), chkGo dr all r = (r.all (restB dr) && namesS (all ++ r.map S38.f0))
  | [], all => by simp [chkGo]
  | x :: r, all => by
    unfold chkGo
    rw [chk_eq dr r (all ++ [x.f0]), List.all_cons, List.map_cons, List.append_assoc, List.singleton_append, Bool.and_assoc]
theorem far_eq (pre : List S38) (x : S38) : farB pre x = !memB (pre.map S38.f0) x.f0 := by
  unfold farB memB
  induction pre with
  | nil => rfl
  | cons y pre ih =>
    rw [List.all_cons, List.map_cons, List.any_cons, ih, Bool.not_or]
    congr 1
    show (!(y.f0.toList == x.f0.toList)) = _
    rw [bytes_data, bytes_data]
theorem ref_eq (dr : List ByteArray) : ∀ (r : List S38) (pre : List S38), refGo dr pre r = (r.all (restB dr) && nmGo (pre.map S38.f0) (r.map S38.f0))
 | [], pre => by simp [refGo, nmGo]
 | x :: r, pre => by
  unfold refGo
  rw [ref_eq dr r (pre ++ [x]), List.all_cons, List.map_cons, far_eq, List.map_append]
  show _ = (restB dr x && r.all (restB dr) && (nameB x.f0 && (!memB (pre.map S38.f0) x.f0 && nmGo (pre.map S38.f0 ++ [x.f0]) (r.map S38.f0))))
  show (!memB (pre.map S38.f0) x.f0 && (ruleS x && !memB dr x.f0) && (r.all (restB dr) && nmGo (pre.map S38.f0 ++ [x.f0]) (r.map S38.f0))) = _
  unfold ruleS restB neverS
  generalize memB (pre.map S38.f0) x.f0 = a1
  generalize nameB x.f0 = a2
  generalize namesS x.f1 = a3
  generalize (inK 2 x.f0 || (inK 3 x.f0 || inK 12 x.f0)) = a4
  generalize x.f1.any actsB = a5
  generalize hardN.contains x.f0.data.toList = a6
  generalize memB dr x.f0 = a7
  generalize r.all _ = a8
  generalize nmGo _ _ = a9
  revert a1 a2 a3 a4 a5 a6 a7 a8 a9
  decide +kernel
theorem run_eq (l2 : List ByteArray) : runM l2 = l2.any runsB := by
 unfold runM memB
 induction l2 with
 | nil => rfl
 | cons y l ih =>
  simp only [List.any_cons];rw [← ih];unfold runsB;rw [bytes_data];show (_ == [100, 97, 116, 97] || _ || (_ == [106, 97, 118, 97, 115, 99, 114, 105, 112, 116] || _ || (_ == [118, 98, 115, 99, 114, 105, 112, 116] || _))) = _;generalize (y.data.toList == [100, 97, 116, 97]) = a1;generalize (y.data.toList == [106, 97, 118, 97, 115, 99, 114, 105, 112, 116]) = a2;generalize (y.data.toList == [118, 98, 115, 99, 114, 105, 112, 116]) = a3;generalize l.any _ = a4;generalize l.any _ = a5;generalize l.any _ = a6
  revert a1 a2 a3 a4 a5 a6
  decide +kernel
theorem refX_eq (l : List S38) (l1 l2 l3 : List ByteArray) (d : Int) : refX l l1 l2 l3 d (largeB l l1 l2 l3) = checkS l l1 l2 l3 d := by
 unfold refX checkS finS headR headB;rw [chk_eq, ref_eq, run_eq];show (if _ then 4 else okE ((_ && (_ && (_ && _)) && (_ && nmGo [] _)) && _)) = (if _ then 4 else okE (_ && (_ && nmGo [] _)))
 congr 2
 rw [List.nil_append];generalize decide (1 ≤ d ∧ d ≤ 60) = a1;generalize namesS l1 = a2;generalize namesS l2 = a3;generalize namesS l3 = a4;generalize l2.any runsB = a5;generalize l.all _ = a6;generalize nmGo _ _ = a7
 revert a1 a2 a3 a4 a5 a6 a7
 decide +kernel
theorem refcheck_ev (l : List S38) (l1 l2 l3 : List ByteArray) (d : Int) (hs : SmallP l l1 l2 l3) : Ev (fun k => r11_Check.f k l l1 l2 l3 d) (checkS l l1 l2 l3 d) := by
  rw [← refX_eq]
  exact refcheck_raw l l1 l2 l3 d hs
end Go.Proofs.YtnbghhddmlohoaaGreatDoor.Pure

end

section
namespace Go.Proofs.YtnbghhddmlohoaaGreatDoor.Pure
open Go.RowKit Go.Proofs.YtnbghhddmlohoaaGreatDoor.PAll Go.Proofs.YtnbghhddmlohoaaGreatDoorW.PrintWords Go.Proofs.YtnbghhddmlohoaaGreatDoorW.PrintLast
theorem nodes_nil (l0 : List S38) (l1 l2 l3 : List ByteArray) (d n : Int) : p_nodes.f l0 l1 l2 l3 d [] n = some true := by
  first | rfl | (unfold p_nodes.f; rw [if_pos ⟨2, rfl⟩])
theorem al_zero : l11_alive0.f 100 = some true := by
  unfold l11_alive0.f p_Allowed.f
  simp only [nodes_nil]
  kernel_rfl
theorem alive_ev : Ev (fun k => l11_alive.f k) true := by
  refine Ev.of l11_alive.mono (k := 100) ?_
  unfold l11_alive.f
  rw [if_pos al_zero]
def textsS (l : List ByteArray) : Bool := decide (l.length ≤ 60) && l.all fun s => decide (s.size ≤ 60)
theorem texts_l0 (l : List ByteArray) (hl : l.length ≤ 1000) : ∀ (d i : Nat), i + d = l.length → Ev (fun k => r11_texts.l0 k l (i : Int)) ((l.drop i).all fun s => decide (s.size ≤ 60)) := by
 intro d
 induction d with
 | zero =>
  intro i hi;refine Ev.step (f := fun _ => some true) (fun k => ?_) ?_
  ·simp only [r11_texts.l0];rw [if_neg (show ¬ ((i : Int) < (l.length : Int)) by omega)]
  rw [List.drop_of_length_le (by omega)]; exact Ev.now _
 | succ d ih =>
  intro i hi;have hlt : i < l.length := by omega
  rw [List.drop_eq_getElem_cons hlt, List.all_cons]
  by_cases h : l[i].size ≤ 60
  ·refine Ev.step (f := fun k => r11_texts.l0 k l ((i + 1 : Nat) : Int)) (fun k => ?_) ?_
   ·simp only [r11_texts.l0];rw [if_pos (show (i : Int) < (l.length : Int) by omega), if_pos (show (0 : Int) ≤ (i : Int) by omega), rd_at l i hlt, if_neg (show ¬ ((l[i].size : Int) > 60) by omega), wrap_next (by omega)]
   rw [decide_eq_true h, Bool.true_and]; exact ih (i + 1) (by omega)
  refine Ev.step (f := fun _ => some false) (fun k => ?_) ?_
  ·simp only [r11_texts.l0];rw [if_pos (show (i : Int) < (l.length : Int) by omega), if_pos (show (0 : Int) ≤ (i : Int) by omega), rd_at l i hlt, if_pos (show (l[i].size : Int) > 60 by omega)]
  rw [decide_eq_false h, Bool.false_and]; exact Ev.now _
theorem texts_ev (l : List ByteArray) : Ev (fun k => r11_texts.f k l) (textsS l) := by
 unfold r11_texts.f textsS
 by_cases h : (l.length : Int) > 60
 ·rw [decide_eq_false (show ¬ l.length ≤ 60 by omega), Bool.false_and];exact Ev.congr (fun k => if_pos h) (Ev.now _)
 rw [decide_eq_true (show l.length ≤ 60 by omega), Bool.true_and];have h0 := texts_l0 l (by omega) l.length 0 (by omega);rw [List.drop_zero] at h0;exact Ev.congr (fun k => if_neg h) h0
def smallS (l0 : List S38) (l1 l2 l3 : List ByteArray) : Bool := decide (l0.length ≤ 60) && (textsS l1 && (textsS l2 && (textsS l3 && l0.all fun x => decide (x.f0.size ≤ 60) && textsS x.f1)))
theorem small_l0 (l : List S38) (l1 l2 l3 : List ByteArray) (d0 : Int) (hl : l.length ≤ 1000) : ∀ (d i : Nat), i + d = l.length → Ev (fun k => r11_Small.l0 k (i : Int) l l1 l2 l3 d0) ((l.drop i).all fun x => decide (x.f0.size ≤ 60) && textsS x.f1) := by
 intro d
 induction d with
 | zero =>
  intro i hi;refine Ev.step (f := fun _ => some true) (fun k => ?_) ?_
  ·simp only [r11_Small.l0];rw [if_neg (show ¬ ((i : Int) < (l.length : Int)) by omega)]
  rw [List.drop_of_length_le (by omega)]; exact Ev.now _
 | succ d ih =>
  intro i hi;have hlt : i < l.length := by omega
  rw [List.drop_eq_getElem_cons hlt, List.all_cons]
  by_cases h : l[i].f0.size ≤ 60
  ·refine Ev.step (f := fun k => (r11_texts.f k l[i].f1).bind fun t => if t = true then r11_Small.l0 k ((i + 1 : Nat) : Int) l l1 l2 l3 d0 else some false) (fun k => ?_) ?_
   ·simp only [r11_Small.l0];rw [if_pos (show (i : Int) < (l.length : Int) by omega), if_pos (show (0 : Int) ≤ (i : Int) by omega), rdT_at l i hlt, if_neg (show ¬ ((l[i].f0.size : Int) > 60) by omega), wrap_next (by omega)]
   rw [decide_eq_true h, Bool.true_and];refine Ev.way (texts_ev l[i].f1) (fun h => ?_) (fun h => ?_)
   ·rw [h]; exact ih (i + 1) (by omega)
   rw [h]; exact Ev.now _
  refine Ev.step (f := fun _ => some false) (fun k => ?_) ?_
  ·simp only [r11_Small.l0];rw [if_pos (show (i : Int) < (l.length : Int) by omega), if_pos (show (0 : Int) ≤ (i : Int) by omega), rdT_at l i hlt, if_pos (show (l[i].f0.size : Int) > 60 by omega)]
  rw [decide_eq_false h, Bool.false_and, Bool.false_and]; exact Ev.now _
theorem small_ev (l0 : List S38) (l1 l2 l3 : List ByteArray) (d : Int) : Ev (fun k => r11_Small.f k l0 l1 l2 l3 d) (smallS l0 l1 l2 l3) := by
 have hjt : Ev (fun k => r11_Small.j0 k true l0 l1 l2 l3 d) false := Ev.step (f := fun _ => some false) (fun k => by simp only [r11_Small.j0]; rfl) (Ev.now _);unfold r11_Small.f smallS
 by_cases h : (l0.length : Int) > 60
 ·rw [decide_eq_false (show ¬ l0.length ≤ 60 by omega), Bool.false_and];exact Ev.congr (fun k => if_pos h) hjt
 have hjf : Ev (fun k => r11_Small.j0 k false l0 l1 l2 l3 d) (l0.all fun x => decide (x.f0.size ≤ 60) && textsS x.f1) := by
  refine Ev.step (f := fun k => r11_Small.l0 k 0 l0 l1 l2 l3 d) (fun k => by simp only [r11_Small.j0]; rfl) ?_;have h0 := small_l0 l0 l1 l2 l3 d (by omega) l0.length 0 (by omega);rw [List.drop_zero] at h0;exact h0
 rw [decide_eq_true (show l0.length ≤ 60 by omega), Bool.true_and];refine Ev.congr (fun k => if_neg h) ?_;refine Ev.way (texts_ev l1) (fun h => ?_) (fun h => ?_)
 ·rw [h];refine Ev.way (texts_ev l2) (fun h => ?_) (fun h => ?_)
  ·rw [h];refine Ev.bind (f := fun k t => r11_Small.j0 k (!t) l0 l1 l2 l3 d) (texts_ev l3) ?_
   cases textsS l3 with
   | true => exact hjf
   | false => exact hjt
  rw [h]; exact hjt
 rw [h]; exact hjt
theorem small_is {l0 : List S38} {l1 l2 l3 : List ByteArray} (h : smallS l0 l1 l2 l3 = true) : SmallP l0 l1 l2 l3 := by
  unfold smallS textsS at h
  simp only [Bool.and_eq_true, decide_eq_true_eq, List.all_eq_true] at h
  obtain ⟨h0, ⟨h1, _⟩, ⟨h2, _⟩, ⟨h3, _⟩, ha⟩ := h
  exact ⟨by omega, by omega, by omega, by omega, fun x hx => by have := (ha x hx).2.1; omega⟩
end Go.Proofs.YtnbghhddmlohoaaGreatDoor.Pure

end

section
namespace Go.Proofs.YtnbghhddmlohoaaGreatDoor.Pure
open Go.RowKit Go.Proofs.YtnbghhddmlohoaaGreatDoor.PAll Go.Proofs.YtnbghhddmlohoaaGreatDoorW.PrintWords Go.Proofs.YtnbghhddmlohoaaGreatDoorW.PrintLast
set_option linter.unusedSimpArgs false
set_option linter.unusedVariables false

def tailL (l : List ByteArray) : List UInt8 := Lib.joinTail [32] (l.map (·.data.toList))
theorem tail_cons (a : ByteArray) (l : List ByteArray) : tailL (a :: l) = 32 :: a.data.toList ++ tailL l := by
  unfold tailL Lib.joinTail
  simp
theorem line_tail (x : List UInt8) (l : List ByteArray) : lineL x l = x ++ tailL l ++ [10] := by
  unfold lineL tailL
  rw [Lib.join_cons]
theorem tail_len : ∀ l : List ByteArray, (tailL l).length = wsum l
  | [] => rfl
  | a :: l => by
    rw [tail_cons]
    have := tail_len l
    unfold wsum at this ⊢
    simp only [List.length_cons, List.length_append, List.map_cons, List.sum_cons, this, data_len] <;> omega
theorem line_len (x : List UInt8) (l : List ByteArray) : (lineL x l).length = x.length + wsum l + 1 := by
  rw [line_tail]
  simp only [List.length_append, tail_len, List.length_cons, List.length_nil]
theorem wsum_le : ∀ l : List ByteArray, (∀ s ∈ l, s.size ≤ 60) → wsum l ≤ 61 * l.length
  | [], _ => Nat.le_refl _
  | a :: l, h => by
    have h1 := wsum_le l (fun s hs => h s (List.mem_cons_of_mem _ hs))
    have h2 := h a (List.mem_cons_self ..)
    unfold wsum at h1 ⊢
    rw [List.map_cons, List.sum_cons, List.length_cons]
    omega
theorem mk_size (l : List UInt8) : (⟨l.toArray⟩ : ByteArray).size = l.length := by simp [ByteArray.size]
theorem said_l0 (l : List ByteArray) (hl : l.length ≤ 1000000) : ∀ (d i : Nat) (acc : ByteArray), i + d = l.length → acc.size + wsum (l.drop i) ≤ 1000000000 →
  Ev (fun k => r11_said.l0 k acc l (i : Int)) ⟨(acc.data.toList ++ tailL (l.drop i) ++ [10]).toArray⟩ := by
 intro d
 induction d with
 | zero =>
  intro i acc hi ha;rw [List.drop_of_length_le (by omega)] at ha ⊢;refine Ev.step (f := fun _ => some (acc ++ (⟨#[10]⟩ : ByteArray))) (fun k => ?_) ?_
  ·simp only [r11_said.l0];rw [if_neg (by omega), if_pos (by omega)]
  have e : acc ++ (⟨#[10]⟩ : ByteArray) = ⟨(acc.data.toList ++ tailL [] ++ [10]).toArray⟩ := by
   apply ba_ext
   simp [tailL, Lib.joinTail]
  rw [e];exact Ev.now _
 | succ d ih =>
  intro i acc hi ha;have hlt : i < l.length := by omega
  have hd : l.drop i = l[i] :: l.drop (i + 1) := List.drop_eq_getElem_cons hlt;rw [hd] at ha ⊢;have hw : wsum (l[i] :: l.drop (i + 1)) = l[i].size + 1 + wsum (l.drop (i + 1)) := by unfold wsum; rw [List.map_cons, List.sum_cons]
  rw [hw] at ha;have hrd : rdOf ByteArray.empty l (i : Int) = l[i] := by simp [rdOf, hlt]
  have hs1 : (acc ++ (⟨#[32]⟩ : ByteArray)).size = acc.size + 1 := by simp [ByteArray.size_append]; rfl
  refine Ev.step (f := fun k => r11_said.l0 k ((acc ++ (⟨#[32]⟩ : ByteArray)) ++ l[i]) l ((i + 1 : Nat) : Int)) (fun k => ?_) ?_
  ·simp only [r11_said.l0];rw [if_pos (by omega), if_pos (by omega), if_pos (by omega), hrd, if_pos (by rw [hs1]; omega), wrap_next (by omega)]
  have h := ih (i + 1) ((acc ++ (⟨#[32]⟩ : ByteArray)) ++ l[i]) (by omega) (by rw [ByteArray.size_append, hs1]; omega)
  have e : ((acc ++ (⟨#[32]⟩ : ByteArray)) ++ l[i]).data.toList ++ tailL (l.drop (i + 1)) = acc.data.toList ++ tailL (l[i] :: l.drop (i + 1)) := by
   rw [tail_cons]
   simp
  rw [e] at h;exact h
theorem said_ev (w : ByteArray) (l : List ByteArray) (hl : l.length ≤ 1000000) (h : w.size + wsum l ≤ 1000000000) : Ev (fun k => r11_said.f k w l) ⟨(lineL w.data.toList l).toArray⟩ := by
  have h2 := said_l0 l hl l.length 0 w (by omega) h
  rw [List.drop_zero, ← line_tail] at h2
  exact h2
structure Lines (l0 : List S38) (l1 l2 l3 : List ByteArray) : Prop where
  n0 : l0.length ≤ 60
  n1 : l1.length ≤ 60
  n2 : l2.length ≤ 60
  n3 : l3.length ≤ 60
  w1 : wsum l1 ≤ 3660
  w2 : wsum l2 ≤ 3660
  w3 : wsum l3 ≤ 3660
  ra : ∀ x ∈ l0, x.f0.size ≤ 60 ∧ x.f1.length ≤ 60 ∧ wsum x.f1 ≤ 3660
theorem texts_w {l : List ByteArray} (h : textsS l = true) : l.length ≤ 60 ∧ wsum l ≤ 3660 := by
  unfold textsS at h
  rw [Bool.and_eq_true, decide_eq_true_eq, List.all_eq_true] at h
  have := wsum_le l (fun s hs => by simpa using h.2 s hs)
  exact ⟨h.1, by omega⟩
theorem small_lines {l0 : List S38} {l1 l2 l3 : List ByteArray} (h : smallS l0 l1 l2 l3 = true) : Lines l0 l1 l2 l3 := by
 unfold smallS at h;simp only [Bool.and_eq_true, decide_eq_true_eq, List.all_eq_true] at h;obtain ⟨a0, a1, a2, a3, a4⟩ := h;exact ⟨a0, (texts_w a1).1, (texts_w a2).1, (texts_w a3).1, (texts_w a1).2, (texts_w a2).2, (texts_w a3).2, fun x hx => ⟨(a4 x hx).1, (texts_w (a4 x hx).2).1, (texts_w (a4 x hx).2).2⟩⟩
theorem some_len (x : List UInt8) (l : List ByteArray) : (someL x l).length ≤ x.length + wsum l + 1 := by
  unfold someL
  split
  · simp
  · rw [line_len]; omega
theorem rules_len : ∀ l0 : List S38, (∀ x ∈ l0, x.f0.size ≤ 60 ∧ x.f1.length ≤ 60 ∧ wsum x.f1 ≤ 3660) → (rulesL l0).length ≤ 3740 * l0.length
 | [], _ => Nat.le_refl _
 | r :: l, h => by
  have h1 := rules_len l (fun x hx => h x (List.mem_cons_of_mem _ hx))
  have h2 := h r (List.mem_cons_self ..)
  unfold rulesL
  rw [List.length_append, line_len, List.length_append, data_len, List.length_cons]
  simp only [List.length_cons, List.length_nil]
  omega
def tailP (l1 l2 l3 : List ByteArray) : List UInt8 := someL [108, 105, 110, 107] l1 ++ someL [115, 99, 104, 101, 109, 101] l2 ++ someL [100, 114, 111, 112] l3
section
variable (l0 : List S38) (l1 l2 l3 : List ByteArray) (d0 : Int) (hL : Lines l0 l1 l2 l3)
include hL
theorem print_j2 (acc : ByteArray) (ha : acc.size ≤ 900000000) : Ev (fun k => r11_Print.j2 k acc l0 l1 l2 l3 d0) (⟨(acc.data.toList ++ someL [115, 99, 104, 101, 109, 101] l2 ++ someL [100, 114, 111, 112] l3).toArray⟩, 0) := by
 have hw2 := hL.w2;have hw3 := hL.w3;have hn2 := hL.n2;have hn3 := hL.n3;have hs2 := said_ev (⟨#[115, 99, 104, 101, 109, 101]⟩ : ByteArray) l2 (by omega) (by show 6 + wsum l2 ≤ _; omega);have hs3 := said_ev (⟨#[100, 114, 111, 112]⟩ : ByteArray) l3 (by omega) (by show 4 + wsum l3 ≤ _; omega);have z2 : (⟨(lineL (⟨#[115, 99, 104, 101, 109, 101]⟩ : ByteArray).data.toList l2).toArray⟩ : ByteArray).size = 6 + wsum l2 + 1 := by rw [mk_size, line_len]; rfl
 have z3 : (⟨(lineL (⟨#[100, 114, 111, 112]⟩ : ByteArray).data.toList l3).toArray⟩ : ByteArray).size = 4 + wsum l3 + 1 := by rw [mk_size, line_len]; rfl
 have last : ∀ a : ByteArray, a.size ≤ 950000000 → Ev (fun k => if (l3.length : Int) > 0 then ((r11_said.f k (⟨#[100, 114, 111, 112]⟩ : ByteArray) l3).bind fun t263 => (if a.size + t263.size ≤ 9223372036854775807 then (some (a ++ t263, (0 : Int))) else (none))) else (some (a, 0))) (⟨(a.data.toList ++ someL [100, 114, 111, 112] l3).toArray⟩, 0) := by
  intro a hs
  by_cases h3 : l3 = []
  ·subst h3;refine Ev.congr (fun k => if_neg (by simp)) ?_;have e : a = ⟨(a.data.toList ++ someL [100, 114, 111, 112] []).toArray⟩ := ba_ext (by simp [someL]);rw [← e];exact Ev.now _
  have hp : 0 < l3.length := List.length_pos_iff.2 h3;refine Ev.congr (fun k => if_pos (by omega)) ?_;refine Ev.bind (f := fun k t263 => (if a.size + t263.size ≤ 9223372036854775807 then (some (a ++ t263, (0 : Int))) else (none))) hs3 ?_;refine Ev.congr (fun k => if_pos (by rw [z3]; omega)) ?_;have e : a ++ (⟨(lineL (⟨#[100, 114, 111, 112]⟩ : ByteArray).data.toList l3).toArray⟩ : ByteArray) = ⟨(a.data.toList ++ someL [100, 114, 111, 112] l3).toArray⟩ := ba_ext (by simp [someL, h3]);rw [e];exact Ev.now _
 refine Ev.step (f := fun k => if (l2.length : Int) > 0 then ((r11_said.f k (⟨#[115, 99, 104, 101, 109, 101]⟩ : ByteArray) l2).bind fun t262 => (if acc.size + t262.size ≤ 9223372036854775807 then (if (l3.length : Int) > 0 then ((r11_said.f k (⟨#[100, 114, 111, 112]⟩ : ByteArray) l3).bind fun t263 => (if (acc ++ t262).size + t263.size ≤ 9223372036854775807 then (some ((acc ++ t262) ++ t263, (0 : Int))) else (none))) else (some (acc ++ t262, 0))) else (none))) else (if (l3.length : Int) > 0 then ((r11_said.f k (⟨#[100, 114, 111, 112]⟩ : ByteArray) l3).bind fun t264 => (if acc.size + t264.size ≤ 9223372036854775807 then (some (acc ++ t264, 0)) else (none))) else (some (acc, 0)))) (fun k => by simp only [r11_Print.j2]) ?_
 by_cases h2 : l2 = []
 ·subst h2;refine Ev.congr (fun k => if_neg (by simp)) ?_;have h := last acc (by omega);rw [show acc.data.toList ++ someL [115, 99, 104, 101, 109, 101] [] = acc.data.toList by simp [someL]];exact h
 have hp : 0 < l2.length := List.length_pos_iff.2 h2;refine Ev.congr (fun k => if_pos (by omega)) ?_;refine Ev.bind (f := fun k t262 => (if acc.size + t262.size ≤ 9223372036854775807 then (if (l3.length : Int) > 0 then ((r11_said.f k (⟨#[100, 114, 111, 112]⟩ : ByteArray) l3).bind fun t263 => (if (acc ++ t262).size + t263.size ≤ 9223372036854775807 then (some ((acc ++ t262) ++ t263, (0 : Int))) else (none))) else (some (acc ++ t262, 0))) else (none))) hs2 ?_;refine Ev.congr (fun k => if_pos (by rw [z2]; omega)) ?_;have h := last (acc ++ (⟨(lineL (⟨#[115, 99, 104, 101, 109, 101]⟩ : ByteArray).data.toList l2).toArray⟩ : ByteArray)) (by rw [ByteArray.size_append, z2]; omega);have e : (acc ++ (⟨(lineL (⟨#[115, 99, 104, 101, 109, 101]⟩ : ByteArray).data.toList l2).toArray⟩ : ByteArray)).data.toList = acc.data.toList ++ someL [115, 99, 104, 101, 109, 101] l2 := by simp [someL, h2]
 rw [e] at h;exact h
theorem print_l0 : ∀ (d i : Nat) (acc : ByteArray), i + d = l0.length → acc.size + (rulesL (l0.drop i)).length ≤ 800000000 → Ev (fun k => r11_Print.l0 k acc (i : Int) l0 l1 l2 l3 d0) (⟨(acc.data.toList ++ rulesL (l0.drop i) ++ tailP l1 l2 l3).toArray⟩, 0) := by
 have hn0 := hL.n0;have hw1 := hL.w1;have hn1 := hL.n1;intro d
 induction d with
 | zero =>
  intro i acc hi ha;rw [List.drop_of_length_le (by omega)] at ha ⊢;have hs1 := said_ev (⟨#[108, 105, 110, 107]⟩ : ByteArray) l1 (by omega) (by show 4 + wsum l1 ≤ _; omega);have z1 : (⟨(lineL (⟨#[108, 105, 110, 107]⟩ : ByteArray).data.toList l1).toArray⟩ : ByteArray).size = 4 + wsum l1 + 1 := by rw [mk_size, line_len]; rfl
  have ha' : acc.size ≤ 800000000 := by simpa [rulesL] using ha
  refine Ev.step (f := fun k => if (l1.length : Int) > 0 then ((r11_said.f k (⟨#[108, 105, 110, 107]⟩ : ByteArray) l1).bind fun t261 => (if acc.size + t261.size ≤ 9223372036854775807 then (r11_Print.j2 k (acc ++ t261) l0 l1 l2 l3 d0) else (none))) else (r11_Print.j2 k acc l0 l1 l2 l3 d0)) (fun k => ?_) ?_
  ·simp only [r11_Print.l0];rw [if_neg (by omega)]
  by_cases h1 : l1 = []
  ·refine Ev.congr (fun k => if_neg (by rw [h1]; simp)) ?_;have h := print_j2 l0 l1 l2 l3 d0 hL acc (by omega);have e : acc.data.toList ++ rulesL [] ++ tailP l1 l2 l3 = acc.data.toList ++ someL [115, 99, 104, 101, 109, 101] l2 ++ someL [100, 114, 111, 112] l3 := by rw [h1]; simp [rulesL, tailP, someL]
   rw [e];exact h
  have hp : 0 < l1.length := List.length_pos_iff.2 h1;refine Ev.congr (fun k => if_pos (by omega)) ?_;refine Ev.bind (f := fun k t261 => (if acc.size + t261.size ≤ 9223372036854775807 then (r11_Print.j2 k (acc ++ t261) l0 l1 l2 l3 d0) else (none))) hs1 ?_;refine Ev.congr (fun k => if_pos (by rw [z1]; omega)) ?_;have h := print_j2 l0 l1 l2 l3 d0 hL (acc ++ (⟨(lineL (⟨#[108, 105, 110, 107]⟩ : ByteArray).data.toList l1).toArray⟩ : ByteArray)) (by rw [ByteArray.size_append, z1]; omega)
  have e : (acc ++ (⟨(lineL (⟨#[108, 105, 110, 107]⟩ : ByteArray).data.toList l1).toArray⟩ : ByteArray)).data.toList ++ someL [115, 99, 104, 101, 109, 101] l2 ++ someL [100, 114, 111, 112] l3 = acc.data.toList ++ rulesL [] ++ tailP l1 l2 l3 := by
   have e1 : someL [108, 105, 110, 107] l1 = lineL [108, 105, 110, 107] l1 := if_neg h1
   simp [rulesL, tailP, e1]
  rw [e] at h;exact h
 | succ d ih =>
  intro i acc hi ha;have hlt : i < l0.length := by omega
  have hd : l0.drop i = l0[i] :: l0.drop (i + 1) := List.drop_eq_getElem_cons hlt;rw [hd] at ha ⊢;obtain ⟨b0, b1, b2⟩ := hL.ra _ (List.getElem_mem hlt);have hrd := rdT_at l0 i hlt;have hx : ((⟨#[101, 108, 101, 109, 101, 110, 116, 32]⟩ : ByteArray) ++ l0[i].f0).data.toList = [101, 108, 101, 109, 101, 110, 116, 32] ++ l0[i].f0.data.toList := by simp
  have hxs : ((⟨#[101, 108, 101, 109, 101, 110, 116, 32]⟩ : ByteArray) ++ l0[i].f0).size = 8 + l0[i].f0.size := by rw [ByteArray.size_append]; rfl
  have hs := said_ev ((⟨#[101, 108, 101, 109, 101, 110, 116, 32]⟩ : ByteArray) ++ l0[i].f0) l0[i].f1 (by omega) (by rw [hxs]; omega);rw [hx] at hs;obtain ⟨L, hLdef⟩ : ∃ L, L = lineL ([101, 108, 101, 109, 101, 110, 116, 32] ++ l0[i].f0.data.toList) l0[i].f1 := ⟨_, rfl⟩;rw [← hLdef] at hs;have hr : rulesL (l0[i] :: l0.drop (i + 1)) = L ++ rulesL (l0.drop (i + 1)) := by rw [hLdef]; rfl
  rw [hr] at ha ⊢;rw [List.length_append] at ha;refine Ev.step (f := fun k => (r11_said.f k ((⟨#[101, 108, 101, 109, 101, 110, 116, 32]⟩ : ByteArray) ++ l0[i].f0) l0[i].f1).bind fun t260 => (if acc.size + t260.size ≤ 9223372036854775807 then (r11_Print.l0 k (acc ++ t260) ((i + 1 : Nat) : Int) l0 l1 l2 l3 d0) else (none))) (fun k => ?_) ?_
  ·simp only [r11_Print.l0];rw [if_pos (by omega), if_pos (by omega), hrd, if_pos (by omega), wrap_next (by omega)]
  refine Ev.bind (f := fun k t260 => (if acc.size + t260.size ≤ 9223372036854775807 then (r11_Print.l0 k (acc ++ t260) ((i + 1 : Nat) : Int) l0 l1 l2 l3 d0) else (none))) hs ?_;refine Ev.congr (fun k => if_pos (by rw [mk_size L]; omega)) ?_;have h := ih (i + 1) (acc ++ (⟨L.toArray⟩ : ByteArray)) (by omega) (by rw [ByteArray.size_append, mk_size L]; omega);have e : (acc ++ (⟨L.toArray⟩ : ByteArray)).data.toList ++ rulesL (l0.drop (i + 1)) = acc.data.toList ++ (L ++ rulesL (l0.drop (i + 1))) := by simp
  rw [e] at h;exact h
theorem print_j0 (n : ByteArray) (hn : n.size ≤ 100) : Ev (fun k => r11_Print.j0 k n l0 l1 l2 l3 d0) (⟨(lineL [100, 101, 101, 112] [n] ++ rulesL l0 ++ tailP l1 l2 l3).toArray⟩, 0) := by
 have hw : wsum [n] = n.size + 1 := by unfold wsum; simp
 have hs := said_ev (⟨#[100, 101, 101, 112]⟩ : ByteArray) [n] (by simp) (by rw [hw]; show 4 + _ ≤ _; omega);refine Ev.step (f := fun k => (r11_said.f k (⟨#[100, 101, 101, 112]⟩ : ByteArray) (([n] : List ByteArray))).bind fun t257 => (r11_Print.l0 k t257 0 l0 l1 l2 l3 d0)) (fun k => by simp only [r11_Print.j0]) ?_;refine Ev.bind (f := fun k t257 => (r11_Print.l0 k t257 0 l0 l1 l2 l3 d0)) hs ?_;have hr := rules_len l0 hL.ra;have hn0 := hL.n0;have h := print_l0 l0 l1 l2 l3 d0 hL l0.length 0 ⟨(lineL (⟨#[100, 101, 101, 112]⟩ : ByteArray).data.toList [n]).toArray⟩ (by omega) (by rw [mk_size, line_len, hw, List.drop_zero]; show 4 + _ + 1 + _ ≤ _; omega);rw [List.drop_zero] at h;exact h
end
def dgT : ByteArray := ⟨#[48, 49, 50, 51, 52, 53, 54, 55, 56, 57]⟩
theorem dec1 (n : Nat) (h : n < 10) : Lib.decDigits n = [UInt8.ofNat (48 + n)] := by
  rw [Lib.decDigits, dif_pos h]
theorem dec2 (n : Nat) (h : n < 100) (h' : 10 ≤ n) : Lib.decDigits n = [UInt8.ofNat (48 + n / 10), UInt8.ofNat (48 + n % 10)] := by
  rw [Lib.decDigits, dif_neg (by omega), dec1 (n / 10) (by omega)]
  rfl
theorem dec_len (n : Nat) (h : n < 61) : (Lib.decDigits n).length ≤ 2 := by
  by_cases h' : n < 10
  · rw [dec1 n h']; simp
  · rw [dec2 n (by omega) (by omega)]; simp
theorem dig_at : ∀ n, n < 10 → (dgT.extract n (n + 1)).data.toList = [UInt8.ofNat (48 + n)] := by decide +kernel
theorem dig_one (n : Nat) (hn : n < 10) : dgT.extract n (n + 1) = ⟨(Lib.decDigits n).toArray⟩ := by
  apply ba_ext
  rw [dig_at n hn, dec1 n hn]
theorem dig_two (n : Nat) (hn : n < 61) (h : 10 ≤ n) : dgT.extract (n / 10) (n / 10 + 1) ++ dgT.extract (n % 10) (n % 10 + 1) = ⟨(Lib.decDigits n).toArray⟩ := by
 apply ba_ext
 rw [dec2 n (by omega) h];have e1 := dig_at (n / 10) (by omega);have e2 := dig_at (n % 10) (by omega);rw [show (dgT.extract (n / 10) (n / 10 + 1) ++ dgT.extract (n % 10) (n % 10 + 1)).data.toList = (dgT.extract (n / 10) (n / 10 + 1)).data.toList ++ (dgT.extract (n % 10) (n % 10 + 1)).data.toList by simp, e1, e2];rfl
def prR (l0 : List S38) (l1 l2 l3 : List ByteArray) (d : Int) : ByteArray × Int := if checkS l0 l1 l2 l3 d = 0 then (⟨(prText l0 l1 l2 l3 d.toNat).toArray⟩, 0) else (⟨#[]⟩, checkS l0 l1 l2 l3 d)
theorem check_deep {l0 : List S38} {l1 l2 l3 : List ByteArray} {d : Int} (h : checkS l0 l1 l2 l3 d = 0) : 1 ≤ d ∧ d ≤ 60 := by
  unfold checkS at h
  split at h
  · simp at h
  · unfold okE at h
    split at h
    · next hb =>
      unfold headB at hb
      simp only [Bool.and_eq_true, decide_eq_true_eq] at hb
      exact hb.1.1
    · simp at h
theorem print_ev (l0 : List S38) (l1 l2 l3 : List ByteArray) (d : Int) (hs : SmallP l0 l1 l2 l3) (hL : Lines l0 l1 l2 l3) : Ev (fun k => p_Print.f k l0 l1 l2 l3 d) (prR l0 l1 l2 l3 d) := by
 unfold p_Print.f prR;refine Ev.bind (f := fun k e => if e = 0 then (if (0 ≤ d ∧ d < 100) ∧ l1.length < 100000 ∧ l2.length < 100000 ∧ l3.length < 100000 ∧ (∀ x ∈ l0, x.f1.length < 100000) ∧ (prText l0 l1 l2 l3 d.toNat).length < 1000000000 then some ((⟨(prText l0 l1 l2 l3 d.toNat).toArray⟩ : ByteArray), (0 : Int)) else none) else some (⟨#[]⟩, e)) (check_ev l0 l1 l2 l3 d hs) ?_
 by_cases h : checkS l0 l1 l2 l3 d = 0
 ·rw [if_pos h, if_pos h];obtain ⟨hd1, hd2⟩ := check_deep h;obtain ⟨a0, a1, a2, a3, b1, b2, b3, ra⟩ := hL
  have hlen : (prText l0 l1 l2 l3 d.toNat).length < 1000000000 := by
   have hr := rules_len l0 ra;have s1 := some_len [108, 105, 110, 107] l1;have s2 := some_len [115, 99, 104, 101, 109, 101] l2;have s3 := some_len [100, 114, 111, 112] l3;have hdg : (Lib.decDigits d.toNat).length ≤ 2 := dec_len _ (by omega);unfold prText;simp only [List.length_append, line_len];have hw : wsum [(⟨(Lib.decDigits d.toNat).toArray⟩ : ByteArray)] = (Lib.decDigits d.toNat).length + 1 := by unfold wsum; simp [mk_size]
   rw [hw];simp only [List.length_cons, List.length_nil] at s1 s2 s3 ⊢
   omega
  exact Ev.congr (fun k => if_pos ⟨⟨by omega, by omega⟩, by omega, by omega, by omega, fun x hx => by have := (ra x hx).2.1; omega, hlen⟩) (Ev.now _)
 rw [if_neg h, if_neg h];exact Ev.now _
theorem refprint_ev (l0 : List S38) (l1 l2 l3 : List ByteArray) (d : Int) (hs : SmallP l0 l1 l2 l3) (hL : Lines l0 l1 l2 l3) : Ev (fun k => r11_Print.f k l0 l1 l2 l3 d) (prR l0 l1 l2 l3 d) := by
 unfold prR
 by_cases h : checkS l0 l1 l2 l3 d = 0
 ·rw [if_pos h];obtain ⟨hd1, hd2⟩ := check_deep h;obtain ⟨n, rfl⟩ : ∃ n : Nat, d = (n : Int) := ⟨d.toNat, by omega⟩;rw [show ((n : Int)).toNat = n from rfl];have hc := refcheck_ev l0 l1 l2 l3 (n : Int) hs;rw [h] at hc;obtain ⟨K, hK⟩ := hc;have hm : Int.tmod (n : Int) 10 = ((n % 10 : Nat) : Int) := by rw [Int.tmod_eq_emod_of_nonneg (by omega)]; omega
  have hq : Int.tdiv (n : Int) 10 = ((n / 10 : Nat) : Int) := by rw [Int.tdiv_eq_ediv_of_nonneg (by omega)]; omega
  have wm : wrap64 (((n % 10 : Nat) : Int) + 1) = ((n % 10 + 1 : Nat) : Int) := wrap_next (by omega);have wq0 : wrap64 (((n / 10 : Nat) : Int)) = ((n / 10 : Nat) : Int) := by unfold wrap64; omega
  have wq : wrap64 (((n / 10 : Nat) : Int) + 1) = ((n / 10 + 1 : Nat) : Int) := wrap_next (by omega);have hpr : prText l0 l1 l2 l3 n = lineL [100, 101, 101, 112] [⟨(Lib.decDigits n).toArray⟩] ++ rulesL l0 ++ tailP l1 l2 l3 := by unfold prText tailP; simp only [List.append_assoc]
  have hdg : (⟨(Lib.decDigits n).toArray⟩ : ByteArray).size ≤ 100 := by
   rw [mk_size];have := dec_len n (by omega)
   omega
  obtain ⟨J, hJ⟩ := print_j0 l0 l1 l2 l3 (n : Int) hL ⟨(Lib.decDigits n).toArray⟩ hdg;rw [hpr];refine ⟨max K J, fun k hk => ?_⟩;have h1 := hK k (by omega);have h2 := hJ k (by omega);simp only at h1 h2;unfold r11_Print.f;show ((r11_Check.f k l0 l1 l2 l3 (n : Int)).bind _) = _;rw [h1, Option.bind_some, if_pos rfl, hm, hq, wm, wq0, wq, if_pos (by omega), if_pos (by omega), if_pos (by omega)]
  by_cases h10 : 10 ≤ n
  ·have sz : (dgT.extract (n / 10) (n / 10 + 1)).size + (dgT.extract (n % 10) (n % 10 + 1)).size ≤ 9223372036854775807 := by rw [ByteArray.size_extract, ByteArray.size_extract]; omega
   rw [if_pos (by omega), if_pos (by omega), if_pos (by omega), if_pos (by omega), if_pos (by exact sz)];have e := dig_two n (by omega) h10;have e2 : (⟨#[48, 49, 50, 51, 52, 53, 54, 55, 56, 57]⟩ : ByteArray).extract ((((n / 10 : Nat) : Int)).toNat) ((((n / 10 + 1 : Nat) : Int)).toNat) ++ (⟨#[48, 49, 50, 51, 52, 53, 54, 55, 56, 57]⟩ : ByteArray).extract ((((n % 10 : Nat) : Int)).toNat) ((((n % 10 + 1 : Nat) : Int)).toNat) = ⟨(Lib.decDigits n).toArray⟩ := e;rw [e2];exact h2
  rw [if_neg (by omega)];have e := dig_one n (by omega);have hn : n % 10 = n := by omega
  have e2 : (⟨#[48, 49, 50, 51, 52, 53, 54, 55, 56, 57]⟩ : ByteArray).extract ((((n % 10 : Nat) : Int)).toNat) ((((n % 10 + 1 : Nat) : Int)).toNat) = ⟨(Lib.decDigits n).toArray⟩ := by rw [hn]; exact e
  rw [e2];exact h2
 rw [if_neg h];unfold r11_Print.f;obtain ⟨K, hK⟩ := refcheck_ev l0 l1 l2 l3 d hs;refine ⟨K, fun k hk => ?_⟩;have h1 := hK k hk;simp only at h1;simp only [h1, Option.bind_some];rw [if_neg h]
end Go.Proofs.YtnbghhddmlohoaaGreatDoor.Pure

end

section
namespace Go.Proofs.YtnbghhddmlohoaaGreatDoor.Pure
open Go.RowKit Go.Proofs.YtnbghhddmlohoaaGreatDoor.PAll Go.Proofs.YtnbghhddmlohoaaGreatDoorW.PrintWords Go.Proofs.YtnbghhddmlohoaaGreatDoorW.PrintLast
theorem PolicyPrint : policyPrintOp.Plain := by
 intro x0 hg
 apply Ev.rounds
 unfold l11_PolicyPrint.f;refine Ev.way (small_ev x0.f0 x0.f1 x0.f2 x0.f3 x0.f4) (fun h => ?_) (fun h => ?_)
 ·obtain ⟨K1, h1⟩ := print_ev x0.f0 x0.f1 x0.f2 x0.f3 x0.f4 (small_is h) (small_lines h);obtain ⟨K2, h2⟩ := refprint_ev x0.f0 x0.f1 x0.f2 x0.f3 x0.f4 (small_is h) (small_lines h);obtain ⟨K3, h3⟩ := alive_ev;refine ⟨max K1 (max K2 K3), fun k hk => ?_⟩;have a1 := h1 k (by omega);have a2 := h2 k (by omega);have a3 := h3 k (by omega);simp only at a1 a2 a3;simp only [a1, a2, a3, Option.bind_some, if_pos, beq_self_eq_true]
 exact Ev.bind (f := fun k t => some t) alive_ev (Ev.now _)
end Go.Proofs.YtnbghhddmlohoaaGreatDoor.Pure

end
