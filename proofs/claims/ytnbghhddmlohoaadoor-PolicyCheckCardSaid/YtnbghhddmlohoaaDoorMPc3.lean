-- Laid together by a program of this session (merge.py) out of its own texts and of the print's, for one law. Lean checks it.
import Derived.Test.YtnbghhddmlohoaaDoorMPc2
section
namespace Go.Proofs.YtnbghhddmlohoaaDoor.PAll
open Go.RowKit Go.Proofs.YtnbghhddmlohoaaDoorW.PrintWords Go.Proofs.YtnbghhddmlohoaaDoorW.PrintLast Go.Proofs.YtnbghhddmlohoaaDoorW.PrintMore
attribute [local go_sem] max2_int min2_int max_two min_two max_three min_three max_four min_four   -- for this text's walks alone
set_option linter.unusedVariables false
set_option linter.unusedSimpArgs false

mutual
def marginaliaref11_Check.j0 : Nat → Bool → List (S53) → List ByteArray → List ByteArray → List ByteArray → Int → Option (Int)
  | 0, _, _, _, _, _, _ => none
  | k + 1, x3, x238000, x238001, x238002, x238003, x238004 => marginaliaref11_Check.l0 k x3 0 x238000 x238001 x238002 x238003 x238004
def marginaliaref11_Check.j2 : Nat → Bool → List (S53) → List ByteArray → List ByteArray → List ByteArray → Int → Option (Int)
  | 0, _, _, _, _, _, _ => none
  | k + 1, x3, x238000, x238001, x238002, x238003, x238004 => if x3 = true then (some 4) else (if x238004 ≥ 1 then (if x238004 ≤ 60 then ((marginaliaref11_names.f k x238001).bind fun t239 => (if t239 = true then ((marginaliaref11_names.f k x238002).bind fun t240 => (if t240 = true then ((marginaliaref11_names.f k x238003).bind fun t241 => (marginaliaref11_Check.j3 k t241 x238000 x238001 x238002 x238003 x238004)) else (marginaliaref11_Check.j3 k false x238000 x238001 x238002 x238003 x238004))) else (marginaliaref11_Check.j3 k false x238000 x238001 x238002 x238003 x238004))) else (marginaliaref11_Check.j3 k false x238000 x238001 x238002 x238003 x238004)) else (marginaliaref11_Check.j3 k false x238000 x238001 x238002 x238003 x238004))
def marginaliaref11_Check.j3 : Nat → Bool → List (S53) → List ByteArray → List ByteArray → List ByteArray → Int → Option (Int)
  | 0, _, _, _, _, _, _ => none
  | k + 1, x5, x238000, x238001, x238002, x238003, x238004 => marginaliaref11_Check.l1 k x5 0 x238000 x238001 x238002 x238003 x238004
def marginaliaref11_Check.l1 : Nat → Bool → Int → List (S53) → List ByteArray → List ByteArray → List ByteArray → Int → Option (Int)
  | 0, _, _, _, _, _, _, _ => none
  | k + 1, x5, x6, x238000, x238001, x238002, x238003, x238004 => if x6 < (x238000.length : Int) then (marginaliaref11_Check.l2 k x5 x6 0 x238000 x238001 x238002 x238003 x238004) else (if x5 = true then ((marginaliaref11_in.f k x238002 (⟨#[100, 97, 116, 97]⟩ : ByteArray)).bind fun t248 => (if t248 = true then (some 1) else ((marginaliaref11_in.f k x238002 (⟨#[106, 97, 118, 97, 115, 99, 114, 105, 112, 116]⟩ : ByteArray)).bind fun t249 => (if t249 = true then (some 1) else ((marginaliaref11_in.f k x238002 (⟨#[118, 98, 115, 99, 114, 105, 112, 116]⟩ : ByteArray)).bind fun t250 => (if t250 = true then (some 1) else (some 0))))))) else (some 1))
def marginaliaref11_Check.l2 : Nat → Bool → Int → Int → List (S53) → List ByteArray → List ByteArray → List ByteArray → Int → Option (Int)
  | 0, _, _, _, _, _, _, _, _ => none
  | k + 1, x5, x6, x7, x238000, x238001, x238002, x238003, x238004 => if x7 < x6 then (if x5 = true then (if 0 ≤ x7 then (if x7 < (x238000.length : Int) then (if 0 ≤ x6 then (if x6 < (x238000.length : Int) then (marginaliaref11_Check.l2 k (((rd_T53 x238000 x7).f0).toList != ((rd_T53 x238000 x6).f0).toList) x6 (wrap64 (x7 + 1)) x238000 x238001 x238002 x238003 x238004) else (none)) else (none)) else (none)) else (none)) else (marginaliaref11_Check.l2 k false x6 (wrap64 (x7 + 1)) x238000 x238001 x238002 x238003 x238004)) else (if x5 = true then (if 0 ≤ x6 then (if x6 < (x238000.length : Int) then ((marginaliaref11_rule.f k ((rd_T53 x238000 x6).f0) ((rd_T53 x238000 x6).f1)).bind fun t245 => (if t245 = true then ((marginaliaref11_in.f k x238003 ((rd_T53 x238000 x6).f0)).bind fun t247 => (marginaliaref11_Check.l1 k (!t247) (wrap64 (x6 + 1)) x238000 x238001 x238002 x238003 x238004)) else (marginaliaref11_Check.l1 k false (wrap64 (x6 + 1)) x238000 x238001 x238002 x238003 x238004))) else (none)) else (none)) else (marginaliaref11_Check.l1 k false (wrap64 (x6 + 1)) x238000 x238001 x238002 x238003 x238004))
def marginaliaref11_Check.l0 : Nat → Bool → Int → List (S53) → List ByteArray → List ByteArray → List ByteArray → Int → Option (Int)
  | 0, _, _, _, _, _, _, _ => none
  | k + 1, x3, x4, x238000, x238001, x238002, x238003, x238004 => if x4 < (x238000.length : Int) then (if x3 = true then (marginaliaref11_Check.j2 k x3 x238000 x238001 x238002 x238003 x238004) else (if 0 ≤ x4 then (marginaliaref11_Check.l0 k (decide ((((rd_T53 x238000 x4).f1).length : Int) > 20)) (wrap64 (x4 + 1)) x238000 x238001 x238002 x238003 x238004) else (none))) else (marginaliaref11_Check.j2 k x3 x238000 x238001 x238002 x238003 x238004)
end
def marginaliaref11_Check.f (k : Nat) (l0_0 : List (S53)) (l0_1 : List ByteArray) (l0_2 : List ByteArray) (l0_3 : List ByteArray) (a0_4 : Int) : Option (Int) := if (l0_0.length : Int) > 40 then (marginaliaref11_Check.j0 k true l0_0 l0_1 l0_2 l0_3 a0_4) else (if (l0_1.length : Int) > 20 then (marginaliaref11_Check.j0 k true l0_0 l0_1 l0_2 l0_3 a0_4) else (if (l0_2.length : Int) > 20 then (marginaliaref11_Check.j0 k true l0_0 l0_1 l0_2 l0_3 a0_4) else (marginaliaref11_Check.j0 k (decide ((l0_3.length : Int) > 20)) l0_0 l0_1 l0_2 l0_3 a0_4)))
def marginaliaref11_Check.T15 : Bool × List (List Nat × List Nat) := (true, [([], []), ([0], [0]), ([1], [1]), ([2, 1], [1, 2]), ([1], [1]), ([3, 4, 1], [1, 3, 4]), ([5, 1], [1, 5]), ([6, 1], [1, 6]), ([1], [1]), ([8, 1], [1, 8]), ([1], [1]), ([9, 10, 1], [1, 9, 10]), ([11, 1], [1, 11]), ([12, 1], [1, 12]), ([7, 13, 1], [1, 7, 13]), ([1, 14], [1, 14]), ([15, 1, 0, 1, 2, 3, 4, 5, 6, 7, 8, 9, 10, 11, 12, 13, 14, 15], [0, 15])])
def marginaliaref11_Check.B15 : List Nat := [0, 1, 3, 7, 3, 31, 63, 127, 3, 259, 3, 1795, 3843, 7939, 16383, 32767, 65535]
theorem marginaliaref11_Check.tab15 : rtab .any (opsOf Tryd.f12 15) = marginaliaref11_Check.T15 := by kernel_rfl
theorem marginaliaref11_Check.bits15 : waitsOk marginaliaref11_Check.T15.2 marginaliaref11_Check.B15 = true := by kernel_rfl
def marginaliaref11_Check.T16 : Bool × List (List Nat × List Nat) := (true, [([], []), ([0], [0]), ([1], [1]), ([2, 1], [1, 2]), ([1], [1]), ([3, 4, 1], [1, 3, 4]), ([5, 1], [1, 5]), ([6, 1, 1], [1, 6]), ([1, 7], [1, 7]), ([8, 7], [8]), ([9], [9]), ([10, 9], [9, 10]), ([9], [9]), ([12, 9], [9, 12]), ([9], [9]), ([13, 14, 9], [9, 13, 14]), ([15, 9], [9, 15]), ([16, 9], [9, 16]), ([11, 17, 9, 9], [9, 11, 17]), ([18, 9], [9, 18]), ([9, 19], [9, 19]), ([20, 18, 0, 1, 2, 3, 4, 5, 6, 7, 8, 9, 10, 11, 12, 13, 14, 15, 16, 17, 18, 19, 20], [0, 20])])
def marginaliaref11_Check.B16 : List Nat := [0, 1, 3, 7, 3, 31, 63, 127, 255, 511, 1023, 2047, 1023, 5119, 1023, 29695, 62463, 127999, 262143, 524287, 1048575, 2097151]
theorem marginaliaref11_Check.tab16 : rtab .any (opsOf Tryd.f12 16) = marginaliaref11_Check.T16 := by kernel_rfl
theorem marginaliaref11_Check.bits16 : waitsOk marginaliaref11_Check.T16.2 marginaliaref11_Check.B16 = true := by kernel_rfl
set_option maxHeartbeats 8000000 in
set_option maxRecDepth 100000 in
theorem marginaliaref11_Check.calls (k : Nat) (A0_0 : Option Addr) (c0_0 : Nat) (l0_0 : List (S53)) (A0_1 : Option Addr) (c0_1 : Nat) (l0_1 : List ByteArray) (A0_2 : Option Addr) (c0_2 : Nat) (l0_2 : List ByteArray) (A0_3 : Option Addr) (c0_3 : Nat) (l0_3 : List ByteArray) (a0_4 : Int) (r : Int) (w : World) (hr0_0 : Kd.C k53 w A0_0 l0_0.length l0_0) (hc0_0 : l0_0.length ≤ c0_0) (hr0_1 : Kd.C Kd.string w A0_1 l0_1.length l0_1) (hc0_1 : l0_1.length ≤ c0_1) (hr0_2 : Kd.C Kd.string w A0_2 l0_2.length l0_2) (hc0_2 : l0_2.length ≤ c0_2) (hr0_3 : Kd.C Kd.string w A0_3 l0_3.length l0_3) (hc0_3 : l0_3.length ≤ c0_3) (h : marginaliaref11_Check.f k l0_0 l0_1 l0_2 l0_3 a0_4 = some r) :
  Calls Tryd.prog 12 #[.agg #[.slice A0_0 l0_0.length c0_0, .slice A0_1 l0_1.length c0_1, .slice A0_2 l0_2.length c0_2, .slice A0_3 l0_3.length c0_3, .int .i64 a0_4]] w fun e w' => e = .returned (.int .i64 r) ∧ Below w.heap.size w w' := by
 have hu25 := Tryd.underlying25
 have hu53 := Tryd.underlying53
 have HR0_0 := Aside0.mk hr0_0
 have HC0_0 := Aside0.mk hc0_0
 clear hr0_0 hc0_0
 have HR0_1 := Aside0.mk hr0_1
 have HC0_1 := Aside0.mk hc0_1
 clear hr0_1 hc0_1
 have HR0_2 := Aside0.mk hr0_2
 have HC0_2 := Aside0.mk hc0_2
 clear hr0_2 hc0_2
 have HR0_3 := Aside0.mk hr0_3
 have HC0_3 := Aside0.mk hc0_3
 clear hr0_3 hc0_3
 have HB := Aside0.mk (Below.refl w.heap.size w)
 have H : (if (l0_0.length : Int) > 40 then (marginaliaref11_Check.j0 k true l0_0 l0_1 l0_2 l0_3 a0_4) else (if (l0_1.length : Int) > 20 then (marginaliaref11_Check.j0 k true l0_0 l0_1 l0_2 l0_3 a0_4) else (if (l0_2.length : Int) > 20 then (marginaliaref11_Check.j0 k true l0_0 l0_1 l0_2 l0_3 a0_4) else (marginaliaref11_Check.j0 k (decide ((l0_3.length : Int) > 20)) l0_0 l0_1 l0_2 l0_3 a0_4)))) = some r := h
 clear h
 have HC2 := Aside0.mk H
 clear H
 go_enter Tryd.func12, Tryd.ntmps12
 go_upto_region 1 with (first | ((with_reducible refine gate_dst (N := 1) rfl ?_); (try (refine gate_guard (by rfl) ?_; dsimp only)); refine box5 25 1 (cs := #[.slice A0_0 l0_0.length c0_0, .slice A0_1 l0_1.length c0_1, .slice A0_2 l0_2.length c0_2, .slice A0_3 l0_3.length c0_3, .int .i64 a0_4]) ?_; intro gb237 w3 HB1 BK237 GE237; clear HB; have HB := HB1; clear HB1; have GW237 := GE237))
 (try simp only [Act.put, List.setIfInBounds_toArray, List.set_cons_zero, List.set_cons_succ])
 go_cut [3] (fun v3 wc => ∃ (kq : Nat) (x3_1 : Bool), v3 = .bool x3_1 ∧ Aside0 (marginaliaref11_Check.j0 kq x3_1 l0_0 l0_1 l0_2 l0_3 a0_4 = some r) ∧ Aside0 (kq ≤ k) ∧ Aside0 (wc.heap[gb237]? = some (.cells #[(.slice A0_0 l0_0.length c0_0), (.slice A0_1 l0_1.length c0_1), (.slice A0_2 l0_2.length c0_2), (.slice A0_3 l0_3.length c0_3), .int .i64 a0_4] 25 (0, 0))) ∧ Aside0 (Below w.heap.size w wc))
 case first =>
  have H := HC2.out
  clear HC2
  by_cases c4 : (l0_0.length : Int) > 40
  ·rw [if_pos c4] at H
   have c4b0 : decide (40 < (l0_0.length : Int)) = true := decide_eq_true c4
   have c4b1 : decide (40 < l0_0.length) = true := decide_eq_true (by omega)
   clear c4
   (first | rw [c4b0] | (simp only [i64_w, i32_w]; rw [c4b0]) | skip)
   have H' := Aside0.mk H
   clear H
   obtain ⟨hcz5_0, hcz5_1, hcz5_2, hcz5_3, hcz5_4, hfz5_0, hfz5_1, hfz5_2, hfz5_3, hfz5_4⟩ := cells5 BK237
   go_wp2
   go_meet
   case rel => exact ⟨_, (true), Rs, H', ⟨On⟩, ⟨(Bk BK237)⟩, ⟨Bw⟩⟩
  rw [if_neg c4] at H
  have c4b0 : decide (40 < (l0_0.length : Int)) = false := decide_eq_false c4
  have c4b1 : decide (40 < l0_0.length) = false := decide_eq_false (by omega)
  clear c4
  (first | rw [c4b0] | (simp only [i64_w, i32_w]; rw [c4b0]) | skip)
  by_cases c6 : (l0_1.length : Int) > 20
  ·rw [if_pos c6] at H
   have c6b0 : decide (20 < (l0_1.length : Int)) = true := decide_eq_true c6
   have c6b1 : decide (20 < l0_1.length) = true := decide_eq_true (by omega)
   clear c6
   have H' := Aside0.mk H
   clear H
   obtain ⟨hcz7_0, hcz7_1, hcz7_2, hcz7_3, hcz7_4, hfz7_0, hfz7_1, hfz7_2, hfz7_3, hfz7_4⟩ := cells5 BK237
   go_wp2
   go_meet
   case rel => exact ⟨_, (true), Rs, H', ⟨On⟩, ⟨(Bk BK237)⟩, ⟨Bw⟩⟩
  rw [if_neg c6] at H
  have c6b0 : decide (20 < (l0_1.length : Int)) = false := decide_eq_false c6
  have c6b1 : decide (20 < l0_1.length) = false := decide_eq_false (by omega)
  clear c6
  by_cases c8 : (l0_2.length : Int) > 20
  ·rw [if_pos c8] at H
   have c8b0 : decide (20 < (l0_2.length : Int)) = true := decide_eq_true c8
   have c8b1 : decide (20 < l0_2.length) = true := decide_eq_true (by omega)
   clear c8
   have H' := Aside0.mk H
   clear H
   obtain ⟨hcz9_0, hcz9_1, hcz9_2, hcz9_3, hcz9_4, hfz9_0, hfz9_1, hfz9_2, hfz9_3, hfz9_4⟩ := cells5 BK237
   go_wp2
   go_meet
   case rel => exact ⟨_, (true), Rs, H', ⟨On⟩, ⟨(Bk BK237)⟩, ⟨Bw⟩⟩
  rw [if_neg c8] at H
  have c8b0 : decide (20 < (l0_2.length : Int)) = false := decide_eq_false c8
  have c8b1 : decide (20 < l0_2.length) = false := decide_eq_false (by omega)
  clear c8
  have H' := Aside0.mk H
  clear H
  obtain ⟨hcz10_0, hcz10_1, hcz10_2, hcz10_3, hcz10_4, hfz10_0, hfz10_1, hfz10_2, hfz10_3, hfz10_4⟩ := cells5 BK237
  go_wp2
  go_meet
  case rel => exact ⟨_, (decide ((l0_3.length : Int) > 20)), Rs, H', ⟨On⟩, ⟨(Bk BK237)⟩, ⟨Bw⟩⟩
 case rest =>
  clear HC2
  try clear c1
  try clear p2
  try clear c4
  try clear c4b0
  try clear c4b1
  try clear c6
  try clear c6b0
  try clear c6b1
  try clear c8
  try clear c8b0
  try clear c8b1
  try clear hcz10_0 hcz10_1 hcz10_2 hcz10_3 hcz10_4
  try clear hcz5_0 hcz5_1 hcz5_2 hcz5_3 hcz5_4
  try clear hcz7_0 hcz7_1 hcz7_2 hcz7_3 hcz7_4
  try clear hcz9_0 hcz9_1 hcz9_2 hcz9_3 hcz9_4
  try clear hfz10_0 hfz10_1 hfz10_2 hfz10_3 hfz10_4
  try clear hfz5_0 hfz5_1 hfz5_2 hfz5_3 hfz5_4
  try clear hfz7_0 hfz7_1 hfz7_2 hfz7_3 hfz7_4
  try clear hfz9_0 hfz9_1 hfz9_2 hfz9_3 hfz9_4
  obtain ⟨kq, x3_1, rfl, HA, HJ1, BK237, HB⟩ := hcut
  cases kq with
  | zero => exact absurd HA.out (by simp [marginaliaref11_Check.j0])
  | succ kj1 =>
   have H := HA.out
   clear HA
   simp only [marginaliaref11_Check.j0] at H
   have HC11 := Aside0.mk H
   clear H
   go_upto_block 0 with (fail)
   go_cut [3] (fun v3 wc => ∃ (kq : Nat) (x3_10 : Bool), v3 = .bool x3_10 ∧ Aside0 (marginaliaref11_Check.j2 kq x3_10 l0_0 l0_1 l0_2 l0_3 a0_4 = some r) ∧ Aside0 (kq ≤ kj1) ∧ Aside0 (wc.heap[gb237]? = some (.cells #[(.slice A0_0 l0_0.length c0_0), (.slice A0_1 l0_1.length c0_1), (.slice A0_2 l0_2.length c0_2), (.slice A0_3 l0_3.length c0_3), .int .i64 a0_4] 25 (0, 0))) ∧ Aside0 (Below w.heap.size w wc))
   case first =>
    have H := HC11.out
    clear HC11
    have H' := Aside0.mk H
    clear H
    go_wp2
    go_loopg [3, 4] kj1 (fun kq v3 v4 w' => ∃ (x3_2 : Bool) (x4_2 : Int), v3 = .bool x3_2 ∧ v4 = .int .i64 x4_2 ∧ Aside0 (marginaliaref11_Check.l0 kq x3_2 x4_2 l0_0 l0_1 l0_2 l0_3 a0_4 = some r) ∧ Aside0 (kq ≤ kj1) ∧ Aside0 (w'.heap[gb237]? = some (.cells #[(.slice A0_0 l0_0.length c0_0), (.slice A0_1 l0_1.length c0_1), (.slice A0_2 l0_2.length c0_2), (.slice A0_3 l0_3.length c0_3), .int .i64 a0_4] 25 (0, 0))) ∧ Aside0 (Below w.heap.size w w'))
    case atStart => exact ⟨(x3_1), (0), Rs, Rs, H', ⟨Nat.le_refl _⟩, ⟨(Bk BK237)⟩, ⟨Bw⟩⟩
    case round =>
     clear H'
     try clear c1
     try clear p2
     try clear c4
     try clear c4b0
     try clear c4b1
     try clear c6
     try clear c6b0
     try clear c6b1
     try clear c8
     try clear c8b0
     try clear c8b1
     try clear hcz10_0 hcz10_1 hcz10_2 hcz10_3 hcz10_4
     try clear hcz5_0 hcz5_1 hcz5_2 hcz5_3 hcz5_4
     try clear hcz7_0 hcz7_1 hcz7_2 hcz7_3 hcz7_4
     try clear hcz9_0 hcz9_1 hcz9_2 hcz9_3 hcz9_4
     try clear hfz10_0 hfz10_1 hfz10_2 hfz10_3 hfz10_4
     try clear hfz5_0 hfz5_1 hfz5_2 hfz5_3 hfz5_4
     try clear hfz7_0 hfz7_1 hfz7_2 hfz7_3 hfz7_4
     try clear hfz9_0 hfz9_1 hfz9_2 hfz9_3 hfz9_4
     try clear p2
     obtain ⟨x3_2, x4_2, rfl, rfl, HA, HK2, BK237, HB⟩ := hrel
     cases gk with
     | zero => exact absurd HA.out (by simp [marginaliaref11_Check.l0])
     | succ k2 =>
      have H := HA.out
      clear HA
      simp only [marginaliaref11_Check.l0] at H
      by_cases c12 : x4_2 < (l0_0.length : Int)
      ·rw [if_pos c12] at H
       have c12b0 : decide (x4_2 < (l0_0.length : Int)) = true := decide_eq_true c12
       clear c12
       (first | rw [c12b0] | (simp only [i64_w, i32_w]; rw [c12b0]) | skip)
       by_cases c13 : x3_2 = true
       ·subst c13
        have H1 : (marginaliaref11_Check.j2 k2 true l0_0 l0_1 l0_2 l0_3 a0_4) = some r := by rw [if_pos rfl] at H; exact H
        clear H
        have H := H1
        clear H1
        have H' := Aside0.mk H
        clear H
        obtain ⟨hcz14_0, hcz14_1, hcz14_2, hcz14_3, hcz14_4, hfz14_0, hfz14_1, hfz14_2, hfz14_3, hfz14_4⟩ := cells5 BK237
        go_wp2
        go_meet
        case rel => exact ⟨_, (true), Rs, H', ⟨by have := HJ1.out; have := HK2.out; first | omega | exact Nat.le_refl _⟩, ⟨(Bk BK237)⟩, ⟨Bw⟩⟩
       replace c13 := Bool.eq_false_iff.mpr c13
       subst c13
       have H1 : (if 0 ≤ x4_2 then (marginaliaref11_Check.l0 k2 (decide ((((rd_T53 l0_0 x4_2).f1).length : Int) > 20)) (wrap64 (x4_2 + 1)) l0_0 l0_1 l0_2 l0_3 a0_4) else (none)) = some r := by rw [if_neg (show ¬ (false = true) by decide)] at H; exact H
       clear H
       have H := H1
       clear H1
       by_cases c15 : 0 ≤ x4_2
       ·rw [if_pos c15] at H
        have c15b0 : decide (0 ≤ x4_2) = true := decide_eq_true c15
        clear c15
        have H' := Aside0.mk H
        clear H
        obtain ⟨hcz16_0, hcz16_1, hcz16_2, hcz16_3, hcz16_4, hfz16_0, hfz16_1, hfz16_2, hfz16_3, hfz16_4⟩ := cells5 BK237
        have p238 : 0 ≤ (x4_2 : Int) := of_decide_eq_true Dt
        have q238 : x4_2 < (l0_0.length : Int) := of_decide_eq_true Dt
        obtain ⟨ad238, A238_1, c238_1, e238, hx238_0, hx238_1, hl238_1, hi238_1⟩ := at_T53 HR0_0.out x4_2 p238 q238
        cases e238
        replace hx238_0 := Hx hx238_0
        replace hx238_1 := Hx hx238_1
        have HR238_1 := Aside0.mk hi238_1
        have HC238_1 := Aside0.mk hl238_1
        clear hi238_1 hl238_1
        replace p238 := eq_true p238
        replace q238 := eq_true q238
        go_wp2
        go_roundg k2
        case measure => have := HJ1.out; have := HK2.out; omega
        case rel => exact ⟨(decide ((((rd_T53 l0_0 x4_2).f1).length : Int) > 20)), (wrap64 (x4_2 + 1)), Rs, Rs, H', ⟨by have := HJ1.out; have := HK2.out; omega⟩, ⟨(Bk BK237)⟩, ⟨Bw⟩⟩
       rw [if_neg c15] at H
       exact absurd H (by simp)
      rw [if_neg c12] at H
      have c12b0 : decide (x4_2 < (l0_0.length : Int)) = false := decide_eq_false c12
      clear c12
      (first | rw [c12b0] | (simp only [i64_w, i32_w]; rw [c12b0]) | skip)
      have H' := Aside0.mk H
      clear H
      obtain ⟨hcz17_0, hcz17_1, hcz17_2, hcz17_3, hcz17_4, hfz17_0, hfz17_1, hfz17_2, hfz17_3, hfz17_4⟩ := cells5 BK237
      go_wp2
      go_meet
      case rel => exact ⟨_, (x3_2), Rs, H', ⟨by have := HJ1.out; have := HK2.out; first | omega | exact Nat.le_refl _⟩, ⟨(Bk BK237)⟩, ⟨Bw⟩⟩
   case rest =>
    clear HC11
    try clear c1
    try clear c2
    try clear p2
    try clear q2
    try clear hx2
    try clear c4
    try clear c4b0
    try clear c4b1
    try clear c6
    try clear c6b0
    try clear c6b1
    try clear p6
    try clear c8
    try clear c8b0
    try clear c8b1
    try clear c12
    try clear c12b0
    try clear c13
    try clear c15
    try clear c15b0
    try clear hcz10_0 hcz10_1 hcz10_2 hcz10_3 hcz10_4
    try clear hcz14_0 hcz14_1 hcz14_2 hcz14_3 hcz14_4
    try clear hcz16_0 hcz16_1 hcz16_2 hcz16_3 hcz16_4
    try clear hcz17_0 hcz17_1 hcz17_2 hcz17_3 hcz17_4
    try clear hcz5_0 hcz5_1 hcz5_2 hcz5_3 hcz5_4
    try clear hcz7_0 hcz7_1 hcz7_2 hcz7_3 hcz7_4
    try clear hcz9_0 hcz9_1 hcz9_2 hcz9_3 hcz9_4
    try clear hfz10_0 hfz10_1 hfz10_2 hfz10_3 hfz10_4
    try clear hfz14_0 hfz14_1 hfz14_2 hfz14_3 hfz14_4
    try clear hfz16_0 hfz16_1 hfz16_2 hfz16_3 hfz16_4
    try clear hfz17_0 hfz17_1 hfz17_2 hfz17_3 hfz17_4
    try clear hfz5_0 hfz5_1 hfz5_2 hfz5_3 hfz5_4
    try clear hfz7_0 hfz7_1 hfz7_2 hfz7_3 hfz7_4
    try clear hfz9_0 hfz9_1 hfz9_2 hfz9_3 hfz9_4
    try clear hx238_0
    try clear hx238_1
    try clear p2
    try clear p238
    try clear q238
    obtain ⟨kq, x3_10, rfl, HA, HJ10, BK237, HB⟩ := hcut
    cases kq with
    | zero => exact absurd HA.out (by simp [marginaliaref11_Check.j2])
    | succ kj10 =>
     have H := HA.out
     clear HA
     simp only [marginaliaref11_Check.j2] at H
     by_cases c18 : x3_10 = true
     ·subst c18
      have H1 : (some 4) = some r := by rw [if_pos rfl] at H; exact H
      clear H
      have H := H1
      clear H1
      obtain rfl := Option.some.inj H
      go_wp2
      go_ret
      exact ⟨Re, Bw⟩
     replace c18 := Bool.eq_false_iff.mpr c18
     subst c18
     have H1 : (if a0_4 ≥ 1 then (if a0_4 ≤ 60 then ((marginaliaref11_names.f kj10 l0_1).bind fun t239 => (if t239 = true then ((marginaliaref11_names.f kj10 l0_2).bind fun t240 => (if t240 = true then ((marginaliaref11_names.f kj10 l0_3).bind fun t241 => (marginaliaref11_Check.j3 kj10 t241 l0_0 l0_1 l0_2 l0_3 a0_4)) else (marginaliaref11_Check.j3 kj10 false l0_0 l0_1 l0_2 l0_3 a0_4))) else (marginaliaref11_Check.j3 kj10 false l0_0 l0_1 l0_2 l0_3 a0_4))) else (marginaliaref11_Check.j3 kj10 false l0_0 l0_1 l0_2 l0_3 a0_4)) else (marginaliaref11_Check.j3 kj10 false l0_0 l0_1 l0_2 l0_3 a0_4)) = some r := by rw [if_neg (show ¬ (false = true) by decide)] at H; exact H
     clear H
     have H := H1
     clear H1
     have HC19 := Aside0.mk H
     clear H
     go_upto_region 8 with (fail)
     go_cut [5] (fun v5 wc => ∃ (kq : Nat) (x5_18 : Bool), v5 = .bool x5_18 ∧ Aside0 (marginaliaref11_Check.j3 kq x5_18 l0_0 l0_1 l0_2 l0_3 a0_4 = some r) ∧ Aside0 (kq ≤ kj10) ∧ Aside0 (wc.heap[gb237]? = some (.cells #[(.slice A0_0 l0_0.length c0_0), (.slice A0_1 l0_1.length c0_1), (.slice A0_2 l0_2.length c0_2), (.slice A0_3 l0_3.length c0_3), .int .i64 a0_4] 25 (0, 0))) ∧ Aside0 (Below w.heap.size w wc))
     case first =>
      have H := HC19.out
      clear HC19
      by_cases c20 : a0_4 ≥ 1
      ·rw [if_pos c20] at H
       have c20b0 : decide (1 ≤ a0_4) = true := decide_eq_true c20
       clear c20
       (first | rw [c20b0] | (simp only [i64_w, i32_w]; rw [c20b0]) | skip)
       by_cases c21 : a0_4 ≤ 60
       ·rw [if_pos c21] at H
        have c21b0 : decide (a0_4 ≤ 60) = true := decide_eq_true c21
        clear c21
        replace H := Option.bind_eq_some_iff.mp H
        obtain ⟨t239, A220, H⟩ := H
        replace H : (if t239 = true then ((marginaliaref11_names.f kj10 l0_2).bind fun t240 => (if t240 = true then ((marginaliaref11_names.f kj10 l0_3).bind fun t241 => (marginaliaref11_Check.j3 kj10 t241 l0_0 l0_1 l0_2 l0_3 a0_4)) else (marginaliaref11_Check.j3 kj10 false l0_0 l0_1 l0_2 l0_3 a0_4))) else (marginaliaref11_Check.j3 kj10 false l0_0 l0_1 l0_2 l0_3 a0_4)) = some r := H
        have A22 := Aside0.mk A220
        clear A220
        by_cases c23 : t239 = true
        ·subst c23
         have H1 : ((marginaliaref11_names.f kj10 l0_2).bind fun t240 => (if t240 = true then ((marginaliaref11_names.f kj10 l0_3).bind fun t241 => (marginaliaref11_Check.j3 kj10 t241 l0_0 l0_1 l0_2 l0_3 a0_4)) else (marginaliaref11_Check.j3 kj10 false l0_0 l0_1 l0_2 l0_3 a0_4))) = some r := by rw [if_pos rfl] at H; exact H
         clear H
         have H := H1
         clear H1
         replace H := Option.bind_eq_some_iff.mp H
         obtain ⟨t240, A240, H⟩ := H
         replace H : (if t240 = true then ((marginaliaref11_names.f kj10 l0_3).bind fun t241 => (marginaliaref11_Check.j3 kj10 t241 l0_0 l0_1 l0_2 l0_3 a0_4)) else (marginaliaref11_Check.j3 kj10 false l0_0 l0_1 l0_2 l0_3 a0_4)) = some r := H
         have A24 := Aside0.mk A240
         clear A240
         by_cases c25 : t240 = true
         ·subst c25
          have H1 : ((marginaliaref11_names.f kj10 l0_3).bind fun t241 => (marginaliaref11_Check.j3 kj10 t241 l0_0 l0_1 l0_2 l0_3 a0_4)) = some r := by rw [if_pos rfl] at H; exact H
          clear H
          have H := H1
          clear H1
          replace H := Option.bind_eq_some_iff.mp H
          obtain ⟨t241, A260, H⟩ := H
          replace H : (marginaliaref11_Check.j3 kj10 t241 l0_0 l0_1 l0_2 l0_3 a0_4) = some r := H
          have A26 := Aside0.mk A260
          clear A260
          have H' := Aside0.mk H
          clear H
          obtain ⟨hcz27_0, hcz27_1, hcz27_2, hcz27_3, hcz27_4, hfz27_0, hfz27_1, hfz27_2, hfz27_3, hfz27_4⟩ := cells5 BK237
          go_wp2_with (first | (go_at_call 33; (with_reducible refine (marginaliaref11_names.calls kj10 _ _ l0_1 true _ (Cs HR0_1) HC0_1.out A22.out).mono ?_); rintro e w' ⟨rfl, ⟨nd, rfl⟩⟩) | (go_at_call 33; (with_reducible refine (marginaliaref11_names.calls kj10 _ _ l0_2 true _ ?side1 HC0_2.out A24.out).mono ?_); (case side1 => repeat (first | exact (Kd.C_below HR0_2.out Bw) | (with_reducible refine Kd.C_alloc ?_ _) | (with_reducible refine Kd.C_drewN ?_ _) | (with_reducible refine Kd.C_drew ?_))); rintro e w' ⟨rfl, ⟨nd, rfl⟩⟩) | (go_at_call 33; (with_reducible refine (marginaliaref11_names.calls kj10 _ _ l0_3 t241 _ ?side1 HC0_3.out A26.out).mono ?_); (case side1 => repeat (first | exact (Kd.C_below HR0_3.out Bw) | (with_reducible refine Kd.C_alloc ?_ _) | (with_reducible refine Kd.C_drewN ?_ _) | (with_reducible refine Kd.C_drew ?_))); rintro e w' ⟨rfl, ⟨nd, rfl⟩⟩))
          go_meet
          case rel => exact ⟨_, (t241), Rs, H', ⟨by have := HJ1.out; have := HJ10.out; first | omega | exact Nat.le_refl _⟩, ⟨(Bk BK237)⟩, ⟨Bw⟩⟩
         replace c25 := Bool.eq_false_iff.mpr c25
         subst c25
         have H1 : (marginaliaref11_Check.j3 kj10 false l0_0 l0_1 l0_2 l0_3 a0_4) = some r := by rw [if_neg (show ¬ (false = true) by decide)] at H; exact H
         clear H
         have H := H1
         clear H1
         have H' := Aside0.mk H
         clear H
         obtain ⟨hcz28_0, hcz28_1, hcz28_2, hcz28_3, hcz28_4, hfz28_0, hfz28_1, hfz28_2, hfz28_3, hfz28_4⟩ := cells5 BK237
         go_wp2_with (first | (go_at_call 33; (with_reducible refine (marginaliaref11_names.calls kj10 _ _ l0_1 true _ (Cs HR0_1) HC0_1.out A22.out).mono ?_); rintro e w' ⟨rfl, ⟨nd, rfl⟩⟩) | (go_at_call 33; (with_reducible refine (marginaliaref11_names.calls kj10 _ _ l0_2 false _ ?side1 HC0_2.out A24.out).mono ?_); (case side1 => repeat (first | exact (Kd.C_below HR0_2.out Bw) | (with_reducible refine Kd.C_alloc ?_ _) | (with_reducible refine Kd.C_drewN ?_ _) | (with_reducible refine Kd.C_drew ?_))); rintro e w' ⟨rfl, ⟨nd, rfl⟩⟩))
         go_meet
         case rel => exact ⟨_, (false), Rs, H', ⟨by have := HJ1.out; have := HJ10.out; first | omega | exact Nat.le_refl _⟩, ⟨(Bk BK237)⟩, ⟨Bw⟩⟩
        replace c23 := Bool.eq_false_iff.mpr c23
        subst c23
        have H1 : (marginaliaref11_Check.j3 kj10 false l0_0 l0_1 l0_2 l0_3 a0_4) = some r := by rw [if_neg (show ¬ (false = true) by decide)] at H; exact H
        clear H
        have H := H1
        clear H1
        have H' := Aside0.mk H
        clear H
        obtain ⟨hcz29_0, hcz29_1, hcz29_2, hcz29_3, hcz29_4, hfz29_0, hfz29_1, hfz29_2, hfz29_3, hfz29_4⟩ := cells5 BK237
        go_wp2_with (first | (go_at_call 33; (with_reducible refine (marginaliaref11_names.calls kj10 _ _ l0_1 false _ (Cs HR0_1) HC0_1.out A22.out).mono ?_); rintro e w' ⟨rfl, ⟨nd, rfl⟩⟩))
        go_meet
        case rel => exact ⟨_, (false), Rs, H', ⟨by have := HJ1.out; have := HJ10.out; first | omega | exact Nat.le_refl _⟩, ⟨(Bk BK237)⟩, ⟨Bw⟩⟩
       rw [if_neg c21] at H
       have c21b0 : decide (a0_4 ≤ 60) = false := decide_eq_false c21
       clear c21
       have H' := Aside0.mk H
       clear H
       obtain ⟨hcz30_0, hcz30_1, hcz30_2, hcz30_3, hcz30_4, hfz30_0, hfz30_1, hfz30_2, hfz30_3, hfz30_4⟩ := cells5 BK237
       go_wp2
       go_meet
       case rel => exact ⟨_, (false), Rs, H', ⟨by have := HJ1.out; have := HJ10.out; first | omega | exact Nat.le_refl _⟩, ⟨(Bk BK237)⟩, ⟨Bw⟩⟩
      rw [if_neg c20] at H
      have c20b0 : decide (1 ≤ a0_4) = false := decide_eq_false c20
      clear c20
      (first | rw [c20b0] | (simp only [i64_w, i32_w]; rw [c20b0]) | skip)
      have H' := Aside0.mk H
      clear H
      obtain ⟨hcz31_0, hcz31_1, hcz31_2, hcz31_3, hcz31_4, hfz31_0, hfz31_1, hfz31_2, hfz31_3, hfz31_4⟩ := cells5 BK237
      go_wp2
      go_meet
      case rel => exact ⟨_, (false), Rs, H', ⟨by have := HJ1.out; have := HJ10.out; first | omega | exact Nat.le_refl _⟩, ⟨(Bk BK237)⟩, ⟨Bw⟩⟩
     case rest =>
      clear HC19
      try clear c1
      try clear c2
      try clear p2
      try clear q2
      try clear hx2
      try clear c4
      try clear c4b0
      try clear c4b1
      try clear c6
      try clear c6b0
      try clear c6b1
      try clear p6
      try clear c8
      try clear c8b0
      try clear c8b1
      try clear c12
      try clear c12b0
      try clear c13
      try clear c15
      try clear c15b0
      try clear c18
      try clear c20
      try clear c20b0
      try clear c21
      try clear c21b0
      try clear c23
      try clear p23
      try clear q23
      try clear hx23
      try clear c25
      try clear hcz10_0 hcz10_1 hcz10_2 hcz10_3 hcz10_4
      try clear hcz14_0 hcz14_1 hcz14_2 hcz14_3 hcz14_4
      try clear hcz16_0 hcz16_1 hcz16_2 hcz16_3 hcz16_4
      try clear hcz17_0 hcz17_1 hcz17_2 hcz17_3 hcz17_4
      try clear hcz27_0 hcz27_1 hcz27_2 hcz27_3 hcz27_4
      try clear hcz28_0 hcz28_1 hcz28_2 hcz28_3 hcz28_4
      try clear hcz29_0 hcz29_1 hcz29_2 hcz29_3 hcz29_4
      try clear hcz30_0 hcz30_1 hcz30_2 hcz30_3 hcz30_4
      try clear hcz31_0 hcz31_1 hcz31_2 hcz31_3 hcz31_4
      try clear hcz5_0 hcz5_1 hcz5_2 hcz5_3 hcz5_4
      try clear hcz7_0 hcz7_1 hcz7_2 hcz7_3 hcz7_4
      try clear hcz9_0 hcz9_1 hcz9_2 hcz9_3 hcz9_4
      try clear hfz10_0 hfz10_1 hfz10_2 hfz10_3 hfz10_4
      try clear hfz14_0 hfz14_1 hfz14_2 hfz14_3 hfz14_4
      try clear hfz16_0 hfz16_1 hfz16_2 hfz16_3 hfz16_4
      try clear hfz17_0 hfz17_1 hfz17_2 hfz17_3 hfz17_4
      try clear hfz27_0 hfz27_1 hfz27_2 hfz27_3 hfz27_4
      try clear hfz28_0 hfz28_1 hfz28_2 hfz28_3 hfz28_4
      try clear hfz29_0 hfz29_1 hfz29_2 hfz29_3 hfz29_4
      try clear hfz30_0 hfz30_1 hfz30_2 hfz30_3 hfz30_4
      try clear hfz31_0 hfz31_1 hfz31_2 hfz31_3 hfz31_4
      try clear hfz5_0 hfz5_1 hfz5_2 hfz5_3 hfz5_4
      try clear hfz7_0 hfz7_1 hfz7_2 hfz7_3 hfz7_4
      try clear hfz9_0 hfz9_1 hfz9_2 hfz9_3 hfz9_4
      try clear hx238_0
      try clear hx238_1
      try clear p2
      try clear p238
      try clear p6
      try clear q2
      try clear q238
      obtain ⟨kq, x5_18, rfl, HA, HJ18, BK237, HB⟩ := hcut
      cases kq with
      | zero => exact absurd HA.out (by simp [marginaliaref11_Check.j3])
      | succ kj18 =>
       have H := HA.out
       clear HA
       simp only [marginaliaref11_Check.j3] at H
       have H' := Aside0.mk H
       clear H
       go_wp2
       go_loopg [5, 6] kj18 (fun kq v5 v6 w' => ∃ (x5_4 : Bool) (x6_4 : Int), v5 = .bool x5_4 ∧ v6 = .int .i64 x6_4 ∧ Aside0 (marginaliaref11_Check.l1 kq x5_4 x6_4 l0_0 l0_1 l0_2 l0_3 a0_4 = some r) ∧ Aside0 (kq ≤ kj18) ∧ Aside0 (w'.heap[gb237]? = some (.cells #[(.slice A0_0 l0_0.length c0_0), (.slice A0_1 l0_1.length c0_1), (.slice A0_2 l0_2.length c0_2), (.slice A0_3 l0_3.length c0_3), .int .i64 a0_4] 25 (0, 0))) ∧ Aside0 (Below w.heap.size w w'))
       case atStart => exact ⟨(x5_18), (0), Rs, Rs, H', ⟨Nat.le_refl _⟩, ⟨(Bk BK237)⟩, ⟨Bw⟩⟩
       case round =>
        clear H'
        try clear c1
        try clear c2
        try clear p2
        try clear q2
        try clear hx2
        try clear c4
        try clear c4b0
        try clear c4b1
        try clear c6
        try clear c6b0
        try clear c6b1
        try clear p6
        try clear c8
        try clear c8b0
        try clear c8b1
        try clear c12
        try clear c12b0
        try clear c13
        try clear c15
        try clear c15b0
        try clear c18
        try clear c20
        try clear c20b0
        try clear c21
        try clear c21b0
        try clear c23
        try clear p23
        try clear q23
        try clear hx23
        try clear c25
        try clear hcz10_0 hcz10_1 hcz10_2 hcz10_3 hcz10_4
        try clear hcz14_0 hcz14_1 hcz14_2 hcz14_3 hcz14_4
        try clear hcz16_0 hcz16_1 hcz16_2 hcz16_3 hcz16_4
        try clear hcz17_0 hcz17_1 hcz17_2 hcz17_3 hcz17_4
        try clear hcz27_0 hcz27_1 hcz27_2 hcz27_3 hcz27_4
        try clear hcz28_0 hcz28_1 hcz28_2 hcz28_3 hcz28_4
        try clear hcz29_0 hcz29_1 hcz29_2 hcz29_3 hcz29_4
        try clear hcz30_0 hcz30_1 hcz30_2 hcz30_3 hcz30_4
        try clear hcz31_0 hcz31_1 hcz31_2 hcz31_3 hcz31_4
        try clear hcz5_0 hcz5_1 hcz5_2 hcz5_3 hcz5_4
        try clear hcz7_0 hcz7_1 hcz7_2 hcz7_3 hcz7_4
        try clear hcz9_0 hcz9_1 hcz9_2 hcz9_3 hcz9_4
        try clear hfz10_0 hfz10_1 hfz10_2 hfz10_3 hfz10_4
        try clear hfz14_0 hfz14_1 hfz14_2 hfz14_3 hfz14_4
        try clear hfz16_0 hfz16_1 hfz16_2 hfz16_3 hfz16_4
        try clear hfz17_0 hfz17_1 hfz17_2 hfz17_3 hfz17_4
        try clear hfz27_0 hfz27_1 hfz27_2 hfz27_3 hfz27_4
        try clear hfz28_0 hfz28_1 hfz28_2 hfz28_3 hfz28_4
        try clear hfz29_0 hfz29_1 hfz29_2 hfz29_3 hfz29_4
        try clear hfz30_0 hfz30_1 hfz30_2 hfz30_3 hfz30_4
        try clear hfz31_0 hfz31_1 hfz31_2 hfz31_3 hfz31_4
        try clear hfz5_0 hfz5_1 hfz5_2 hfz5_3 hfz5_4
        try clear hfz7_0 hfz7_1 hfz7_2 hfz7_3 hfz7_4
        try clear hfz9_0 hfz9_1 hfz9_2 hfz9_3 hfz9_4
        try clear hx238_0
        try clear hx238_1
        try clear p2
        try clear p23
        try clear p238
        try clear p6
        try clear q2
        try clear q23
        try clear q238
        obtain ⟨x5_4, x6_4, rfl, rfl, HA, HK4, BK237, HB⟩ := hrel
        cases gk with
        | zero => exact absurd HA.out (by simp [marginaliaref11_Check.l1])
        | succ k4 =>
         have H := HA.out
         clear HA
         simp only [marginaliaref11_Check.l1] at H
         by_cases c32 : x6_4 < (l0_0.length : Int)
         ·rw [if_pos c32] at H
          have c32b0 : decide (x6_4 < (l0_0.length : Int)) = true := decide_eq_true c32
          clear c32
          have H' := Aside0.mk H
          clear H
          obtain ⟨hcz33_0, hcz33_1, hcz33_2, hcz33_3, hcz33_4, hfz33_0, hfz33_1, hfz33_2, hfz33_3, hfz33_4⟩ := cells5 BK237
          go_wp2
          go_loopg [5, 7] k4 (fun kq v5 v7 w' => ∃ (x5_5 : Bool) (x7_5 : Int), v5 = .bool x5_5 ∧ v7 = .int .i64 x7_5 ∧ Aside0 (marginaliaref11_Check.l2 kq x5_5 x6_4 x7_5 l0_0 l0_1 l0_2 l0_3 a0_4 = some r) ∧ Aside0 (kq ≤ k4) ∧ Aside0 (w'.heap[gb237]? = some (.cells #[(.slice A0_0 l0_0.length c0_0), (.slice A0_1 l0_1.length c0_1), (.slice A0_2 l0_2.length c0_2), (.slice A0_3 l0_3.length c0_3), .int .i64 a0_4] 25 (0, 0))) ∧ Aside0 (Below w.heap.size w w'))
          case atStart => exact ⟨(x5_4), (0), Rs, Rs, H', ⟨Nat.le_refl _⟩, ⟨(Bk BK237)⟩, ⟨Bw⟩⟩
          case round =>
           clear H'
           try clear c1
           try clear c2
           try clear p2
           try clear q2
           try clear hx2
           try clear c3
           try clear c4
           try clear c4b0
           try clear c4b1
           try clear c6
           try clear c6b0
           try clear c6b1
           try clear p6
           try clear c8
           try clear c8b0
           try clear c8b1
           try clear c12
           try clear c12b0
           try clear c13
           try clear c15
           try clear c15b0
           try clear c18
           try clear c20
           try clear c20b0
           try clear c21
           try clear c21b0
           try clear c23
           try clear p23
           try clear q23
           try clear hx23
           try clear c25
           try clear c32
           try clear c32b0
           try clear hcz10_0 hcz10_1 hcz10_2 hcz10_3 hcz10_4
           try clear hcz14_0 hcz14_1 hcz14_2 hcz14_3 hcz14_4
           try clear hcz16_0 hcz16_1 hcz16_2 hcz16_3 hcz16_4
           try clear hcz17_0 hcz17_1 hcz17_2 hcz17_3 hcz17_4
           try clear hcz27_0 hcz27_1 hcz27_2 hcz27_3 hcz27_4
           try clear hcz28_0 hcz28_1 hcz28_2 hcz28_3 hcz28_4
           try clear hcz29_0 hcz29_1 hcz29_2 hcz29_3 hcz29_4
           try clear hcz30_0 hcz30_1 hcz30_2 hcz30_3 hcz30_4
           try clear hcz31_0 hcz31_1 hcz31_2 hcz31_3 hcz31_4
           try clear hcz33_0 hcz33_1 hcz33_2 hcz33_3 hcz33_4
           try clear hcz5_0 hcz5_1 hcz5_2 hcz5_3 hcz5_4
           try clear hcz7_0 hcz7_1 hcz7_2 hcz7_3 hcz7_4
           try clear hcz9_0 hcz9_1 hcz9_2 hcz9_3 hcz9_4
           try clear hfz10_0 hfz10_1 hfz10_2 hfz10_3 hfz10_4
           try clear hfz14_0 hfz14_1 hfz14_2 hfz14_3 hfz14_4
           try clear hfz16_0 hfz16_1 hfz16_2 hfz16_3 hfz16_4
           try clear hfz17_0 hfz17_1 hfz17_2 hfz17_3 hfz17_4
           try clear hfz27_0 hfz27_1 hfz27_2 hfz27_3 hfz27_4
           try clear hfz28_0 hfz28_1 hfz28_2 hfz28_3 hfz28_4
           try clear hfz29_0 hfz29_1 hfz29_2 hfz29_3 hfz29_4
           try clear hfz30_0 hfz30_1 hfz30_2 hfz30_3 hfz30_4
           try clear hfz31_0 hfz31_1 hfz31_2 hfz31_3 hfz31_4
           try clear hfz33_0 hfz33_1 hfz33_2 hfz33_3 hfz33_4
           try clear hfz5_0 hfz5_1 hfz5_2 hfz5_3 hfz5_4
           try clear hfz7_0 hfz7_1 hfz7_2 hfz7_3 hfz7_4
           try clear hfz9_0 hfz9_1 hfz9_2 hfz9_3 hfz9_4
           try clear hx238_0
           try clear hx238_1
           try clear p2
           try clear p23
           try clear p238
           try clear p6
           try clear q2
           try clear q23
           try clear q238
           obtain ⟨x5_5, x7_5, rfl, rfl, HA, HK5, BK237, HB⟩ := hrel
           cases gk with
           | zero => exact absurd HA.out (by simp [marginaliaref11_Check.l2])
           | succ k5 =>
            have H := HA.out
            clear HA
            simp only [marginaliaref11_Check.l2] at H
            by_cases c34 : x7_5 < x6_4
            ·rw [if_pos c34] at H
             have c34b0 : decide (x7_5 < x6_4) = true := decide_eq_true c34
             clear c34
             by_cases c35 : x5_5 = true
             ·subst c35
              have H1 : (if 0 ≤ x7_5 then (if x7_5 < (l0_0.length : Int) then (if 0 ≤ x6_4 then (if x6_4 < (l0_0.length : Int) then (marginaliaref11_Check.l2 k5 (((rd_T53 l0_0 x7_5).f0).toList != ((rd_T53 l0_0 x6_4).f0).toList) x6_4 (wrap64 (x7_5 + 1)) l0_0 l0_1 l0_2 l0_3 a0_4) else (none)) else (none)) else (none)) else (none)) = some r := by rw [if_pos rfl] at H; exact H
              clear H
              have H := H1
              clear H1
              by_cases c36 : 0 ≤ x7_5
              ·rw [if_pos c36] at H
               have c36b0 : decide (0 ≤ x7_5) = true := decide_eq_true c36
               clear c36
               by_cases c37 : x7_5 < (l0_0.length : Int)
               ·rw [if_pos c37] at H
                have c37b0 : decide (x7_5 < (l0_0.length : Int)) = true := decide_eq_true c37
                clear c37
                by_cases c38 : 0 ≤ x6_4
                ·rw [if_pos c38] at H
                 have c38b0 : decide (0 ≤ x6_4) = true := decide_eq_true c38
                 clear c38
                 by_cases c39 : x6_4 < (l0_0.length : Int)
                 ·rw [if_pos c39] at H
                  have c39b0 : decide (x6_4 < (l0_0.length : Int)) = true := decide_eq_true c39
                  clear c39
                  have H' := Aside0.mk H
                  clear H
                  try go_wp2
                  replace BK237 := Aside0.mk (blk_drew BK237.out)
                  replace HB := Aside0.mk (below_drew1 HB.out)
                  have p242 : 0 ≤ (x7_5 : Int) := of_decide_eq_true Dt
                  have q242 : x7_5 < (l0_0.length : Int) := of_decide_eq_true Dt
                  obtain ⟨ad242, A242_1, c242_1, e242, hx242_0, hx242_1, hl242_1, hi242_1⟩ := at_T53 HR0_0.out x7_5 p242 q242
                  have hw242_1 := hx242_1
                  have hw242_0 := hx242_0
                  cases e242
                  replace hx242_0 := Hx hx242_0
                  replace hx242_1 := Hx hx242_1
                  have HR242_1 := Aside0.mk hi242_1
                  have HC242_1 := Aside0.mk hl242_1
                  clear hi242_1 hl242_1
                  replace p242 := eq_true p242
                  replace q242 := eq_true q242
                  have p243 : 0 ≤ (x6_4 : Int) := of_decide_eq_true Dt
                  have q243 : x6_4 < (l0_0.length : Int) := of_decide_eq_true Dt
                  obtain ⟨ad243, A243_1, c243_1, e243, hx243_0, hx243_1, hl243_1, hi243_1⟩ := at_T53 HR0_0.out x6_4 p243 q243
                  have hw243_1 := hx243_1
                  have hw243_0 := hx243_0
                  obtain rfl : ad242 = ad243 := (by injection e243)
                  replace hx243_0 := Hx hx243_0
                  replace hx243_1 := Hx hx243_1
                  have HR243_1 := Aside0.mk hi243_1
                  have HC243_1 := Aside0.mk hl243_1
                  clear hi243_1 hl243_1
                  replace p243 := eq_true p243
                  replace q243 := eq_true q243
                  refine start_ (n := 17) (S := fun w' => w'.cell? ⟨gb237, 0, none⟩ = some (.slice (some ad242) l0_0.length c0_0) ∧ w'.cell? ⟨gb237, 1, none⟩ = some (.slice A0_1 l0_1.length c0_1) ∧ w'.cell? ⟨gb237, 2, none⟩ = some (.slice A0_2 l0_2.length c0_2) ∧ w'.cell? ⟨gb237, 3, none⟩ = some (.slice A0_3 l0_3.length c0_3) ∧ w'.cell? ⟨gb237, 4, none⟩ = some (.int .i64 a0_4) ∧ w'.cell? (ad242.add ((x7_5).toNat * 2)) = some (.string ((rd_T53 l0_0 x7_5).f0)) ∧ w'.cell? ⟨(ad242.add ((x7_5).toNat * 2)).block, (ad242.add ((x7_5).toNat * 2)).off + 1, none⟩ = some (.slice A242_1 ((rd_T53 l0_0 x7_5).f1).length c242_1) ∧ w'.cell? (ad242.add ((x6_4).toNat * 2)) = some (.string ((rd_T53 l0_0 x6_4).f0)) ∧ w'.cell? ⟨(ad242.add ((x6_4).toNat * 2)).block, (ad242.add ((x6_4).toNat * 2)).off + 1, none⟩ = some (.slice A243_1 ((rd_T53 l0_0 x6_4).f1).length c243_1)) (ds := []) #[false, false, false, false, false, false, false, false, false, false, false, false, false, false, false, false, false] (by kernel_rfl) rfl rfl ⟨(blk_cell BK237.out 0).trans rfl, (blk_cell BK237.out 1).trans rfl, (blk_cell BK237.out 2).trans rfl, (blk_cell BK237.out 3).trans rfl, (blk_cell BK237.out 4).trans rfl, ((HB.out.cell (World.block_lt_of_cell? w _ hw242_0)).trans hw242_0), ((HB.out.cell (World.block_lt_of_cell? w _ hw242_1)).trans hw242_1), ((HB.out.cell (World.block_lt_of_cell? w _ hw243_0)).trans hw243_0), ((HB.out.cell (World.block_lt_of_cell? w _ hw243_1)).trans hw243_1)⟩ (fun hHeld => ?_); refine with_tabW marginaliaref11_Check.tab15 marginaliaref11_Check.bits15 (fun HT_ HW_ => ?_)
                  generalize wr.drew = w40 at BK237 HB HR242_1 HR243_1 hx242_0 hx242_1 hx243_0 hx243_1 hHeld ⊢
                  refine pureS 0 85 #[true, false, false, false, false, false, false, false, false, false, false, false, false, false, false, false, false] ?_
                  refine pureS 1 86 #[true, true, false, false, false, false, false, false, false, false, false, false, false, false, false, false, false] ?_
                  refine pureS 2 87 #[true, true, true, false, false, false, false, false, false, false, false, false, false, false, false, false, false] ?_
                  refine pureS 4 89 #[true, true, true, false, true, false, false, false, false, false, false, false, false, false, false, false, false] ?_
                  refine pureS 8 93 #[true, true, true, false, true, false, false, false, true, false, false, false, false, false, false, false, false] ?_
                  refine pureS 10 95 #[true, true, true, false, true, false, false, false, true, false, true, false, false, false, false, false, false] ?_
                  refine take_ (i := 3) (N := some 88) (v := ?_) (a' := ?_) #[true, true, true, true, true, false, false, false, true, false, true, false, false, false, false, false, false] rfl rfl (take_ofW HT_.out HW_.out (by kernel_rfl)) (fun _ _ _ h => h) (Or.inl ⟨by rfl, ?_⟩) hHeld ?_ ?_
                  rotate_left
                  ·rintro w' ⟨s0, s1, s2, s3, s4, s5, s6, s7, s8⟩
                   go_simp
                   with_reducible rfl
                  rotate_left
                  ·simp only [Act.put, List.setIfInBounds_toArray, List.set_cons_zero, List.set_cons_succ, i64_w, i32_w]
                   rfl
                  refine pureS 5 90 #[true, true, true, true, true, true, false, false, true, false, true, false, false, false, false, false, false] ?_
                  refine pureS 6 91 #[true, true, true, true, true, true, true, false, true, false, true, false, false, false, false, false, false] ?_
                  refine take_ (i := 7) (N := some 92) (v := ?_) (a' := ?_) #[true, true, true, true, true, true, true, true, true, false, true, false, false, false, false, false, false] rfl rfl (take_ofW HT_.out HW_.out (by kernel_rfl)) (fun _ _ _ h => h) (Or.inl ⟨by rfl, ?_⟩) hHeld ?_ ?_
                  rotate_left
                  ·rintro w' ⟨s0, s1, s2, s3, s4, s5, s6, s7, s8⟩
                   go_simp
                   with_reducible rfl
                  rotate_left
                  ·simp only [Act.put, List.setIfInBounds_toArray, List.set_cons_zero, List.set_cons_succ, i64_w, i32_w]
                   rfl
                  refine take_ (i := 9) (N := some 94) (v := ?_) (a' := ?_) #[true, true, true, true, true, true, true, true, true, true, true, false, false, false, false, false, false] rfl rfl (take_ofW HT_.out HW_.out (by kernel_rfl)) (fun _ _ _ h => h) (Or.inl ⟨by rfl, ?_⟩) hHeld ?_ ?_
                  rotate_left
                  ·rintro w' ⟨s0, s1, s2, s3, s4, s5, s6, s7, s8⟩
                   go_simp
                   with_reducible rfl
                  rotate_left
                  ·simp only [Act.put, List.setIfInBounds_toArray, List.set_cons_zero, List.set_cons_succ, i64_w, i32_w]
                   rfl
                  refine pureS 11 96 #[true, true, true, true, true, true, true, true, true, true, true, true, false, false, false, false, false] ?_
                  refine pureS 12 97 #[true, true, true, true, true, true, true, true, true, true, true, true, true, false, false, false, false] ?_
                  refine take_ (i := 13) (N := some 98) (v := ?_) (a' := ?_) #[true, true, true, true, true, true, true, true, true, true, true, true, true, true, false, false, false] rfl rfl (take_ofW HT_.out HW_.out (by kernel_rfl)) (fun _ _ _ h => h) (Or.inl ⟨by rfl, ?_⟩) hHeld ?_ ?_
                  rotate_left
                  ·rintro w' ⟨s0, s1, s2, s3, s4, s5, s6, s7, s8⟩
                   go_simp
                   with_reducible rfl
                  rotate_left
                  ·simp only [Act.put, List.setIfInBounds_toArray, List.set_cons_zero, List.set_cons_succ, i64_w, i32_w]
                   rfl
                  refine pureS 14 99 #[true, true, true, true, true, true, true, true, true, true, true, true, true, true, true, false, false] ?_
                  refine pureS 15 100 #[true, true, true, true, true, true, true, true, true, true, true, true, true, true, true, true, false] ?_
                  refine pureS 16 5 #[true, true, true, true, true, true, true, true, true, true, true, true, true, true, true, true, true] ?_
                  refine done_ (done_of HT_.out (by kernel_rfl)) ?_
                  try go_wp2
                  go_roundg k5
                  case measure => have := HJ1.out; have := HJ10.out; have := HJ18.out; have := HK4.out; have := HK5.out; omega
                  case rel => exact ⟨((((rd_T53 l0_0 x7_5).f0).toList != ((rd_T53 l0_0 x6_4).f0).toList)), (wrap64 (x7_5 + 1)), Rs, Rs, H', ⟨by have := HJ1.out; have := HJ10.out; have := HJ18.out; have := HK4.out; have := HK5.out; omega⟩, ⟨(Bk BK237)⟩, ⟨Bw⟩⟩
                 rw [if_neg c39] at H
                 exact absurd H (by simp)
                rw [if_neg c38] at H
                exact absurd H (by simp)
               rw [if_neg c37] at H
               exact absurd H (by simp)
              rw [if_neg c36] at H
              exact absurd H (by simp)
             replace c35 := Bool.eq_false_iff.mpr c35
             subst c35
             have H1 : (marginaliaref11_Check.l2 k5 false x6_4 (wrap64 (x7_5 + 1)) l0_0 l0_1 l0_2 l0_3 a0_4) = some r := by rw [if_neg (show ¬ (false = true) by decide)] at H; exact H
             clear H
             have H := H1
             clear H1
             have H' := Aside0.mk H
             clear H
             try go_wp2
             replace BK237 := Aside0.mk (blk_drew BK237.out)
             replace HB := Aside0.mk (below_drew1 HB.out)
             refine start_ (n := 17) (S := fun w' => True) (ds := []) #[false, false, false, false, false, false, false, false, false, false, false, false, false, false, false, false, false] (by kernel_rfl) rfl rfl trivial (fun hHeld => ?_); refine with_tabW marginaliaref11_Check.tab15 marginaliaref11_Check.bits15 (fun HT_ HW_ => ?_)
             generalize wr.drew = w41 at BK237 HB hHeld ⊢
             refine pureS 0 85 #[true, false, false, false, false, false, false, false, false, false, false, false, false, false, false, false, false] ?_
             refine pureS 1 86 #[true, true, false, false, false, false, false, false, false, false, false, false, false, false, false, false, false] ?_
             refine pureU 2 87 #[true, true, true, false, false, false, false, false, false, false, false, false, false, false, false, false, false] ?_
             refine pureU 3 88 #[true, true, true, true, false, false, false, false, false, false, false, false, false, false, false, false, false] ?_
             refine pureU 4 89 #[true, true, true, true, true, false, false, false, false, false, false, false, false, false, false, false, false] ?_
             refine pureU 5 90 #[true, true, true, true, true, true, false, false, false, false, false, false, false, false, false, false, false] ?_
             refine pureU 6 91 #[true, true, true, true, true, true, true, false, false, false, false, false, false, false, false, false, false] ?_
             refine pureU 7 92 #[true, true, true, true, true, true, true, true, false, false, false, false, false, false, false, false, false] ?_
             refine pureU 8 93 #[true, true, true, true, true, true, true, true, true, false, false, false, false, false, false, false, false] ?_
             refine pureU 9 94 #[true, true, true, true, true, true, true, true, true, true, false, false, false, false, false, false, false] ?_
             refine pureU 10 95 #[true, true, true, true, true, true, true, true, true, true, true, false, false, false, false, false, false] ?_
             refine pureU 11 96 #[true, true, true, true, true, true, true, true, true, true, true, true, false, false, false, false, false] ?_
             refine pureU 12 97 #[true, true, true, true, true, true, true, true, true, true, true, true, true, false, false, false, false] ?_
             refine pureU 13 98 #[true, true, true, true, true, true, true, true, true, true, true, true, true, true, false, false, false] ?_
             refine pureU 14 99 #[true, true, true, true, true, true, true, true, true, true, true, true, true, true, true, false, false] ?_
             refine pureS 15 100 #[true, true, true, true, true, true, true, true, true, true, true, true, true, true, true, true, false] ?_
             refine pureS 16 5 #[true, true, true, true, true, true, true, true, true, true, true, true, true, true, true, true, true] ?_
             refine done_ (done_of HT_.out (by kernel_rfl)) ?_
             try go_wp2
             go_roundg k5
             case measure => have := HJ1.out; have := HJ10.out; have := HJ18.out; have := HK4.out; have := HK5.out; omega
             case rel => exact ⟨(false), (wrap64 (x7_5 + 1)), Rs, Rs, H', ⟨by have := HJ1.out; have := HJ10.out; have := HJ18.out; have := HK4.out; have := HK5.out; omega⟩, ⟨(Bk BK237)⟩, ⟨Bw⟩⟩
            rw [if_neg c34] at H
            have c34b0 : decide (x7_5 < x6_4) = false := decide_eq_false c34
            clear c34
            by_cases c42 : x5_5 = true
            ·subst c42
             have H1 : (if 0 ≤ x6_4 then (if x6_4 < (l0_0.length : Int) then ((marginaliaref11_rule.f k5 ((rd_T53 l0_0 x6_4).f0) ((rd_T53 l0_0 x6_4).f1)).bind fun t245 => (if t245 = true then ((marginaliaref11_in.f k5 l0_3 ((rd_T53 l0_0 x6_4).f0)).bind fun t247 => (marginaliaref11_Check.l1 k5 (!t247) (wrap64 (x6_4 + 1)) l0_0 l0_1 l0_2 l0_3 a0_4)) else (marginaliaref11_Check.l1 k5 false (wrap64 (x6_4 + 1)) l0_0 l0_1 l0_2 l0_3 a0_4))) else (none)) else (none)) = some r := by rw [if_pos rfl] at H; exact H
             clear H
             have H := H1
             clear H1
             by_cases c43 : 0 ≤ x6_4
             ·rw [if_pos c43] at H
              have c43b0 : decide (0 ≤ x6_4) = true := decide_eq_true c43
              clear c43
              by_cases c44 : x6_4 < (l0_0.length : Int)
              ·rw [if_pos c44] at H
               have c44b0 : decide (x6_4 < (l0_0.length : Int)) = true := decide_eq_true c44
               clear c44
               replace H := Option.bind_eq_some_iff.mp H
               obtain ⟨t245, A450, H⟩ := H
               replace H : (if t245 = true then ((marginaliaref11_in.f k5 l0_3 ((rd_T53 l0_0 x6_4).f0)).bind fun t247 => (marginaliaref11_Check.l1 k5 (!t247) (wrap64 (x6_4 + 1)) l0_0 l0_1 l0_2 l0_3 a0_4)) else (marginaliaref11_Check.l1 k5 false (wrap64 (x6_4 + 1)) l0_0 l0_1 l0_2 l0_3 a0_4)) = some r := H
               have A45 := Aside0.mk A450
               clear A450
               by_cases c46 : t245 = true
               ·subst c46
                have H1 : ((marginaliaref11_in.f k5 l0_3 ((rd_T53 l0_0 x6_4).f0)).bind fun t247 => (marginaliaref11_Check.l1 k5 (!t247) (wrap64 (x6_4 + 1)) l0_0 l0_1 l0_2 l0_3 a0_4)) = some r := by rw [if_pos rfl] at H; exact H
                clear H
                have H := H1
                clear H1
                replace H := Option.bind_eq_some_iff.mp H
                obtain ⟨t247, A470, H⟩ := H
                replace H : (marginaliaref11_Check.l1 k5 (!t247) (wrap64 (x6_4 + 1)) l0_0 l0_1 l0_2 l0_3 a0_4) = some r := H
                have A47 := Aside0.mk A470
                clear A470
                have H' := Aside0.mk H
                clear H
                try go_wp2
                replace BK237 := Aside0.mk (blk_drew BK237.out)
                replace HB := Aside0.mk (below_drew1 HB.out)
                have p244 : 0 ≤ (x6_4 : Int) := of_decide_eq_true Dt
                have q244 : x6_4 < (l0_0.length : Int) := of_decide_eq_true Dt
                obtain ⟨ad244, A244_1, c244_1, e244, hx244_0, hx244_1, hl244_1, hi244_1⟩ := at_T53 HR0_0.out x6_4 p244 q244
                have hw244_1 := hx244_1
                have hw244_0 := hx244_0
                cases e244
                replace hx244_0 := Hx hx244_0
                replace hx244_1 := Hx hx244_1
                have HR244_1 := Aside0.mk hi244_1
                have HC244_1 := Aside0.mk hl244_1
                clear hi244_1 hl244_1
                replace p244 := eq_true p244
                replace q244 := eq_true q244
                have p246 : 0 ≤ (x6_4 : Int) := of_decide_eq_true Dt
                have q246 : x6_4 < (l0_0.length : Int) := of_decide_eq_true Dt
                obtain ⟨ad246, A246_1, c246_1, e246, hx246_0, hx246_1, hl246_1, hi246_1⟩ := at_T53 HR0_0.out x6_4 p246 q246
                have hw246_1 := hx246_1
                have hw246_0 := hx246_0
                obtain rfl : ad244 = ad246 := (by injection e246)
                replace hx246_0 := Hx hx246_0
                replace hx246_1 := Hx hx246_1
                have HR246_1 := Aside0.mk hi246_1
                have HC246_1 := Aside0.mk hl246_1
                clear hi246_1 hl246_1
                replace p246 := eq_true p246
                replace q246 := eq_true q246
                refine start_ (n := 22) (S := fun w' => w'.cell? ⟨gb237, 0, none⟩ = some (.slice (some ad244) l0_0.length c0_0) ∧ w'.cell? ⟨gb237, 1, none⟩ = some (.slice A0_1 l0_1.length c0_1) ∧ w'.cell? ⟨gb237, 2, none⟩ = some (.slice A0_2 l0_2.length c0_2) ∧ w'.cell? ⟨gb237, 3, none⟩ = some (.slice A0_3 l0_3.length c0_3) ∧ w'.cell? ⟨gb237, 4, none⟩ = some (.int .i64 a0_4) ∧ w'.cell? (ad244.add ((x6_4).toNat * 2)) = some (.string ((rd_T53 l0_0 x6_4).f0)) ∧ w'.cell? ⟨(ad244.add ((x6_4).toNat * 2)).block, (ad244.add ((x6_4).toNat * 2)).off + 1, none⟩ = some (.slice A244_1 ((rd_T53 l0_0 x6_4).f1).length c244_1) ∧ w'.cell? (ad244.add ((x6_4).toNat * 2)) = some (.string ((rd_T53 l0_0 x6_4).f0)) ∧ w'.cell? ⟨(ad244.add ((x6_4).toNat * 2)).block, (ad244.add ((x6_4).toNat * 2)).off + 1, none⟩ = some (.slice A246_1 ((rd_T53 l0_0 x6_4).f1).length c246_1)) (ds := []) #[false, false, false, false, false, false, false, false, false, false, false, false, false, false, false, false, false, false, false, false, false, false] (by kernel_rfl) rfl rfl ⟨(blk_cell BK237.out 0).trans rfl, (blk_cell BK237.out 1).trans rfl, (blk_cell BK237.out 2).trans rfl, (blk_cell BK237.out 3).trans rfl, (blk_cell BK237.out 4).trans rfl, ((HB.out.cell (World.block_lt_of_cell? w _ hw244_0)).trans hw244_0), ((HB.out.cell (World.block_lt_of_cell? w _ hw244_1)).trans hw244_1), ((HB.out.cell (World.block_lt_of_cell? w _ hw246_0)).trans hw246_0), ((HB.out.cell (World.block_lt_of_cell? w _ hw246_1)).trans hw246_1)⟩ (fun hHeld => ?_); refine with_tabW marginaliaref11_Check.tab16 marginaliaref11_Check.bits16 (fun HT_ HW_ => ?_)
                generalize wr.drew = w48 at BK237 HB HR244_1 HR246_1 hx244_0 hx244_1 hx246_0 hx246_1 hHeld ⊢
                refine pureS 0 101 #[true, false, false, false, false, false, false, false, false, false, false, false, false, false, false, false, false, false, false, false, false, false] ?_
                refine pureS 1 102 #[true, true, false, false, false, false, false, false, false, false, false, false, false, false, false, false, false, false, false, false, false, false] ?_
                refine pureS 2 103 #[true, true, true, false, false, false, false, false, false, false, false, false, false, false, false, false, false, false, false, false, false, false] ?_
                refine pureS 4 105 #[true, true, true, false, true, false, false, false, false, false, false, false, false, false, false, false, false, false, false, false, false, false] ?_
                refine take_ (i := 3) (N := some 104) (v := ?_) (a' := ?_) #[true, true, true, true, true, false, false, false, false, false, false, false, false, false, false, false, false, false, false, false, false, false] rfl rfl (take_ofW HT_.out HW_.out (by kernel_rfl)) (fun _ _ _ h => h) (Or.inl ⟨by rfl, ?_⟩) hHeld ?_ ?_
                rotate_left
                ·rintro w' ⟨s0, s1, s2, s3, s4, s5, s6, s7, s8⟩
                 go_simp
                 with_reducible rfl
                rotate_left
                ·simp only [Act.put, List.setIfInBounds_toArray, List.set_cons_zero, List.set_cons_succ, i64_w, i32_w]
                 rfl
                refine pureS 5 106 #[true, true, true, true, true, true, false, false, false, false, false, false, false, false, false, false, false, false, false, false, false, false] ?_
                refine take_ (i := 6) (N := some 107) (v := ?_) (a' := ?_) #[true, true, true, true, true, true, true, false, false, false, false, false, false, false, false, false, false, false, false, false, false, false] rfl rfl (take_ofW HT_.out HW_.out (by kernel_rfl)) (fun _ _ _ h => h) (Or.inl ⟨by rfl, ?_⟩) hHeld ?_ ?_
                rotate_left
                ·rintro w' ⟨s0, s1, s2, s3, s4, s5, s6, s7, s8⟩
                 go_simp
                 with_reducible rfl
                rotate_left
                ·simp only [Act.put, List.setIfInBounds_toArray, List.set_cons_zero, List.set_cons_succ, i64_w, i32_w]
                 rfl
                refine one_ (i := 7) (N := some 108) #[true, true, true, true, true, true, true, true, false, false, false, false, false, false, false, false, false, false, false, false, false, false] rfl rfl (one_of HT_.out (by kernel_rfl)) (by decide) (fun K hK => ?_)
                refine goG Tryd.func34 #[.agg #[.string ((rd_T53 l0_0 x6_4).f0), .slice A244_1 ((rd_T53 l0_0 x6_4).f1).length c244_1]] ?_
                with_reducible refine (marginaliaref11_rule.calls k5 ((rd_T53 l0_0 x6_4).f0) _ _ ((rd_T53 l0_0 x6_4).f1) true _ (Cs HR244_1) HC244_1.out A45.out).mono ?_
                rintro e w49 ⟨rfl, hb⟩
                refine ⟨_, rfl, ?_⟩
                replace BK237 := Aside0.mk (blk_below (Bk BK237) hb)
                replace HB := Aside0.mk (below_step Bw hb)
                (try clear hb)
                (try clear hb2)
                (try clear hk)
                (try clear hi)
                refine hK.out _ _ ⟨(blk_cell BK237.out 0).trans rfl, (blk_cell BK237.out 1).trans rfl, (blk_cell BK237.out 2).trans rfl, (blk_cell BK237.out 3).trans rfl, (blk_cell BK237.out 4).trans rfl, ((HB.out.cell (World.block_lt_of_cell? w _ hw244_0)).trans hw244_0), ((HB.out.cell (World.block_lt_of_cell? w _ hw244_1)).trans hw244_1), ((HB.out.cell (World.block_lt_of_cell? w _ hw246_0)).trans hw246_0), ((HB.out.cell (World.block_lt_of_cell? w _ hw246_1)).trans hw246_1)⟩ (fun hHeld => ?_)
                clear hK K
                refine norm_ (a' := ?_) ?_ ?_
                rotate_left
                ·show Act.put _ (some 108) _ = _
                 simp only [Act.put, List.setIfInBounds_toArray, List.set_cons_zero, List.set_cons_succ, i64_w, i32_w]
                 rfl
                refine pureS 8 109 #[true, true, true, true, true, true, true, true, true, false, false, false, false, false, false, false, false, false, false, false, false, false] ?_
                refine pureS 9 110 #[true, true, true, true, true, true, true, true, true, true, false, false, false, false, false, false, false, false, false, false, false, false] ?_
                refine pureS 10 111 #[true, true, true, true, true, true, true, true, true, true, true, false, false, false, false, false, false, false, false, false, false, false] ?_
                refine pureS 12 113 #[true, true, true, true, true, true, true, true, true, true, true, false, true, false, false, false, false, false, false, false, false, false] ?_
                refine pureS 14 115 #[true, true, true, true, true, true, true, true, true, true, true, false, true, false, true, false, false, false, false, false, false, false] ?_
                refine take_ (i := 11) (N := some 112) (v := ?_) (a' := ?_) #[true, true, true, true, true, true, true, true, true, true, true, true, true, false, true, false, false, false, false, false, false, false] rfl rfl (take_ofW HT_.out HW_.out (by kernel_rfl)) (fun _ _ _ h => h) (Or.inl ⟨by rfl, ?_⟩) hHeld ?_ ?_
                rotate_left
                ·rintro w' ⟨s0, s1, s2, s3, s4, s5, s6, s7, s8⟩
                 go_simp
                 with_reducible rfl
                rotate_left
                ·simp only [Act.put, List.setIfInBounds_toArray, List.set_cons_zero, List.set_cons_succ, i64_w, i32_w]
                 rfl
                refine take_ (i := 13) (N := some 114) (v := ?_) (a' := ?_) #[true, true, true, true, true, true, true, true, true, true, true, true, true, true, true, false, false, false, false, false, false, false] rfl rfl (take_ofW HT_.out HW_.out (by kernel_rfl)) (fun _ _ _ h => h) (Or.inl ⟨by rfl, ?_⟩) hHeld ?_ ?_
                rotate_left
                ·rintro w' ⟨s0, s1, s2, s3, s4, s5, s6, s7, s8⟩
                 go_simp
                 with_reducible rfl
                rotate_left
                ·simp only [Act.put, List.setIfInBounds_toArray, List.set_cons_zero, List.set_cons_succ, i64_w, i32_w]
                 rfl
                refine pureS 15 116 #[true, true, true, true, true, true, true, true, true, true, true, true, true, true, true, true, false, false, false, false, false, false] ?_
                refine pureS 16 117 #[true, true, true, true, true, true, true, true, true, true, true, true, true, true, true, true, true, false, false, false, false, false] ?_
                refine take_ (i := 17) (N := some 118) (v := ?_) (a' := ?_) #[true, true, true, true, true, true, true, true, true, true, true, true, true, true, true, true, true, true, false, false, false, false] rfl rfl (take_ofW HT_.out HW_.out (by kernel_rfl)) (fun _ _ _ h => h) (Or.inl ⟨by rfl, ?_⟩) hHeld ?_ ?_
                rotate_left
                ·rintro w' ⟨s0, s1, s2, s3, s4, s5, s6, s7, s8⟩
                 go_simp
                 with_reducible rfl
                rotate_left
                ·simp only [Act.put, List.setIfInBounds_toArray, List.set_cons_zero, List.set_cons_succ, i64_w, i32_w]
                 rfl
                refine one_ (i := 18) (N := some 119) #[true, true, true, true, true, true, true, true, true, true, true, true, true, true, true, true, true, true, true, false, false, false] rfl rfl (one_of HT_.out (by kernel_rfl)) (by decide) (fun K hK => ?_)
                refine goG Tryd.func35 #[.slice A0_3 l0_3.length c0_3, .string ((rd_T53 l0_0 x6_4).f0)] ?_
                with_reducible refine (marginaliaref11_in.calls k5 _ _ l0_3 ((rd_T53 l0_0 x6_4).f0) t247 _ (Cs HR0_3) HC0_3.out A47.out).mono ?_
                rintro e w' ⟨rfl, ⟨nd, rfl⟩⟩
                refine ⟨_, rfl, ?_⟩
                refine hK.out _ _ ⟨(blk_cell BK237.out 0).trans rfl, (blk_cell BK237.out 1).trans rfl, (blk_cell BK237.out 2).trans rfl, (blk_cell BK237.out 3).trans rfl, (blk_cell BK237.out 4).trans rfl, ((HB.out.cell (World.block_lt_of_cell? w _ hw244_0)).trans hw244_0), ((HB.out.cell (World.block_lt_of_cell? w _ hw244_1)).trans hw244_1), ((HB.out.cell (World.block_lt_of_cell? w _ hw246_0)).trans hw246_0), ((HB.out.cell (World.block_lt_of_cell? w _ hw246_1)).trans hw246_1)⟩ (fun hHeld => ?_)
                clear hK K
                refine norm_ (a' := ?_) ?_ ?_
                rotate_left
                ·show Act.put _ (some 119) _ = _
                 simp only [Act.put, List.setIfInBounds_toArray, List.set_cons_zero, List.set_cons_succ, i64_w, i32_w]
                 rfl
                refine pureS 19 120 #[true, true, true, true, true, true, true, true, true, true, true, true, true, true, true, true, true, true, true, true, false, false] ?_
                refine pureS 20 121 #[true, true, true, true, true, true, true, true, true, true, true, true, true, true, true, true, true, true, true, true, true, false] ?_
                refine pureS 21 5 #[true, true, true, true, true, true, true, true, true, true, true, true, true, true, true, true, true, true, true, true, true, true] ?_
                refine done_ (done_of HT_.out (by kernel_rfl)) ?_
                try go_wp2
                go_roundg k5
                case measure => have := HJ1.out; have := HJ10.out; have := HJ18.out; have := HK4.out; have := HK5.out; omega
                case rel => exact ⟨(!t247), (wrap64 (x6_4 + 1)), Rs, Rs, H', ⟨by have := HJ1.out; have := HJ10.out; have := HJ18.out; have := HK4.out; have := HK5.out; omega⟩, ⟨(Bk BK237)⟩, ⟨Bw⟩⟩
               replace c46 := Bool.eq_false_iff.mpr c46
               subst c46
               have H1 : (marginaliaref11_Check.l1 k5 false (wrap64 (x6_4 + 1)) l0_0 l0_1 l0_2 l0_3 a0_4) = some r := by rw [if_neg (show ¬ (false = true) by decide)] at H; exact H
               clear H
               have H := H1
               clear H1
               have H' := Aside0.mk H
               clear H
               try go_wp2
               replace BK237 := Aside0.mk (blk_drew BK237.out)
               replace HB := Aside0.mk (below_drew1 HB.out)
               have p244 : 0 ≤ (x6_4 : Int) := of_decide_eq_true Dt
               have q244 : x6_4 < (l0_0.length : Int) := of_decide_eq_true Dt
               obtain ⟨ad244, A244_1, c244_1, e244, hx244_0, hx244_1, hl244_1, hi244_1⟩ := at_T53 HR0_0.out x6_4 p244 q244
               have hw244_1 := hx244_1
               have hw244_0 := hx244_0
               cases e244
               replace hx244_0 := Hx hx244_0
               replace hx244_1 := Hx hx244_1
               have HR244_1 := Aside0.mk hi244_1
               have HC244_1 := Aside0.mk hl244_1
               clear hi244_1 hl244_1
               replace p244 := eq_true p244
               replace q244 := eq_true q244
               refine start_ (n := 22) (S := fun w' => w'.cell? ⟨gb237, 0, none⟩ = some (.slice (some ad244) l0_0.length c0_0) ∧ w'.cell? ⟨gb237, 1, none⟩ = some (.slice A0_1 l0_1.length c0_1) ∧ w'.cell? ⟨gb237, 2, none⟩ = some (.slice A0_2 l0_2.length c0_2) ∧ w'.cell? ⟨gb237, 3, none⟩ = some (.slice A0_3 l0_3.length c0_3) ∧ w'.cell? ⟨gb237, 4, none⟩ = some (.int .i64 a0_4) ∧ w'.cell? (ad244.add ((x6_4).toNat * 2)) = some (.string ((rd_T53 l0_0 x6_4).f0)) ∧ w'.cell? ⟨(ad244.add ((x6_4).toNat * 2)).block, (ad244.add ((x6_4).toNat * 2)).off + 1, none⟩ = some (.slice A244_1 ((rd_T53 l0_0 x6_4).f1).length c244_1)) (ds := []) #[false, false, false, false, false, false, false, false, false, false, false, false, false, false, false, false, false, false, false, false, false, false] (by kernel_rfl) rfl rfl ⟨(blk_cell BK237.out 0).trans rfl, (blk_cell BK237.out 1).trans rfl, (blk_cell BK237.out 2).trans rfl, (blk_cell BK237.out 3).trans rfl, (blk_cell BK237.out 4).trans rfl, ((HB.out.cell (World.block_lt_of_cell? w _ hw244_0)).trans hw244_0), ((HB.out.cell (World.block_lt_of_cell? w _ hw244_1)).trans hw244_1)⟩ (fun hHeld => ?_); refine with_tabW marginaliaref11_Check.tab16 marginaliaref11_Check.bits16 (fun HT_ HW_ => ?_)
               generalize wr.drew = w50 at BK237 HB HR244_1 hx244_0 hx244_1 hHeld ⊢
               refine pureS 0 101 #[true, false, false, false, false, false, false, false, false, false, false, false, false, false, false, false, false, false, false, false, false, false] ?_
               refine pureS 1 102 #[true, true, false, false, false, false, false, false, false, false, false, false, false, false, false, false, false, false, false, false, false, false] ?_
               refine pureS 2 103 #[true, true, true, false, false, false, false, false, false, false, false, false, false, false, false, false, false, false, false, false, false, false] ?_
               refine pureS 4 105 #[true, true, true, false, true, false, false, false, false, false, false, false, false, false, false, false, false, false, false, false, false, false] ?_
               refine take_ (i := 3) (N := some 104) (v := ?_) (a' := ?_) #[true, true, true, true, true, false, false, false, false, false, false, false, false, false, false, false, false, false, false, false, false, false] rfl rfl (take_ofW HT_.out HW_.out (by kernel_rfl)) (fun _ _ _ h => h) (Or.inl ⟨by rfl, ?_⟩) hHeld ?_ ?_
               rotate_left
               ·rintro w' ⟨s0, s1, s2, s3, s4, s5, s6⟩
                go_simp
                with_reducible rfl
               rotate_left
               ·simp only [Act.put, List.setIfInBounds_toArray, List.set_cons_zero, List.set_cons_succ, i64_w, i32_w]
                rfl
               refine pureS 5 106 #[true, true, true, true, true, true, false, false, false, false, false, false, false, false, false, false, false, false, false, false, false, false] ?_
               refine take_ (i := 6) (N := some 107) (v := ?_) (a' := ?_) #[true, true, true, true, true, true, true, false, false, false, false, false, false, false, false, false, false, false, false, false, false, false] rfl rfl (take_ofW HT_.out HW_.out (by kernel_rfl)) (fun _ _ _ h => h) (Or.inl ⟨by rfl, ?_⟩) hHeld ?_ ?_
               rotate_left
               ·rintro w' ⟨s0, s1, s2, s3, s4, s5, s6⟩
                go_simp
                with_reducible rfl
               rotate_left
               ·simp only [Act.put, List.setIfInBounds_toArray, List.set_cons_zero, List.set_cons_succ, i64_w, i32_w]
                rfl
               refine one_ (i := 7) (N := some 108) #[true, true, true, true, true, true, true, true, false, false, false, false, false, false, false, false, false, false, false, false, false, false] rfl rfl (one_of HT_.out (by kernel_rfl)) (by decide) (fun K hK => ?_)
               refine goG Tryd.func34 #[.agg #[.string ((rd_T53 l0_0 x6_4).f0), .slice A244_1 ((rd_T53 l0_0 x6_4).f1).length c244_1]] ?_
               with_reducible refine (marginaliaref11_rule.calls k5 ((rd_T53 l0_0 x6_4).f0) _ _ ((rd_T53 l0_0 x6_4).f1) false _ (Cs HR244_1) HC244_1.out A45.out).mono ?_
               rintro e w51 ⟨rfl, hb⟩
               refine ⟨_, rfl, ?_⟩
               replace BK237 := Aside0.mk (blk_below (Bk BK237) hb)
               replace HB := Aside0.mk (below_step Bw hb)
               (try clear hb)
               (try clear hb2)
               (try clear hk)
               (try clear hi)
               refine hK.out _ _ ⟨(blk_cell BK237.out 0).trans rfl, (blk_cell BK237.out 1).trans rfl, (blk_cell BK237.out 2).trans rfl, (blk_cell BK237.out 3).trans rfl, (blk_cell BK237.out 4).trans rfl, ((HB.out.cell (World.block_lt_of_cell? w _ hw244_0)).trans hw244_0), ((HB.out.cell (World.block_lt_of_cell? w _ hw244_1)).trans hw244_1)⟩ (fun hHeld => ?_)
               clear hK K
               refine norm_ (a' := ?_) ?_ ?_
               rotate_left
               ·show Act.put _ (some 108) _ = _
                simp only [Act.put, List.setIfInBounds_toArray, List.set_cons_zero, List.set_cons_succ, i64_w, i32_w]
                rfl
               refine pureS 8 109 #[true, true, true, true, true, true, true, true, true, false, false, false, false, false, false, false, false, false, false, false, false, false] ?_
               refine pureS 9 110 #[true, true, true, true, true, true, true, true, true, true, false, false, false, false, false, false, false, false, false, false, false, false] ?_
               refine pureU 10 111 #[true, true, true, true, true, true, true, true, true, true, true, false, false, false, false, false, false, false, false, false, false, false] ?_
               refine pureU 11 112 #[true, true, true, true, true, true, true, true, true, true, true, true, false, false, false, false, false, false, false, false, false, false] ?_
               refine pureU 12 113 #[true, true, true, true, true, true, true, true, true, true, true, true, true, false, false, false, false, false, false, false, false, false] ?_
               refine pureU 13 114 #[true, true, true, true, true, true, true, true, true, true, true, true, true, true, false, false, false, false, false, false, false, false] ?_
               refine pureU 14 115 #[true, true, true, true, true, true, true, true, true, true, true, true, true, true, true, false, false, false, false, false, false, false] ?_
               refine pureU 15 116 #[true, true, true, true, true, true, true, true, true, true, true, true, true, true, true, true, false, false, false, false, false, false] ?_
               refine pureU 16 117 #[true, true, true, true, true, true, true, true, true, true, true, true, true, true, true, true, true, false, false, false, false, false] ?_
               refine pureU 17 118 #[true, true, true, true, true, true, true, true, true, true, true, true, true, true, true, true, true, true, false, false, false, false] ?_
               refine pureU 18 119 #[true, true, true, true, true, true, true, true, true, true, true, true, true, true, true, true, true, true, true, false, false, false] ?_
               refine pureU 19 120 #[true, true, true, true, true, true, true, true, true, true, true, true, true, true, true, true, true, true, true, true, false, false] ?_
               refine pureS 20 121 #[true, true, true, true, true, true, true, true, true, true, true, true, true, true, true, true, true, true, true, true, true, false] ?_
               refine pureS 21 5 #[true, true, true, true, true, true, true, true, true, true, true, true, true, true, true, true, true, true, true, true, true, true] ?_
               refine done_ (done_of HT_.out (by kernel_rfl)) ?_
               try go_wp2
               go_roundg k5
               case measure => have := HJ1.out; have := HJ10.out; have := HJ18.out; have := HK4.out; have := HK5.out; omega
               case rel => exact ⟨(false), (wrap64 (x6_4 + 1)), Rs, Rs, H', ⟨by have := HJ1.out; have := HJ10.out; have := HJ18.out; have := HK4.out; have := HK5.out; omega⟩, ⟨(Bk BK237)⟩, ⟨Bw⟩⟩
              rw [if_neg c44] at H
              exact absurd H (by simp)
             rw [if_neg c43] at H
             exact absurd H (by simp)
            replace c42 := Bool.eq_false_iff.mpr c42
            subst c42
            have H1 : (marginaliaref11_Check.l1 k5 false (wrap64 (x6_4 + 1)) l0_0 l0_1 l0_2 l0_3 a0_4) = some r := by rw [if_neg (show ¬ (false = true) by decide)] at H; exact H
            clear H
            have H := H1
            clear H1
            have H' := Aside0.mk H
            clear H
            try go_wp2
            replace BK237 := Aside0.mk (blk_drew BK237.out)
            replace HB := Aside0.mk (below_drew1 HB.out)
            refine start_ (n := 22) (S := fun w' => True) (ds := []) #[false, false, false, false, false, false, false, false, false, false, false, false, false, false, false, false, false, false, false, false, false, false] (by kernel_rfl) rfl rfl trivial (fun hHeld => ?_); refine with_tabW marginaliaref11_Check.tab16 marginaliaref11_Check.bits16 (fun HT_ HW_ => ?_)
            generalize wr.drew = w52 at BK237 HB hHeld ⊢
            refine pureS 0 101 #[true, false, false, false, false, false, false, false, false, false, false, false, false, false, false, false, false, false, false, false, false, false] ?_
            refine pureS 1 102 #[true, true, false, false, false, false, false, false, false, false, false, false, false, false, false, false, false, false, false, false, false, false] ?_
            refine pureU 2 103 #[true, true, true, false, false, false, false, false, false, false, false, false, false, false, false, false, false, false, false, false, false, false] ?_
            refine pureU 3 104 #[true, true, true, true, false, false, false, false, false, false, false, false, false, false, false, false, false, false, false, false, false, false] ?_
            refine pureU 4 105 #[true, true, true, true, true, false, false, false, false, false, false, false, false, false, false, false, false, false, false, false, false, false] ?_
            refine pureU 5 106 #[true, true, true, true, true, true, false, false, false, false, false, false, false, false, false, false, false, false, false, false, false, false] ?_
            refine pureU 6 107 #[true, true, true, true, true, true, true, false, false, false, false, false, false, false, false, false, false, false, false, false, false, false] ?_
            refine pureU 7 108 #[true, true, true, true, true, true, true, true, false, false, false, false, false, false, false, false, false, false, false, false, false, false] ?_
            refine pureS 8 109 #[true, true, true, true, true, true, true, true, true, false, false, false, false, false, false, false, false, false, false, false, false, false] ?_
            refine pureS 9 110 #[true, true, true, true, true, true, true, true, true, true, false, false, false, false, false, false, false, false, false, false, false, false] ?_
            refine pureU 10 111 #[true, true, true, true, true, true, true, true, true, true, true, false, false, false, false, false, false, false, false, false, false, false] ?_
            refine pureU 11 112 #[true, true, true, true, true, true, true, true, true, true, true, true, false, false, false, false, false, false, false, false, false, false] ?_
            refine pureU 12 113 #[true, true, true, true, true, true, true, true, true, true, true, true, true, false, false, false, false, false, false, false, false, false] ?_
            refine pureU 13 114 #[true, true, true, true, true, true, true, true, true, true, true, true, true, true, false, false, false, false, false, false, false, false] ?_
            refine pureU 14 115 #[true, true, true, true, true, true, true, true, true, true, true, true, true, true, true, false, false, false, false, false, false, false] ?_
            refine pureU 15 116 #[true, true, true, true, true, true, true, true, true, true, true, true, true, true, true, true, false, false, false, false, false, false] ?_
            refine pureU 16 117 #[true, true, true, true, true, true, true, true, true, true, true, true, true, true, true, true, true, false, false, false, false, false] ?_
            refine pureU 17 118 #[true, true, true, true, true, true, true, true, true, true, true, true, true, true, true, true, true, true, false, false, false, false] ?_
            refine pureU 18 119 #[true, true, true, true, true, true, true, true, true, true, true, true, true, true, true, true, true, true, true, false, false, false] ?_
            refine pureU 19 120 #[true, true, true, true, true, true, true, true, true, true, true, true, true, true, true, true, true, true, true, true, false, false] ?_
            refine pureS 20 121 #[true, true, true, true, true, true, true, true, true, true, true, true, true, true, true, true, true, true, true, true, true, false] ?_
            refine pureS 21 5 #[true, true, true, true, true, true, true, true, true, true, true, true, true, true, true, true, true, true, true, true, true, true] ?_
            refine done_ (done_of HT_.out (by kernel_rfl)) ?_
            try go_wp2
            go_roundg k5
            case measure => have := HJ1.out; have := HJ10.out; have := HJ18.out; have := HK4.out; have := HK5.out; omega
            case rel => exact ⟨(false), (wrap64 (x6_4 + 1)), Rs, Rs, H', ⟨by have := HJ1.out; have := HJ10.out; have := HJ18.out; have := HK4.out; have := HK5.out; omega⟩, ⟨(Bk BK237)⟩, ⟨Bw⟩⟩
         rw [if_neg c32] at H
         have c32b0 : decide (x6_4 < (l0_0.length : Int)) = false := decide_eq_false c32
         clear c32
         by_cases c53 : x5_4 = true
         ·subst c53
          have H1 : ((marginaliaref11_in.f k4 l0_2 (⟨#[100, 97, 116, 97]⟩ : ByteArray)).bind fun t248 => (if t248 = true then (some 1) else ((marginaliaref11_in.f k4 l0_2 (⟨#[106, 97, 118, 97, 115, 99, 114, 105, 112, 116]⟩ : ByteArray)).bind fun t249 => (if t249 = true then (some 1) else ((marginaliaref11_in.f k4 l0_2 (⟨#[118, 98, 115, 99, 114, 105, 112, 116]⟩ : ByteArray)).bind fun t250 => (if t250 = true then (some 1) else (some 0))))))) = some r := by rw [if_pos rfl] at H; exact H
          clear H
          have H := H1
          clear H1
          replace H := Option.bind_eq_some_iff.mp H
          obtain ⟨t248, A540, H⟩ := H
          replace H : (if t248 = true then (some 1) else ((marginaliaref11_in.f k4 l0_2 (⟨#[106, 97, 118, 97, 115, 99, 114, 105, 112, 116]⟩ : ByteArray)).bind fun t249 => (if t249 = true then (some 1) else ((marginaliaref11_in.f k4 l0_2 (⟨#[118, 98, 115, 99, 114, 105, 112, 116]⟩ : ByteArray)).bind fun t250 => (if t250 = true then (some 1) else (some 0)))))) = some r := H
          have A54 := Aside0.mk A540
          clear A540
          by_cases c55 : t248 = true
          ·subst c55
           have H1 : (some 1) = some r := by rw [if_pos rfl] at H; exact H
           clear H
           have H := H1
           clear H1
           obtain rfl := Option.some.inj H
           obtain ⟨hcz56_0, hcz56_1, hcz56_2, hcz56_3, hcz56_4, hfz56_0, hfz56_1, hfz56_2, hfz56_3, hfz56_4⟩ := cells5 BK237
           go_wp2_with (first | (go_at_call 35; (with_reducible refine (marginaliaref11_in.calls k4 _ _ l0_2 (⟨#[100, 97, 116, 97]⟩ : ByteArray) true _ (Cs HR0_2) HC0_2.out A54.out).mono ?_); rintro e w' ⟨rfl, ⟨nd, rfl⟩⟩))
           go_ret
           exact ⟨Re, Bw⟩
          replace c55 := Bool.eq_false_iff.mpr c55
          subst c55
          have H1 : ((marginaliaref11_in.f k4 l0_2 (⟨#[106, 97, 118, 97, 115, 99, 114, 105, 112, 116]⟩ : ByteArray)).bind fun t249 => (if t249 = true then (some 1) else ((marginaliaref11_in.f k4 l0_2 (⟨#[118, 98, 115, 99, 114, 105, 112, 116]⟩ : ByteArray)).bind fun t250 => (if t250 = true then (some 1) else (some 0))))) = some r := by rw [if_neg (show ¬ (false = true) by decide)] at H; exact H
          clear H
          have H := H1
          clear H1
          replace H := Option.bind_eq_some_iff.mp H
          obtain ⟨t249, A570, H⟩ := H
          replace H : (if t249 = true then (some 1) else ((marginaliaref11_in.f k4 l0_2 (⟨#[118, 98, 115, 99, 114, 105, 112, 116]⟩ : ByteArray)).bind fun t250 => (if t250 = true then (some 1) else (some 0)))) = some r := H
          have A57 := Aside0.mk A570
          clear A570
          by_cases c58 : t249 = true
          ·subst c58
           have H1 : (some 1) = some r := by rw [if_pos rfl] at H; exact H
           clear H
           have H := H1
           clear H1
           obtain rfl := Option.some.inj H
           obtain ⟨hcz59_0, hcz59_1, hcz59_2, hcz59_3, hcz59_4, hfz59_0, hfz59_1, hfz59_2, hfz59_3, hfz59_4⟩ := cells5 BK237
           go_wp2_with (first | (go_at_call 35; (with_reducible refine (marginaliaref11_in.calls k4 _ _ l0_2 (⟨#[100, 97, 116, 97]⟩ : ByteArray) false _ (Cs HR0_2) HC0_2.out A54.out).mono ?_); rintro e w' ⟨rfl, ⟨nd, rfl⟩⟩) | (go_at_call 35; (with_reducible refine (marginaliaref11_in.calls k4 _ _ l0_2 (⟨#[106, 97, 118, 97, 115, 99, 114, 105, 112, 116]⟩ : ByteArray) true _ ?side1 HC0_2.out A57.out).mono ?_); (case side1 => repeat (first | exact (Kd.C_below HR0_2.out Bw) | (with_reducible refine Kd.C_alloc ?_ _) | (with_reducible refine Kd.C_drewN ?_ _) | (with_reducible refine Kd.C_drew ?_))); rintro e w' ⟨rfl, ⟨nd, rfl⟩⟩))
           go_ret
           exact ⟨Re, Bw⟩
          replace c58 := Bool.eq_false_iff.mpr c58
          subst c58
          have H1 : ((marginaliaref11_in.f k4 l0_2 (⟨#[118, 98, 115, 99, 114, 105, 112, 116]⟩ : ByteArray)).bind fun t250 => (if t250 = true then (some 1) else (some 0))) = some r := by rw [if_neg (show ¬ (false = true) by decide)] at H; exact H
          clear H
          have H := H1
          clear H1
          replace H := Option.bind_eq_some_iff.mp H
          obtain ⟨t250, A600, H⟩ := H
          replace H : (if t250 = true then (some 1) else (some 0)) = some r := H
          have A60 := Aside0.mk A600
          clear A600
          by_cases c61 : t250 = true
          ·subst c61
           have H1 : (some 1) = some r := by rw [if_pos rfl] at H; exact H
           clear H
           have H := H1
           clear H1
           obtain rfl := Option.some.inj H
           obtain ⟨hcz62_0, hcz62_1, hcz62_2, hcz62_3, hcz62_4, hfz62_0, hfz62_1, hfz62_2, hfz62_3, hfz62_4⟩ := cells5 BK237
           go_wp2_with (first | (go_at_call 35; (with_reducible refine (marginaliaref11_in.calls k4 _ _ l0_2 (⟨#[100, 97, 116, 97]⟩ : ByteArray) false _ (Cs HR0_2) HC0_2.out A54.out).mono ?_); rintro e w' ⟨rfl, ⟨nd, rfl⟩⟩) | (go_at_call 35; (with_reducible refine (marginaliaref11_in.calls k4 _ _ l0_2 (⟨#[106, 97, 118, 97, 115, 99, 114, 105, 112, 116]⟩ : ByteArray) false _ ?side1 HC0_2.out A57.out).mono ?_); (case side1 => repeat (first | exact (Kd.C_below HR0_2.out Bw) | (with_reducible refine Kd.C_alloc ?_ _) | (with_reducible refine Kd.C_drewN ?_ _) | (with_reducible refine Kd.C_drew ?_))); rintro e w' ⟨rfl, ⟨nd, rfl⟩⟩) | (go_at_call 35; (with_reducible refine (marginaliaref11_in.calls k4 _ _ l0_2 (⟨#[118, 98, 115, 99, 114, 105, 112, 116]⟩ : ByteArray) true _ ?side1 HC0_2.out A60.out).mono ?_); (case side1 => repeat (first | exact (Kd.C_below HR0_2.out Bw) | (with_reducible refine Kd.C_alloc ?_ _) | (with_reducible refine Kd.C_drewN ?_ _) | (with_reducible refine Kd.C_drew ?_))); rintro e w' ⟨rfl, ⟨nd, rfl⟩⟩))
           go_ret
           exact ⟨Re, Bw⟩
          replace c61 := Bool.eq_false_iff.mpr c61
          subst c61
          have H1 : (some 0) = some r := by rw [if_neg (show ¬ (false = true) by decide)] at H; exact H
          clear H
          have H := H1
          clear H1
          obtain rfl := Option.some.inj H
          obtain ⟨hcz63_0, hcz63_1, hcz63_2, hcz63_3, hcz63_4, hfz63_0, hfz63_1, hfz63_2, hfz63_3, hfz63_4⟩ := cells5 BK237
          go_wp2_with (first | (go_at_call 35; (with_reducible refine (marginaliaref11_in.calls k4 _ _ l0_2 (⟨#[100, 97, 116, 97]⟩ : ByteArray) false _ (Cs HR0_2) HC0_2.out A54.out).mono ?_); rintro e w' ⟨rfl, ⟨nd, rfl⟩⟩) | (go_at_call 35; (with_reducible refine (marginaliaref11_in.calls k4 _ _ l0_2 (⟨#[106, 97, 118, 97, 115, 99, 114, 105, 112, 116]⟩ : ByteArray) false _ ?side1 HC0_2.out A57.out).mono ?_); (case side1 => repeat (first | exact (Kd.C_below HR0_2.out Bw) | (with_reducible refine Kd.C_alloc ?_ _) | (with_reducible refine Kd.C_drewN ?_ _) | (with_reducible refine Kd.C_drew ?_))); rintro e w' ⟨rfl, ⟨nd, rfl⟩⟩) | (go_at_call 35; (with_reducible refine (marginaliaref11_in.calls k4 _ _ l0_2 (⟨#[118, 98, 115, 99, 114, 105, 112, 116]⟩ : ByteArray) false _ ?side1 HC0_2.out A60.out).mono ?_); (case side1 => repeat (first | exact (Kd.C_below HR0_2.out Bw) | (with_reducible refine Kd.C_alloc ?_ _) | (with_reducible refine Kd.C_drewN ?_ _) | (with_reducible refine Kd.C_drew ?_))); rintro e w' ⟨rfl, ⟨nd, rfl⟩⟩))
          go_ret
          exact ⟨Re, Bw⟩
         replace c53 := Bool.eq_false_iff.mpr c53
         subst c53
         have H1 : (some 1) = some r := by rw [if_neg (show ¬ (false = true) by decide)] at H; exact H
         clear H
         have H := H1
         clear H1
         obtain rfl := Option.some.inj H
         obtain ⟨hcz64_0, hcz64_1, hcz64_2, hcz64_3, hcz64_4, hfz64_0, hfz64_1, hfz64_2, hfz64_3, hfz64_4⟩ := cells5 BK237
         go_wp2
         go_ret
         exact ⟨Re, Bw⟩

end Go.Proofs.YtnbghhddmlohoaaDoor.PAll

end

section
namespace Go.Proofs.YtnbghhddmlohoaaDoor.PAll
open Go.RowKit Go.Proofs.YtnbghhddmlohoaaDoorW.PrintWords Go.Proofs.YtnbghhddmlohoaaDoorW.PrintLast Go.Proofs.YtnbghhddmlohoaaDoorW.PrintMore
attribute [local go_sem] max2_int min2_int max_two min_two max_three min_three max_four min_four   -- for this text's walks alone
set_option linter.unusedVariables false
set_option linter.unusedSimpArgs false

noncomputable def marginalialaw11_PolicyCheck.f (k : Nat) (l0_0 : List (S53)) (l0_1 : List ByteArray) (l0_2 : List ByteArray) (l0_3 : List ByteArray) (a0_4 : Int) : Option (Bool) := (marginaliaref11_Small.f k l0_0 l0_1 l0_2 l0_3 a0_4).bind fun t252 => (if t252 = true then ((marginalialaw11_alive.f k).bind fun t253 => (if t253 = true then ((policy_Check.f k l0_0 l0_1 l0_2 l0_3 a0_4).bind fun t254 => ((marginaliaref11_Check.f k l0_0 l0_1 l0_2 l0_3 a0_4).bind fun t255 => (some (t254 == t255)))) else (some false))) else ((marginalialaw11_alive.f k).bind fun t256 => (some t256)))
noncomputable def marginalialaw11_PolicyCheck.T3 : Bool × List (List Nat × List Nat) := (true, [([], []), ([0, 0], [0]), ([1], [1]), ([2, 1, 1], [1, 2]), ([1], [1]), ([4, 3, 1], [1, 4]), ([3, 5, 1], [1, 3, 5]), ([1, 6], [1, 6]), ([7, 5, 0, 1, 2, 3, 4, 5, 6, 7], [7])])
noncomputable def marginalialaw11_PolicyCheck.B3 : List Nat := [0, 1, 3, 7, 3, 31, 63, 127, 255]
theorem marginalialaw11_PolicyCheck.tab3 : rtab .any (opsOf Tryd.f3 3) = marginalialaw11_PolicyCheck.T3 := by kernel_rfl
theorem marginalialaw11_PolicyCheck.bits3 : waitsOk marginalialaw11_PolicyCheck.T3.2 marginalialaw11_PolicyCheck.B3 = true := by kernel_rfl
set_option maxHeartbeats 8000000 in
set_option maxRecDepth 100000 in
theorem marginalialaw11_PolicyCheck.calls (k : Nat) (A0_0 : Option Addr) (c0_0 : Nat) (l0_0 : List (S53)) (A0_1 : Option Addr) (c0_1 : Nat) (l0_1 : List ByteArray) (A0_2 : Option Addr) (c0_2 : Nat) (l0_2 : List ByteArray) (A0_3 : Option Addr) (c0_3 : Nat) (l0_3 : List ByteArray) (a0_4 : Int) (r : Bool) (w : World) (hr0_0 : Kd.C k53 w A0_0 l0_0.length l0_0) (hc0_0 : l0_0.length ≤ c0_0) (hr0_1 : Kd.C Kd.string w A0_1 l0_1.length l0_1) (hc0_1 : l0_1.length ≤ c0_1) (hr0_2 : Kd.C Kd.string w A0_2 l0_2.length l0_2) (hc0_2 : l0_2.length ≤ c0_2) (hr0_3 : Kd.C Kd.string w A0_3 l0_3.length l0_3) (hc0_3 : l0_3.length ≤ c0_3) (m_ : Int) (hm_ : w.cell? ⟨0, 0, none⟩ = some (.int .i64 m_)) (h : marginalialaw11_PolicyCheck.f k l0_0 l0_1 l0_2 l0_3 a0_4 = some r) :
  Calls Tryd.prog 3 #[.agg #[.slice A0_0 l0_0.length c0_0, .slice A0_1 l0_1.length c0_1, .slice A0_2 l0_2.length c0_2, .slice A0_3 l0_3.length c0_3, .int .i64 a0_4]] w fun e w' => e = .returned (.bool r) ∧ Below w.heap.size w w' := by
 have HM := Aside0.mk hm_
 clear hm_
 have hu25 := Tryd.underlying25
 have HR0_0 := Aside0.mk hr0_0
 have HC0_0 := Aside0.mk hc0_0
 clear hr0_0 hc0_0
 have HR0_1 := Aside0.mk hr0_1
 have HC0_1 := Aside0.mk hc0_1
 clear hr0_1 hc0_1
 have HR0_2 := Aside0.mk hr0_2
 have HC0_2 := Aside0.mk hc0_2
 clear hr0_2 hc0_2
 have HR0_3 := Aside0.mk hr0_3
 have HC0_3 := Aside0.mk hc0_3
 clear hr0_3 hc0_3
 have HB := Aside0.mk (Below.refl w.heap.size w)
 have H : ((marginaliaref11_Small.f k l0_0 l0_1 l0_2 l0_3 a0_4).bind fun t252 => (if t252 = true then ((marginalialaw11_alive.f k).bind fun t253 => (if t253 = true then ((policy_Check.f k l0_0 l0_1 l0_2 l0_3 a0_4).bind fun t254 => ((marginaliaref11_Check.f k l0_0 l0_1 l0_2 l0_3 a0_4).bind fun t255 => (some (t254 == t255)))) else (some false))) else ((marginalialaw11_alive.f k).bind fun t256 => (some t256)))) = some r := h
 clear h
 replace H := Option.bind_eq_some_iff.mp H
 obtain ⟨t252, A20, H⟩ := H
 replace H : (if t252 = true then ((marginalialaw11_alive.f k).bind fun t253 => (if t253 = true then ((policy_Check.f k l0_0 l0_1 l0_2 l0_3 a0_4).bind fun t254 => ((marginaliaref11_Check.f k l0_0 l0_1 l0_2 l0_3 a0_4).bind fun t255 => (some (t254 == t255)))) else (some false))) else ((marginalialaw11_alive.f k).bind fun t256 => (some t256))) = some r := H
 have A2 := Aside0.mk A20
 clear A20
 by_cases c3 : t252 = true
 ·subst c3
  have H1 : ((marginalialaw11_alive.f k).bind fun t253 => (if t253 = true then ((policy_Check.f k l0_0 l0_1 l0_2 l0_3 a0_4).bind fun t254 => ((marginaliaref11_Check.f k l0_0 l0_1 l0_2 l0_3 a0_4).bind fun t255 => (some (t254 == t255)))) else (some false))) = some r := by rw [if_pos rfl] at H; exact H
  clear H
  have H := H1
  clear H1
  replace H := Option.bind_eq_some_iff.mp H
  obtain ⟨t253, A40, H⟩ := H
  replace H : (if t253 = true then ((policy_Check.f k l0_0 l0_1 l0_2 l0_3 a0_4).bind fun t254 => ((marginaliaref11_Check.f k l0_0 l0_1 l0_2 l0_3 a0_4).bind fun t255 => (some (t254 == t255)))) else (some false)) = some r := H
  have A4 := Aside0.mk A40
  clear A40
  by_cases c5 : t253 = true
  ·subst c5
   have H1 : ((policy_Check.f k l0_0 l0_1 l0_2 l0_3 a0_4).bind fun t254 => ((marginaliaref11_Check.f k l0_0 l0_1 l0_2 l0_3 a0_4).bind fun t255 => (some (t254 == t255)))) = some r := by rw [if_pos rfl] at H; exact H
   clear H
   have H := H1
   clear H1
   replace H := Option.bind_eq_some_iff.mp H
   obtain ⟨t254, A60, H⟩ := H
   replace H : ((marginaliaref11_Check.f k l0_0 l0_1 l0_2 l0_3 a0_4).bind fun t255 => (some (t254 == t255))) = some r := H
   have A6 := Aside0.mk A60
   clear A60
   replace H := Option.bind_eq_some_iff.mp H
   obtain ⟨t255, A70, H⟩ := H
   replace H : (some (t254 == t255)) = some r := H
   have A7 := Aside0.mk A70
   clear A70
   obtain rfl := Option.some.inj H
   go_enter Tryd.func3, Tryd.ntmps3
   try go_wp2_with (first | ((with_reducible refine gate_dst (N := 1) rfl ?_); refine box5 25 1 (cs := #[.slice A0_0 l0_0.length c0_0, .slice A0_1 l0_1.length c0_1, .slice A0_2 l0_2.length c0_2, .slice A0_3 l0_3.length c0_3, .int .i64 a0_4]) ?_; intro gb251 w8 HB1 BK251 GE251; clear HB; have HB := HB1; clear HB1; have GW251 := GE251; obtain ⟨hcz9_0, hcz9_1, hcz9_2, hcz9_3, hcz9_4, hfz9_0, hfz9_1, hfz9_2, hfz9_3, hfz9_4⟩ := cells5 BK251) | ((with_reducible refine gate_callee (f := 9) rfl ?_); refine goL (some 4) Tryd.func9 #[.agg #[.slice A0_0 l0_0.length c0_0, .slice A0_1 l0_1.length c0_1, .slice A0_2 l0_2.length c0_2, .slice A0_3 l0_3.length c0_3, .int .i64 a0_4]] ?_; (with_reducible refine (marginaliaref11_Small.calls k _ _ l0_0 _ _ l0_1 _ _ l0_2 _ _ l0_3 a0_4 true _ (Cs HR0_0) HC0_0.out (Cs HR0_1) HC0_1.out (Cs HR0_2) HC0_2.out (Cs HR0_3) HC0_3.out A2.out).mono ?_); rintro e w10 ⟨rfl, hb⟩; refine ⟨_, rfl, ?_⟩; replace BK251 := Aside0.mk (blk_below (Bk BK251) hb); replace HB := Aside0.mk (below_step Bw hb); (try clear hb); (try clear hb2); (try clear hk); (try clear hi)))
   replace BK251 := Aside0.mk (blk_drew BK251.out)
   replace HB := Aside0.mk (below_drew1 HB.out)
   refine start_ (n := 9) (S := fun w' => w'.cell? ⟨gb251, 0, none⟩ = some (.slice A0_0 l0_0.length c0_0) ∧ w'.cell? ⟨gb251, 1, none⟩ = some (.slice A0_1 l0_1.length c0_1) ∧ w'.cell? ⟨gb251, 2, none⟩ = some (.slice A0_2 l0_2.length c0_2) ∧ w'.cell? ⟨gb251, 3, none⟩ = some (.slice A0_3 l0_3.length c0_3) ∧ w'.cell? ⟨gb251, 4, none⟩ = some (.int .i64 a0_4)) (ds := []) #[false, false, false, false, false, false, false, false, false] (by kernel_rfl) rfl rfl ⟨(blk_cell BK251.out 0).trans rfl, (blk_cell BK251.out 1).trans rfl, (blk_cell BK251.out 2).trans rfl, (blk_cell BK251.out 3).trans rfl, (blk_cell BK251.out 4).trans rfl⟩ (fun hHeld => ?_); refine with_tabW marginalialaw11_PolicyCheck.tab3 marginalialaw11_PolicyCheck.bits3 (fun HT_ HW_ => ?_)
   generalize w10.drew = w11 at BK251 HB hHeld ⊢
   refine one_ (i := 0) (N := some 7) #[true, false, false, false, false, false, false, false, false] rfl rfl (one_of HT_.out (by kernel_rfl)) (by decide) (fun K hK => ?_)
   refine goG Tryd.func10 #[] ?_
   with_reducible refine (marginalialaw11_alive.calls k  true _ m_ ?hmS A4.out).mono ?_
   case hmS => exact (pw_cell_below Bw HM.out)
   rintro e w12 ⟨rfl, hb⟩
   refine ⟨_, rfl, ?_⟩
   replace BK251 := Aside0.mk (blk_below (Bk BK251) hb)
   replace HB := Aside0.mk (below_step Bw hb)
   (try clear hb)
   (try clear hb2)
   (try clear hk)
   (try clear hi)
   refine hK.out _ _ ⟨(blk_cell BK251.out 0).trans rfl, (blk_cell BK251.out 1).trans rfl, (blk_cell BK251.out 2).trans rfl, (blk_cell BK251.out 3).trans rfl, (blk_cell BK251.out 4).trans rfl⟩ (fun hHeld => ?_)
   clear hK K
   refine norm_ (a' := ?_) ?_ ?_
   rotate_left
   ·show Act.put _ (some 7) _ = _
    simp only [Act.put, List.setIfInBounds_toArray, List.set_cons_zero, List.set_cons_succ, i64_w, i32_w]
    rfl
   refine pureS 1 8 #[true, true, false, false, false, false, false, false, false] ?_
   refine take_ (i := 2) (N := some 9) (v := ?_) (a' := ?_) #[true, true, true, false, false, false, false, false, false] rfl rfl (take_ofW HT_.out HW_.out (by kernel_rfl)) (fun _ _ _ h => h) (Or.inl ⟨by rfl, ?_⟩) hHeld ?_ ?_
   rotate_left
   ·rintro w' ⟨s0, s1, s2, s3, s4⟩
    go_simp
    with_reducible rfl
   rotate_left
   ·simp only [Act.put, List.setIfInBounds_toArray, List.set_cons_zero, List.set_cons_succ, i64_w, i32_w]
    rfl
   refine take_ (i := 4) (N := some 11) (v := ?_) (a' := ?_) #[true, true, true, false, true, false, false, false, false] rfl rfl (take_ofW HT_.out HW_.out (by kernel_rfl)) (fun _ _ _ h => h) (Or.inl ⟨by rfl, ?_⟩) hHeld ?_ ?_
   rotate_left
   ·rintro w' ⟨s0, s1, s2, s3, s4⟩
    go_simp
    with_reducible rfl
   rotate_left
   ·simp only [Act.put, List.setIfInBounds_toArray, List.set_cons_zero, List.set_cons_succ, i64_w, i32_w]
    rfl
   refine one_ (i := 3) (N := some 10) #[true, true, true, true, true, false, false, false, false] rfl rfl (one_of HT_.out (by kernel_rfl)) (by decide) (fun K hK => ?_)
   refine goG Tryd.func11 #[.agg #[.slice A0_0 l0_0.length c0_0, .slice A0_1 l0_1.length c0_1, .slice A0_2 l0_2.length c0_2, .slice A0_3 l0_3.length c0_3, .int .i64 a0_4]] ?_
   with_reducible refine (policy_Check.calls k _ _ l0_0 _ _ l0_1 _ _ l0_2 _ _ l0_3 a0_4 t254 _ (Cs HR0_0) HC0_0.out (Cs HR0_1) HC0_1.out (Cs HR0_2) HC0_2.out (Cs HR0_3) HC0_3.out A6.out).mono ?_
   rintro e w13 ⟨rfl, hb⟩
   refine ⟨_, rfl, ?_⟩
   replace BK251 := Aside0.mk (blk_below (Bk BK251) hb)
   replace HB := Aside0.mk (below_step Bw hb)
   (try clear hb)
   (try clear hb2)
   (try clear hk)
   (try clear hi)
   refine hK.out _ _ ⟨(blk_cell BK251.out 0).trans rfl, (blk_cell BK251.out 1).trans rfl, (blk_cell BK251.out 2).trans rfl, (blk_cell BK251.out 3).trans rfl, (blk_cell BK251.out 4).trans rfl⟩ (fun hHeld => ?_)
   clear hK K
   refine norm_ (a' := ?_) ?_ ?_
   rotate_left
   ·show Act.put _ (some 10) _ = _
    simp only [Act.put, List.setIfInBounds_toArray, List.set_cons_zero, List.set_cons_succ, i64_w, i32_w]
    rfl
   refine one_ (i := 5) (N := some 12) #[true, true, true, true, true, true, false, false, false] rfl rfl (one_of HT_.out (by kernel_rfl)) (by decide) (fun K hK => ?_)
   refine goG Tryd.func12 #[.agg #[.slice A0_0 l0_0.length c0_0, .slice A0_1 l0_1.length c0_1, .slice A0_2 l0_2.length c0_2, .slice A0_3 l0_3.length c0_3, .int .i64 a0_4]] ?_
   with_reducible refine (marginaliaref11_Check.calls k _ _ l0_0 _ _ l0_1 _ _ l0_2 _ _ l0_3 a0_4 t255 _ (Cs HR0_0) HC0_0.out (Cs HR0_1) HC0_1.out (Cs HR0_2) HC0_2.out (Cs HR0_3) HC0_3.out A7.out).mono ?_
   rintro e w14 ⟨rfl, hb⟩
   refine ⟨_, rfl, ?_⟩
   replace BK251 := Aside0.mk (blk_below (Bk BK251) hb)
   replace HB := Aside0.mk (below_step Bw hb)
   (try clear hb)
   (try clear hb2)
   (try clear hk)
   (try clear hi)
   refine hK.out _ _ ⟨(blk_cell BK251.out 0).trans rfl, (blk_cell BK251.out 1).trans rfl, (blk_cell BK251.out 2).trans rfl, (blk_cell BK251.out 3).trans rfl, (blk_cell BK251.out 4).trans rfl⟩ (fun hHeld => ?_)
   clear hK K
   refine norm_ (a' := ?_) ?_ ?_
   rotate_left
   ·show Act.put _ (some 12) _ = _
    simp only [Act.put, List.setIfInBounds_toArray, List.set_cons_zero, List.set_cons_succ, i64_w, i32_w]
    rfl
   refine pureS 6 13 #[true, true, true, true, true, true, true, false, false] ?_
   refine pureS 7 14 #[true, true, true, true, true, true, true, true, false] ?_
   refine pureS 8 2 #[true, true, true, true, true, true, true, true, true] ?_
   refine done_ (done_of HT_.out (by kernel_rfl)) ?_
   try go_wp2
   go_ret
   exact ⟨Re, Bw⟩
  replace c5 := Bool.eq_false_iff.mpr c5
  subst c5
  have H1 : (some false) = some r := by rw [if_neg (show ¬ (false = true) by decide)] at H; exact H
  clear H
  have H := H1
  clear H1
  obtain rfl := Option.some.inj H
  go_enter Tryd.func3, Tryd.ntmps3
  try go_wp2_with (first | ((with_reducible refine gate_dst (N := 1) rfl ?_); refine box5 25 1 (cs := #[.slice A0_0 l0_0.length c0_0, .slice A0_1 l0_1.length c0_1, .slice A0_2 l0_2.length c0_2, .slice A0_3 l0_3.length c0_3, .int .i64 a0_4]) ?_; intro gb251 w15 HB1 BK251 GE251; clear HB; have HB := HB1; clear HB1; have GW251 := GE251; obtain ⟨hcz16_0, hcz16_1, hcz16_2, hcz16_3, hcz16_4, hfz16_0, hfz16_1, hfz16_2, hfz16_3, hfz16_4⟩ := cells5 BK251) | ((with_reducible refine gate_callee (f := 9) rfl ?_); refine goL (some 4) Tryd.func9 #[.agg #[.slice A0_0 l0_0.length c0_0, .slice A0_1 l0_1.length c0_1, .slice A0_2 l0_2.length c0_2, .slice A0_3 l0_3.length c0_3, .int .i64 a0_4]] ?_; (with_reducible refine (marginaliaref11_Small.calls k _ _ l0_0 _ _ l0_1 _ _ l0_2 _ _ l0_3 a0_4 true _ (Cs HR0_0) HC0_0.out (Cs HR0_1) HC0_1.out (Cs HR0_2) HC0_2.out (Cs HR0_3) HC0_3.out A2.out).mono ?_); rintro e w17 ⟨rfl, hb⟩; refine ⟨_, rfl, ?_⟩; replace BK251 := Aside0.mk (blk_below (Bk BK251) hb); replace HB := Aside0.mk (below_step Bw hb); (try clear hb); (try clear hb2); (try clear hk); (try clear hi)))
  replace BK251 := Aside0.mk (blk_drew BK251.out)
  replace HB := Aside0.mk (below_drew1 HB.out)
  refine start_ (n := 9) (S := fun w' => True) (ds := []) #[false, false, false, false, false, false, false, false, false] (by kernel_rfl) rfl rfl trivial (fun hHeld => ?_); refine with_tabW marginalialaw11_PolicyCheck.tab3 marginalialaw11_PolicyCheck.bits3 (fun HT_ HW_ => ?_)
  generalize w17.drew = w18 at BK251 HB hHeld ⊢
  refine one_ (i := 0) (N := some 7) #[true, false, false, false, false, false, false, false, false] rfl rfl (one_of HT_.out (by kernel_rfl)) (by decide) (fun K hK => ?_)
  refine goG Tryd.func10 #[] ?_
  with_reducible refine (marginalialaw11_alive.calls k  false _ m_ ?hmS A4.out).mono ?_
  case hmS => exact (pw_cell_below Bw HM.out)
  rintro e w19 ⟨rfl, hb⟩
  refine ⟨_, rfl, ?_⟩
  replace BK251 := Aside0.mk (blk_below (Bk BK251) hb)
  replace HB := Aside0.mk (below_step Bw hb)
  (try clear hb)
  (try clear hb2)
  (try clear hk)
  (try clear hi)
  refine hK.out _ _ trivial (fun hHeld => ?_)
  clear hK K
  refine norm_ (a' := ?_) ?_ ?_
  rotate_left
  ·show Act.put _ (some 7) _ = _
   simp only [Act.put, List.setIfInBounds_toArray, List.set_cons_zero, List.set_cons_succ, i64_w, i32_w]
   rfl
  refine pureS 1 8 #[true, true, false, false, false, false, false, false, false] ?_
  refine pureU 2 9 #[true, true, true, false, false, false, false, false, false] ?_
  refine pureU 3 10 #[true, true, true, true, false, false, false, false, false] ?_
  refine pureU 4 11 #[true, true, true, true, true, false, false, false, false] ?_
  refine pureU 5 12 #[true, true, true, true, true, true, false, false, false] ?_
  refine pureU 6 13 #[true, true, true, true, true, true, true, false, false] ?_
  refine pureS 7 14 #[true, true, true, true, true, true, true, true, false] ?_
  refine pureS 8 2 #[true, true, true, true, true, true, true, true, true] ?_
  refine done_ (done_of HT_.out (by kernel_rfl)) ?_
  try go_wp2
  go_ret
  exact ⟨Re, Bw⟩
 replace c3 := Bool.eq_false_iff.mpr c3
 subst c3
 have H1 : ((marginalialaw11_alive.f k).bind fun t256 => (some t256)) = some r := by rw [if_neg (show ¬ (false = true) by decide)] at H; exact H
 clear H
 have H := H1
 clear H1
 replace H := Option.bind_eq_some_iff.mp H
 obtain ⟨t256, A200, H⟩ := H
 replace H : (some t256) = some r := H
 have A20 := Aside0.mk A200
 clear A200
 obtain rfl := Option.some.inj H
 go_enter Tryd.func3, Tryd.ntmps3
 go_wp2_with (first | ((with_reducible refine gate_dst (N := 1) rfl ?_); refine box5 25 1 (cs := #[.slice A0_0 l0_0.length c0_0, .slice A0_1 l0_1.length c0_1, .slice A0_2 l0_2.length c0_2, .slice A0_3 l0_3.length c0_3, .int .i64 a0_4]) ?_; intro gb251 w21 HB1 BK251 GE251; clear HB; have HB := HB1; clear HB1; have GW251 := GE251; obtain ⟨hcz22_0, hcz22_1, hcz22_2, hcz22_3, hcz22_4, hfz22_0, hfz22_1, hfz22_2, hfz22_3, hfz22_4⟩ := cells5 BK251) | ((with_reducible refine gate_callee (f := 9) rfl ?_); refine goL (some 4) Tryd.func9 #[.agg #[.slice A0_0 l0_0.length c0_0, .slice A0_1 l0_1.length c0_1, .slice A0_2 l0_2.length c0_2, .slice A0_3 l0_3.length c0_3, .int .i64 a0_4]] ?_; (with_reducible refine (marginaliaref11_Small.calls k _ _ l0_0 _ _ l0_1 _ _ l0_2 _ _ l0_3 a0_4 false _ (Cs HR0_0) HC0_0.out (Cs HR0_1) HC0_1.out (Cs HR0_2) HC0_2.out (Cs HR0_3) HC0_3.out A2.out).mono ?_); rintro e w23 ⟨rfl, hb⟩; refine ⟨_, rfl, ?_⟩; replace BK251 := Aside0.mk (blk_below (Bk BK251) hb); replace HB := Aside0.mk (below_step Bw hb); (try clear hb); (try clear hb2); (try clear hk); (try clear hi)) | ((with_reducible refine gate_callee (f := 10) rfl ?_); refine goL (some 6) Tryd.func10 #[] ?_; (with_reducible refine (marginalialaw11_alive.calls k  t256 _ m_ ?hmS A20.out).mono ?_); (case hmS => exact (pw_cell_below Bw HM.out)); rintro e w24 ⟨rfl, hb⟩; refine ⟨_, rfl, ?_⟩; replace BK251 := Aside0.mk (blk_below (Bk BK251) hb); replace HB := Aside0.mk (below_step Bw hb); (try clear hb); (try clear hb2); (try clear hk); (try clear hi)))
 go_ret
 exact ⟨Re, Bw⟩

end Go.Proofs.YtnbghhddmlohoaaDoor.PAll

end

section
namespace Go.Proofs.YtnbghhddmlohoaaDoor.RowOpen
open Go.RowKit Go.Proofs.YtnbghhddmlohoaaDoorW.PrintWords

section
variable {P : Program}
def Opens (P : Program) {α : Type} (t : TypeId) (d : Kd α) (g : α → Prop) : Prop :=
  ∀ (H : Type) (enc : TypeId × Value → H) (fuel : Nat) (w : World) (cs : List Value) (x : DataW H × List MemPlace), DataW.trod enc P w 0 (fun _ => true) true fuel t cs = some x → ∃ a, d.K w a cs ∧ g a
theorem Opens.imp {α : Type} {t : TypeId} {d : Kd α} {g g' : α → Prop} (h : Opens P t d g) (hg : ∀ a, g a → g' a) : Opens P t d g' := fun H enc fuel w cs x hx => by
  obtain ⟨a, hK, ha⟩ := h H enc fuel w cs x hx
  exact ⟨a, hK, hg a ha⟩
theorem opens_int {t : TypeId} {k : IntKind} (hu : P.underlying t = some (.int k)) : Opens P t (Kd.int k) (fun n => (Lit.int k n).wf = true) := fun H enc fuel w cs x hx => by
  cases fuel with
  | zero => simp [DataW.trod] at hx
  | succ m =>
    unfold DataW.trod at hx
    rw [hu] at hx
    split at hx <;> simp_all
    obtain ⟨⟨rfl, hw⟩, _⟩ := hx
    exact ⟨_, rfl, hw⟩
theorem opens_string {t : TypeId} (hu : P.underlying t = some .string) : Opens P t Kd.string (fun s => s.size ≤ maxLen) := fun H enc fuel w cs x hx => by
  cases fuel with
  | zero => simp [DataW.trod] at hx
  | succ m =>
    unfold DataW.trod at hx
    rw [hu] at hx
    split at hx <;> simp_all
    exact ⟨_, rfl, hx.1⟩
theorem cells_get {w : World} {a : Addr} {n : Nat} {cs : List Value} (h : w.cells? 0 a n = some cs) : cs.length = n ∧ ∀ j u, cs[j]? = some u → w.cell? (a.add j) = some u := by
  unfold World.cells? at h
  rw [if_pos (Nat.zero_le _)] at h
  have hl := mapM_some_length h
  rw [List.length_range] at hl
  refine ⟨hl, fun j u hj => ?_⟩
  have hlt : j < cs.length := (List.getElem?_eq_some_iff.1 hj).1
  have := mapM_some_get h j j (by rw [List.getElem?_range (by omega)])
  rw [this, hj]
theorem list_of {α : Type} {p : Nat → α → Prop} : ∀ n : Nat, (∀ i, i < n → ∃ a, p i a) → ∃ xs : List α, xs.length = n ∧ ∀ i a, xs[i]? = some a → p i a
  | 0, _ => ⟨[], rfl, fun i a h => by simp at h⟩
  | n + 1, h => by
    obtain ⟨xs, hl, hx⟩ := list_of n (fun i hi => h i (by omega))
    obtain ⟨a, ha⟩ := h n (by omega)
    refine ⟨xs ++ [a], by simp [hl], fun i b hb => ?_⟩
    rcases Nat.lt_trichotomy i n with hi | hi | hi
    · rw [List.getElem?_append_left (by omega)] at hb
      exact hx i b hb
    · subst hi
      rw [List.getElem?_append_right (by omega), hl, Nat.sub_self] at hb
      simp at hb
      subst hb
      exact ha
    · rw [List.getElem?_eq_none (by simp; omega)] at hb
      cases hb
theorem opens_slice {α : Type} {t e : TypeId} {d : Kd α} {g : α → Prop} (hu : P.underlying t = some (.slice e)) (hsz : P.cellsOf e = d.sz) (h : Opens P e d g) :
    Opens P t (Kd.slice e d) (fun xs => xs.length ≤ maxLen ∧ ∀ x ∈ xs, g x) := fun H enc fuel w cs x hx => by
  rcases Go.Deep.open_slice hu hx with ⟨rfl, _⟩ | ⟨a, len, cap, m, n, D, Pl, rfl, _, hl, hm, hmm, _, hel⟩
  · exact ⟨[], ⟨none, 0, rfl, Nat.le_refl _, rfl, by simp, fun h => absurd h (by simp)⟩, by simp, by simp⟩
  · rw [if_pos rfl] at hmm
    subst hmm
    obtain ⟨xs, hxl, hxs⟩ := list_of (p := fun i y => ∃ c, w.cells? 0 (a.add (i * d.sz)) d.sz = some c ∧ d.K w y c ∧ g y) len (fun i hi => by
      obtain ⟨c, hc, ht⟩ := hel i (by omega)
      rw [hsz] at hc
      obtain ⟨y, hK, hg⟩ := h H enc n w c _ ht
      exact ⟨y, c, hc, hK, hg⟩)
    subst hxl
    refine ⟨xs, ⟨some a, m, rfl, hl, rfl, ?_, fun _ => ⟨a, rfl, fun j p hp => ?_⟩⟩, by omega, fun y hy => ?_⟩
    · unfold maxLen at hm; omega
    · obtain ⟨c, hc, hK, _⟩ := hxs j p hp
      obtain ⟨hcl, hcg⟩ := cells_get hc
      exact ⟨c, hcl, hK, fun i u hu' => by rw [← Addr.add_add]; exact hcg i u hu'⟩
    · obtain ⟨j, hj⟩ := List.getElem?_of_mem hy
      obtain ⟨c, _, _, hg⟩ := hxs j y hj
      exact hg
def OpensF (P : Program) {α : Type} (fs : List Field) (d : Kd α) (g : α → Prop) (off : Nat) : Prop :=
  ∀ (H : Type) (enc : TypeId × Value → H) (fuel : Nat) (w : World) (cs : List Value) (xs : List (DataW H × List MemPlace)), cs.length = off + d.sz →
    (∀ (i : Nat) (f : Field), fs[i]? = some f → DataW.trod enc P w 0 (fun _ => true) true fuel f.type ((cs.drop f.offset).take (P.cellsOf f.type)) = xs[i]?) → xs.length = fs.length → ∃ a, d.K w a (cs.drop off) ∧ g a
theorem opensF_one {α : Type} {f : Field} {d : Kd α} {g : α → Prop} {off : Nat} (ho : f.offset = off) (hsz : P.cellsOf f.type = d.sz) (h : Opens P f.type d g) : OpensF P [f] d g off := fun H enc fuel w cs xs hl hx hn => by
  have h0 := hx 0 f rfl
  match xs, hn with
  | [x], _ =>
    rw [ho, hsz, List.take_of_length_le (by rw [List.length_drop]; omega)] at h0
    exact h H enc fuel w _ x h0
theorem opensF_cons {α β : Type} {f : Field} {fs : List Field} {d : Kd α} {d' : Kd β} {g : α → Prop} {g' : β → Prop} {off : Nat} (ho : f.offset = off) (hsz : P.cellsOf f.type = d.sz) (h : Opens P f.type d g) (hf : OpensF P fs d' g' (off + d.sz)) :
    OpensF P (f :: fs) (Kd.pair d d') (fun x => g x.1 ∧ g' x.2) off := fun H enc fuel w cs xs hl hx hn => by
  match xs, hn with
  | x :: xs, hn =>
    have h0 := hx 0 f rfl
    rw [ho, hsz] at h0
    obtain ⟨a, hK, hg⟩ := h H enc fuel w _ x h0
    have hl' : cs.length = off + (d.sz + d'.sz) := hl
    obtain ⟨b, hK', hg'⟩ := hf H enc fuel w cs xs (by omega) (fun i q hq => hx (i + 1) q hq) (by simpa using hn)
    refine ⟨(a, b), ⟨(cs.drop off).take d.sz, cs.drop (off + d.sz), ?_, hK, hK'⟩, hg, hg'⟩
    rw [← List.drop_drop, List.take_append_drop]
theorem opens_struct {α : Type} {t : TypeId} {fs : Array Field} {d : Kd α} {g : α → Prop} (hu : P.underlying t = some (.struct fs)) (hsz : P.cellsOf t = d.sz) (hf : OpensF P fs.toList d g 0) : Opens P t d g := fun H enc fuel w cs x hx => by
  obtain ⟨xs, m, rfl, _, hl, hlen, hel⟩ := DataW.trod_struct hu hx
  obtain ⟨a, hK, hg⟩ := hf H enc m w cs xs (by omega) (fun i f hi => hel i f (by rw [← Array.getElem?_toList]; exact hi)) (by simpa using hlen)
  exact ⟨a, hK, hg⟩
theorem opens_iso {α β : Type} {t : TypeId} {d : Kd α} {g : α → Prop} {f : β → α} (inv : α → β) (hi : ∀ x, f (inv x) = x) (h : Opens P t d g) : Opens P t (Kd.iso d f) (fun y => g (f y)) := fun H enc fuel w cs x hx => by
  obtain ⟨a, hK, hg⟩ := h H enc fuel w cs x hx
  refine ⟨inv a, ?_, by show g (f (inv a)); rw [hi]; exact hg⟩
  show d.K w (f (inv a)) cs
  rw [hi]
  exact hK
end
end Go.Proofs.YtnbghhddmlohoaaDoor.RowOpen

end

section
namespace Go.Proofs.YtnbghhddmlohoaaDoor.policyCheckOp
open Go.RowKit Go.Proofs.YtnbghhddmlohoaaDoor.PAll Go.Proofs.YtnbghhddmlohoaaDoorW.PrintWords Go.Proofs.YtnbghhddmlohoaaDoor.RowOpen
def G53 (y : S53) : Prop := y.f0.size ≤ maxLen ∧ (y.f1.length ≤ maxLen ∧ ∀ y4 ∈ y.f1, y4.size ≤ maxLen)
theorem o53 : Opens Tryd.prog 53 k53 G53 := Opens.imp (opens_iso (f := fun x : S53 => (x.f0, x.f1)) (fun x => (⟨x.1, x.2⟩ : S53)) (fun _ => rfl) (opens_struct Tryd.underlying53 (by kernel_rfl) (opensF_cons rfl (by kernel_rfl) (opens_string Tryd.underlying9) (opensF_one rfl (by kernel_rfl) (opens_slice Tryd.underlying23 (by kernel_rfl) (opens_string Tryd.underlying9)))))) (fun y h => h)
def G25 (y : S25) : Prop := (y.f0.length ≤ maxLen ∧ ∀ y4 ∈ y.f0, G53 y4) ∧ (y.f1.length ≤ maxLen ∧ ∀ y4 ∈ y.f1, y4.size ≤ maxLen) ∧ (y.f2.length ≤ maxLen ∧ ∀ y4 ∈ y.f2, y4.size ≤ maxLen) ∧ (y.f3.length ≤ maxLen ∧ ∀ y4 ∈ y.f3, y4.size ≤ maxLen) ∧ (Lit.int .i64 y.f4).wf = true
theorem o25 : Opens Tryd.prog 25 k25 G25 := Opens.imp (opens_iso (f := fun x : S25 => (x.f0, x.f1, x.f2, x.f3, x.f4)) (fun x => (⟨x.1, x.2.1, x.2.2.1, x.2.2.2.1, x.2.2.2.2⟩ : S25)) (fun _ => rfl) (opens_struct Tryd.underlying25 (by kernel_rfl) (opensF_cons rfl (by kernel_rfl) (opens_slice Tryd.underlying22 (by kernel_rfl) o53) (opensF_cons rfl (by kernel_rfl) (opens_slice Tryd.underlying23 (by kernel_rfl) (opens_string Tryd.underlying9)) (opensF_cons rfl (by kernel_rfl) (opens_slice Tryd.underlying23 (by kernel_rfl) (opens_string Tryd.underlying9)) (opensF_cons rfl (by kernel_rfl) (opens_slice Tryd.underlying23 (by kernel_rfl) (opens_string Tryd.underlying9)) (opensF_one rfl (by kernel_rfl) (opens_int Tryd.underlying3)))))))) (fun y h => h)
def Plain : Prop := ∀ (x0 : S25), G25 x0 → ∃ k, marginalialaw11_PolicyCheck.f k x0.f0 x0.f1 x0.f2 x0.f3 x0.f4 = some true
end Go.Proofs.YtnbghhddmlohoaaDoor.policyCheckOp

end

section
namespace Go.Proofs.YtnbghhddmlohoaaDoor.Pure
open Go.RowKit Go.Proofs.YtnbghhddmlohoaaDoor.PAll Go.Proofs.YtnbghhddmlohoaaDoorW.PrintWords Go.Proofs.YtnbghhddmlohoaaDoorW.PrintLast

theorem wrap_next {i : Nat} (h : i < 9223372036854775807) : wrap64 ((i : Int) + 1) = ((i + 1 : Nat) : Int) := by
  unfold wrap64
  omega
theorem bytes_data (s : ByteArray) : s.toList = s.data.toList := ByteArray.toList_eq s
theorem data_len (s : ByteArray) : s.data.toList.length = s.size := by simp
theorem bt_get (s : ByteArray) (i : Nat) (c : UInt8) (h : s.data.toList[i]? = some c) : bt s (i : Int) = (c.toNat : Int) := by
  obtain ⟨h1, h2⟩ := List.getElem?_eq_some_iff.1 h
  have h3 : i < s.size := by simpa using h1
  unfold bt
  rw [dif_pos (by omega), ← h2]
  rfl
theorem ext_take (s : ByteArray) (a b : Nat) : (s.extract a b).data.toList = (s.data.toList.drop a).take (b - a) := by
  have e : (s.extract a b).data = s.data.extract a b := by simp
  rw [e, Array.toList_extract, List.extract_eq_take_drop]
def sFig (c : UInt8) : Bool := decide (48 ≤ c.toNat ∧ c.toNat ≤ 57)
theorem u8_all {p : UInt8 → Prop} (h : ∀ n, n < 256 → p (UInt8.ofNat n)) (c : UInt8) : p c := by
  have := h c.toNat c.toNat_lt
  simpa using this
theorem rfigure_f (c : UInt8) : marginaliaref02_Figure.f (c.toNat : Int) = some (sFig c) := by
  revert c
  apply u8_all
  decide +kernel
end Go.Proofs.YtnbghhddmlohoaaDoor.Pure

end

section
namespace Go.Proofs.YtnbghhddmlohoaaDoor.Pure
open Go.RowKit Go.Proofs.YtnbghhddmlohoaaDoor.PAll Go.Proofs.YtnbghhddmlohoaaDoorW.PrintWords Go.Proofs.YtnbghhddmlohoaaDoorW.PrintLast

theorem drop_get (s : ByteArray) (i : Nat) (h : i < s.size) : ∃ c, s.data.toList[i]? = some c ∧ s.data.toList.drop i = c :: s.data.toList.drop (i + 1) := by
  have h' : i < s.data.toList.length := by rw [data_len]; exact h
  exact ⟨s.data.toList[i], List.getElem?_eq_getElem h', List.drop_eq_getElem_cons h'⟩
theorem rd_at (l : List ByteArray) (i : Nat) (h : i < l.length) : rdOf ByteArray.empty l (i : Int) = l[i] := by
  simp [rdOf, List.getD_eq_getElem?_getD, h]
theorem index_l0 (l : List ByteArray) (x : ByteArray) (hl : l.length ≤ 1000000) : ∀ (d i : Nat), i + d = l.length →
    ∃ n : Int, Ev (fun k => slices_Index_string_string.l0 k l x (l.length : Int) (i : Int)) n ∧ decide (n ≥ 0) = (l.drop i).any (fun y => y.data.toList == x.data.toList) := by
  intro d
  induction d with
  | zero =>
    intro i hi
    refine ⟨-1, Ev.step (f := fun _ => some (-1)) (fun k => ?_) (Ev.now _), ?_⟩
    · simp only [slices_Index_string_string.l0]
      rw [if_neg (by omega)]
    · rw [List.drop_of_length_le (by omega)]; rfl
  | succ d ih =>
    intro i hi
    have hlt : i < l.length := by omega
    rw [List.drop_eq_getElem_cons hlt, List.any_cons]
    by_cases h : l[i].data.toList = x.data.toList
    · refine ⟨(i : Int), Ev.step (f := fun _ => some (i : Int)) (fun k => ?_) (Ev.now _), ?_⟩
      · simp only [slices_Index_string_string.l0]
        rw [if_pos (by omega), if_pos (by omega), if_pos (by omega), rd_at l i hlt, bytes_data, bytes_data, if_pos h.symm]
      · rw [h, beq_self_eq_true, Bool.true_or, decide_eq_true (by omega)]
    · obtain ⟨n, h1, h2⟩ := ih (i + 1) (by omega)
      refine ⟨n, Ev.step (f := fun k => slices_Index_string_string.l0 k l x (l.length : Int) ((i + 1 : Nat) : Int)) (fun k => ?_) h1, ?_⟩
      · simp only [slices_Index_string_string.l0]
        rw [if_pos (by omega), if_pos (by omega), if_pos (by omega), rd_at l i hlt, bytes_data, bytes_data, if_neg (fun e => h e.symm), wrap_next (by omega)]
      · have e : (l[i].data.toList == x.data.toList) = false := beq_eq_false_iff_ne.mpr h
        rw [h2, e, Bool.false_or]
theorem contains_ev (l : List ByteArray) (x : ByteArray) (hl : l.length ≤ 1000000) : Ev (fun k => slices_Contains_string_string.f k l x) (l.any fun y => y.data.toList == x.data.toList) := by
  obtain ⟨n, h1, h2⟩ := index_l0 l x hl l.length 0 (by omega)
  rw [List.drop_zero] at h2
  rw [← h2]
  unfold slices_Contains_string_string.f
  exact Ev.bind (f := fun _ t => some (decide (t ≥ 0))) h1 (Ev.now _)
end Go.Proofs.YtnbghhddmlohoaaDoor.Pure

end

section
namespace Go.Proofs.YtnbghhddmlohoaaDoor.Pure
open Go.RowKit Go.Proofs.YtnbghhddmlohoaaDoor.PAll Go.Proofs.YtnbghhddmlohoaaDoorW.PrintWords Go.Proofs.YtnbghhddmlohoaaDoorW.PrintLast

def w_raw : List (List UInt8) := [[105, 102, 114, 97, 109, 101], [110, 111, 101, 109, 98, 101, 100], [110, 111, 102, 114, 97, 109, 101, 115], [115, 99, 114, 105, 112, 116], [115, 116, 121, 108, 101], [120, 109, 112]]
def w_rcdata : List (List UInt8) := [[116, 101, 120, 116, 97, 114, 101, 97], [116, 105, 116, 108, 101]]
def w_table : List (List UInt8) := [[99, 97, 112, 116, 105, 111, 110], [99, 111, 108], [99, 111, 108, 103, 114, 111, 117, 112], [116, 98, 111, 100, 121], [116, 100], [116, 102, 111, 111, 116], [116, 104], [116, 104, 101, 97, 100], [116, 114]]
def w_skip : List (List UInt8) := [[98, 111, 100, 121], [102, 114, 97, 109, 101], [102, 114, 97, 109, 101, 115, 101, 116], [104, 101, 97, 100], [104, 116, 109, 108]]

def setK (k : Int) : List (List UInt8) :=
  if k = 2 then w_raw else if k = 3 then w_rcdata else if k = 12 then w_table ++ w_skip else []
def inK (k : Int) (name : ByteArray) : Bool := (setK k).contains name.data.toList

theorem size_toList (s : ByteArray) : s.toList.length = s.size := by rw [bytes_data]; simp
theorem bt_nat (s : ByteArray) (i : Nat) (h : i < s.size) : bt s (i : Int) = ((s.toList.getD i 0).toNat : Int) := by
  have h' : i < s.data.size := h
  rw [bytes_data]
  simp [bt, h, List.getD_eq_getElem?_getD]
  rfl
theorem among_l0 (a0 : ByteArray) (xs : List ByteArray) (hx : xs.length ≤ 1000000) : ∀ (d i k : Nat), i + d = xs.length → d < k →
    kind_among.l0 k a0 xs (xs.length : Int) (i : Int) = some ((xs.drop i).any fun s => s.toList == a0.toList) := by
  intro d
  induction d with
  | zero =>
    intro i k hi hk
    obtain ⟨k, rfl⟩ : ∃ m, k = m + 1 := ⟨k - 1, by omega⟩
    simp only [kind_among.l0]
    rw [if_neg (by omega), List.drop_of_length_le (by omega)]
    rfl
  | succ d ih =>
    intro i k hi hk
    obtain ⟨k, rfl⟩ : ∃ m, k = m + 1 := ⟨k - 1, by omega⟩
    have hlt : i < xs.length := by omega
    simp only [kind_among.l0]
    rw [if_pos (by omega), if_pos (by omega), if_pos (by omega), wrap_next (by omega), ih (i + 1) k (by omega) (by omega)]
    have e : rdOf ByteArray.empty xs (i : Int) = xs[i] := by simp [rdOf, List.getD_eq_getElem?_getD, hlt]
    rw [e, List.drop_eq_getElem_cons hlt, List.any_cons]
    by_cases h : xs[i].toList = a0.toList
    · rw [if_pos h]; simp [h]
    · rw [if_neg h]; simp [h]
theorem among_ev (a0 : ByteArray) (xs : List ByteArray) (hx : xs.length ≤ 1000000) : Ev (fun k => kind_among.f k a0 xs) ((xs.map fun s => s.data.toList).contains a0.data.toList) := by
  refine ⟨xs.length + 1, fun k hk => ?_⟩
  have h := among_l0 a0 xs hx xs.length 0 k (by omega) (by omega)
  unfold kind_among.f
  rw [List.drop_zero] at h
  refine Eq.trans h ?_
  congr 1
  rw [List.contains_eq_any_beq, List.any_map]
  apply congrArg (fun p => List.any xs p)
  funext s
  rw [bytes_data, bytes_data]
  exact Bool.beq_comm
theorem raw_ev (a0 : ByteArray) : Ev (fun k => kind_raw.f k a0) (w_raw.contains a0.data.toList) := by
  unfold kind_raw.f
  refine Ev.bind (among_ev a0 _ (by decide)) ?_
  exact ⟨0, fun _ _ => rfl⟩
theorem rcdata_ev (a0 : ByteArray) : Ev (fun k => kind_rcdata.f k a0) (w_rcdata.contains a0.data.toList) := by
  unfold kind_rcdata.f
  refine Ev.bind (among_ev a0 _ (by decide)) ?_
  exact ⟨0, fun _ _ => rfl⟩
theorem table_ev (a0 : ByteArray) : Ev (fun k => kind_table.f k a0) (w_table.contains a0.data.toList) := by
  unfold kind_table.f
  refine Ev.bind (among_ev a0 _ (by decide)) ?_
  exact ⟨0, fun _ _ => rfl⟩
theorem Ev.or {g : Nat → Option Bool} {f : Nat → Option Bool} {b c : Bool} (h : Ev g b) (h' : Ev f c) : Ev (fun n => (g n).bind fun t => if t = true then some true else f n) (b || c) := by
  refine Ev.bind h ?_
  cases b with
  | true => exact ⟨0, fun _ _ => rfl⟩
  | false => exact Ev.congr (fun _ => rfl) h'
theorem Ev.pass {g : Nat → Option Bool} {b : Bool} (h : Ev g b) : Ev (fun n => (g n).bind fun t => some t) b := by
  refine Ev.bind h ?_
  exact ⟨0, fun _ _ => rfl⟩
theorem contains_append (a b : List (List UInt8)) (x : List UInt8) : (a ++ b).contains x = (a.contains x || b.contains x) := by
  simp
theorem is_ev (k0 : Int) (a1 : ByteArray) (h : k0 = 2 ∨ k0 = 3 ∨ k0 = 12 := by decide) : Ev (fun k => kind_Is.f k k0 a1) (inK k0 a1) := by
  unfold inK
  rcases h with rfl | rfl | rfl
  · exact Ev.congr (fun _ => rfl) (Ev.pass (raw_ev a1))
  · exact Ev.congr (fun _ => rfl) (Ev.pass (rcdata_ev a1))
  · have e : setK 12 = w_table ++ w_skip := rfl
    rw [e, contains_append]
    exact Ev.congr (fun _ => rfl) (Ev.or (table_ev a1) (Ev.pass (among_ev a1 _ (by decide))))
end Go.Proofs.YtnbghhddmlohoaaDoor.Pure

end

section
namespace Go.Proofs.YtnbghhddmlohoaaDoor.Pure
open Go.RowKit Go.Proofs.YtnbghhddmlohoaaDoor.PAll Go.Proofs.YtnbghhddmlohoaaDoorW.PrintWords Go.Proofs.YtnbghhddmlohoaaDoorW.PrintLast

def splitG : List UInt8 → List UInt8 → List (List UInt8)
  | cur, [] => [cur]
  | cur, c :: r => if c = 32 then cur :: splitG [] r else splitG (cur ++ [c]) r
def splitB (s : ByteArray) : List (List UInt8) := splitG [] s.data.toList

theorem extract_take (s : ByteArray) (a b : Nat) : (s.extract a b).toList = (s.data.toList.drop a).take (b - a) := by
  rw [bytes_data]
  have e : (s.extract a b).data = s.data.extract a b := by simp
  rw [e, Array.toList_extract, List.extract_eq_take_drop]
theorem bt_data (s : ByteArray) (i : Nat) (h : i < s.size) (h' : i < s.data.toList.length) : bt s (i : Int) = (s.data.toList[i].toNat : Int) := by
  rw [bt_nat s i h, bytes_data, List.getD_eq_getElem?_getD, List.getElem?_eq_getElem h']
  rfl
theorem in_l0 (x0 x1 : ByteArray) (hs : x0.size ≤ 1000000) : ∀ (d b i k : Nat), i + d = x0.size → b ≤ i → 2 * d + 2 < k →
    marginaliaref02_In.l0 k x0 x1 (b : Int) (i : Int) = some ((splitG ((x0.data.toList.drop b).take (i - b)) (x0.data.toList.drop i)).contains x1.data.toList) := by
  have hlen : x0.data.toList.length = x0.size := by simp
  intro d
  induction d with
  | zero =>
    intro b i k hi hb hk
    obtain ⟨k, rfl⟩ : ∃ m, k = m + 3 := ⟨k - 3, by omega⟩
    simp only [marginaliaref02_In.l0, marginaliaref02_In.j1]
    rw [if_pos (by omega), if_pos (by omega), if_pos trivial, if_pos (by omega), if_pos (by omega), if_pos (by omega)]
    rw [List.drop_of_length_le (show x0.data.toList.length ≤ i by omega)]
    rw [Int.toNat_natCast, Int.toNat_natCast, extract_take x0 b i, bytes_data]
    simp only [splitG]
    by_cases e : (x0.data.toList.drop b).take (i - b) = x1.data.toList
    · rw [if_pos e]; simp [e]
    · rw [if_neg e, wrap_next (by omega), if_neg (by omega)]
      simp [Ne.symm e]
  | succ d ih =>
    intro b i k hi hb hk
    obtain ⟨k, rfl⟩ : ∃ m, k = m + 2 := ⟨k - 2, by omega⟩
    have hlt : i < x0.size := by omega
    have hlt' : i < x0.data.toList.length := by omega
    simp only [marginaliaref02_In.l0, marginaliaref02_In.j1]
    rw [if_pos (by omega), if_neg (by omega), if_pos (by omega), if_pos (by omega)]
    rw [bt_data x0 i hlt hlt', wrap_next (by omega)]
    rw [List.drop_eq_getElem_cons hlt']
    simp only [splitG]
    by_cases e : x0.data.toList[i] = 32
    · have e' : (((x0.data.toList[i]).toNat : Int) == 32) = true := by rw [e]; rfl
      rw [e', if_pos rfl, if_pos e, if_pos (by omega), if_pos (by omega), if_pos (by omega), ih (i + 1) (i + 1) k (by omega) (by omega) (by omega)]
      rw [Int.toNat_natCast, Int.toNat_natCast, extract_take x0 b i, bytes_data x1]
      rw [Nat.sub_self, List.take_zero]
      by_cases q : (x0.data.toList.drop b).take (i - b) = x1.data.toList
      · rw [if_pos q]; simp [q]
      · rw [if_neg q]; simp [Ne.symm q]
    · have e' : (((x0.data.toList[i]).toNat : Int) == 32) = false := by
        rw [beq_eq_false_iff_ne]
        intro q
        exact e (UInt8.toNat.inj (show _ = 32 by omega))
      rw [e', if_neg (by simp), if_neg e, ih b (i + 1) k (by omega) (by omega) (by omega)]
      rw [show i + 1 - b = (i - b) + 1 by omega, List.take_add_one, List.getElem?_drop, show b + (i - b) = i by omega, List.getElem?_eq_getElem hlt']
      rfl
theorem in_ev (a0 a1 : ByteArray) (hs : a0.size ≤ 1000000) : Ev (fun k => marginaliaref02_In.f k a0 a1) ((splitB a0).contains a1.data.toList) := by
  refine ⟨2 * a0.size + 3, fun k hk => ?_⟩
  have h := in_l0 a0 a1 hs a0.size 0 0 k (by omega) (by omega) (by omega)
  rw [List.drop_zero, Nat.sub_zero, List.take_zero] at h
  exact h
def anyIn (xs : List ByteArray) (x : List UInt8) : Bool := xs.any fun s => (splitB s).contains x
theorem refIs_l0 (x1 : ByteArray) (xs : List ByteArray) (hx : xs.length ≤ 1000000) (hs : ∀ s ∈ xs, s.size ≤ 1000000) : ∀ (d i : Nat), i + d = xs.length →
    Ev (fun k => marginaliaref02_Is.l0 k x1 xs (i : Int)) (anyIn (xs.drop i) x1.data.toList) := by
  intro d
  induction d with
  | zero =>
    intro i hi
    refine Ev.step (f := fun _ => some false) (fun k => ?_) ?_
    · simp only [marginaliaref02_Is.l0]; rw [if_neg (by omega)]
    · rw [List.drop_of_length_le (by omega)]; exact ⟨0, fun _ _ => rfl⟩
  | succ d ih =>
    intro i hi
    have hlt : i < xs.length := by omega
    refine Ev.step (f := fun k => (marginaliaref02_In.f k xs[i] x1).bind fun t => if t = true then some true else marginaliaref02_Is.l0 k x1 xs ((i + 1 : Nat) : Int)) (fun k => ?_) ?_
    · simp only [marginaliaref02_Is.l0]
      have e : rdOf ByteArray.empty xs (i : Int) = xs[i] := by simp [rdOf, List.getD_eq_getElem?_getD, hlt]
      rw [if_pos (by omega), if_pos (by omega), e, wrap_next (by omega)]
    · rw [List.drop_eq_getElem_cons hlt]
      exact Ev.or (in_ev xs[i] x1 (hs _ (List.getElem_mem hlt))) (ih (i + 1) (by omega))
theorem refIs_of {k0 : Int} {xs : List ByteArray} (h : marginaliaref02_names.f k0 = some xs) (x1 : ByteArray) (hx : xs.length ≤ 1000000) (hs : ∀ s ∈ xs, s.size ≤ 1000000) :
    Ev (fun k => marginaliaref02_Is.f k k0 x1) (anyIn xs x1.data.toList) := by
  have h0 := refIs_l0 x1 xs hx hs xs.length 0 (by omega)
  rw [List.drop_zero] at h0
  unfold marginaliaref02_Is.f
  exact Ev.bind ⟨0, fun _ _ => h⟩ h0
theorem anyIn_eq {xs : List ByteArray} {S : List (List UInt8)} (h1 : ∀ y ∈ S, y ∈ xs.flatMap splitB) (h2 : ∀ y ∈ xs.flatMap splitB, y ∈ S) (x : List UInt8) : anyIn xs x = S.contains x := by
  rw [Bool.eq_iff_iff, List.contains_iff_mem]
  unfold anyIn
  rw [List.any_eq_true]
  constructor
  · rintro ⟨s, hs, hc⟩
    exact h2 x (List.mem_flatMap.2 ⟨s, hs, List.contains_iff_mem.1 hc⟩)
  · intro h
    obtain ⟨s, hs, hc⟩ := List.mem_flatMap.1 (h1 x h)
    exact ⟨s, hs, List.contains_iff_mem.2 hc⟩
theorem refIs_set (k0 : Int) (xs : List ByteArray) (h : marginaliaref02_names.f k0 = some xs) (x1 : ByteArray) (hx : xs.length ≤ 1000000) (hs : ∀ s ∈ xs, s.size ≤ 1000000)
    (h1 : ∀ y ∈ setK k0, y ∈ xs.flatMap splitB) (h2 : ∀ y ∈ xs.flatMap splitB, y ∈ setK k0) : Ev (fun k => marginaliaref02_Is.f k k0 x1) (inK k0 x1) := by
  unfold inK
  rw [← anyIn_eq h1 h2]
  exact refIs_of h x1 hx hs
theorem refIs_ev (k0 : Int) (x1 : ByteArray) (h : k0 = 2 ∨ k0 = 3 ∨ k0 = 12 := by decide) : Ev (fun k => marginaliaref02_Is.f k k0 x1) (inK k0 x1) := by
  rcases h with rfl | rfl | rfl
  · exact refIs_set 2 _ rfl x1 (by decide +kernel) (by decide +kernel) (by decide +kernel) (by decide +kernel)
  · exact refIs_set 3 _ rfl x1 (by decide +kernel) (by decide +kernel) (by decide +kernel) (by decide +kernel)
  · exact refIs_set 12 _ rfl x1 (by decide +kernel) (by decide +kernel) (by decide +kernel) (by decide +kernel)
end Go.Proofs.YtnbghhddmlohoaaDoor.Pure

end

section
namespace Go.Proofs.YtnbghhddmlohoaaDoor.Pure
open Go.RowKit Go.Proofs.YtnbghhddmlohoaaDoor.PAll Go.Proofs.YtnbghhddmlohoaaDoorW.PrintWords Go.Proofs.YtnbghhddmlohoaaDoorW.PrintLast

theorem Ev.way {α : Type} {g : Nat → Option Bool} {b : Bool} {X Y : Nat → Option α} {r : α} (h : Ev g b) (hx : b = true → Ev X r) (hy : b = false → Ev Y r) :
    Ev (fun n => (g n).bind fun t => if t = true then X n else Y n) r := by
  cases b with
  | true => exact Ev.bind (f := fun n t => if t = true then X n else Y n) h (Ev.congr (fun k => if_pos rfl) (hx rfl))
  | false => exact Ev.bind (f := fun n t => if t = true then X n else Y n) h (Ev.congr (fun k => if_neg (by decide)) (hy rfl))
def memB (l : List ByteArray) (x : ByteArray) : Bool := l.any fun y => y.data.toList == x.data.toList
def nmGo : List ByteArray → List ByteArray → Bool
  | _, [] => true
  | pre, x :: r => nameB x && (!memB pre x && nmGo (pre ++ [x]) r)
def namesS (l : List ByteArray) : Bool := nmGo [] l
theorem take_next (l : List ByteArray) (i : Nat) (h : i < l.length) : l.take i ++ [l[i]] = l.take (i + 1) := by
  rw [List.take_add_one, List.getElem?_eq_getElem h]; rfl
theorem areNames_l0 (l : List ByteArray) (hl : l.length ≤ 1000000) : ∀ (d i : Nat), i + d = l.length → Ev (fun k => policy_areNames.l0 k l l (l.length : Int) (i : Int)) (nmGo (l.take i) (l.drop i)) := by
  intro d
  induction d with
  | zero =>
    intro i hi
    refine Ev.step (f := fun _ => some true) (fun k => ?_) ?_
    · simp only [policy_areNames.l0]
      rw [if_neg (by omega)]
    · rw [List.drop_of_length_le (by omega)]; exact Ev.now _
  | succ d ih =>
    intro i hi
    have hlt : i < l.length := by omega
    rw [List.drop_eq_getElem_cons hlt]
    refine Ev.step (f := fun k => (policy_isName.f l[i]).bind fun t => if t = true then ((slices_Contains_string_string.f k (l.take i) l[i]).bind fun t2 => if t2 = true then some false else policy_areNames.l0 k l l (l.length : Int) ((i + 1 : Nat) : Int)) else some false) (fun k => ?_) ?_
    · simp only [policy_areNames.l0]
      rw [if_pos (by omega), if_pos (by omega), if_pos (by omega), rd_at l i hlt, wrap_next (by omega), if_pos (show (i : Int) ≤ (l.length : Int) by omega)]
      rfl
    · unfold nmGo
      refine Ev.way (g := fun _ => policy_isName.f l[i]) (b := nameB l[i]) ⟨0, fun _ _ => rfl⟩ (fun hn => ?_) (fun hn => ?_)
      · refine Ev.way (contains_ev (l.take i) l[i] (by rw [List.length_take]; omega)) (fun hm => ?_) (fun hm => ?_)
        · rw [hn, show memB (l.take i) l[i] = true from hm]; exact Ev.now _
        · rw [hn, show memB (l.take i) l[i] = false from hm, take_next l i hlt]; exact ih (i + 1) (by omega)
      · rw [hn]; exact Ev.now _
theorem areNames_ev (l : List ByteArray) (hl : l.length ≤ 1000000) : Ev (fun k => policy_areNames.f k l) (namesS l) := by
  have h := areNames_l0 l hl l.length 0 (by omega)
  rw [List.take_zero, List.drop_zero] at h
  exact h
theorem refin_l0 (l : List ByteArray) (x : ByteArray) (hl : l.length ≤ 1000000) : ∀ (d i : Nat), i + d = l.length → Ev (fun k => marginaliaref11_in.l0 k l x (i : Int)) (memB (l.drop i) x) := by
  intro d
  induction d with
  | zero =>
    intro i hi
    refine Ev.step (f := fun _ => some false) (fun k => ?_) ?_
    · simp only [marginaliaref11_in.l0]
      rw [if_neg (by omega)]
    · rw [List.drop_of_length_le (by omega)]; exact Ev.now _
  | succ d ih =>
    intro i hi
    have hlt : i < l.length := by omega
    rw [List.drop_eq_getElem_cons hlt]
    unfold memB
    rw [List.any_cons]
    by_cases h : l[i].data.toList = x.data.toList
    · refine Ev.step (f := fun _ => some true) (fun k => ?_) ?_
      · simp only [marginaliaref11_in.l0]
        rw [if_pos (by omega), if_pos (by omega), rd_at l i hlt, bytes_data, bytes_data, if_pos h]
      · rw [h, beq_self_eq_true, Bool.true_or]; exact Ev.now _
    · refine Ev.step (f := fun k => marginaliaref11_in.l0 k l x ((i + 1 : Nat) : Int)) (fun k => ?_) ?_
      · simp only [marginaliaref11_in.l0]
        rw [if_pos (by omega), if_pos (by omega), rd_at l i hlt, bytes_data, bytes_data, if_neg h, wrap_next (by omega)]
      · have e : (l[i].data.toList == x.data.toList) = false := beq_eq_false_iff_ne.mpr h
        rw [e, Bool.false_or]
        exact ih (i + 1) (by omega)
theorem refin_ev (l : List ByteArray) (x : ByteArray) (hl : l.length ≤ 1000000) : Ev (fun k => marginaliaref11_in.f k l x) (memB l x) := by
  have h := refin_l0 l x hl l.length 0 (by omega)
  rw [List.drop_zero] at h
  exact h
theorem nmC_ref (c : UInt8) : nmC (c.toNat : Int) = (decide ((c.toNat : Int) ≥ 97 ∧ (c.toNat : Int) ≤ 122) || (sFig c || decide ((c.toNat : Int) = 45))) := by
  revert c
  apply u8_all
  decide +kernel
theorem refName_l0 (s : ByteArray) (hs : s.size ≤ 1000000) : ∀ (d i : Nat), i + d = s.size → Ev (fun k => marginaliaref11_Name.l0 k s (i : Int)) ((s.data.toList.drop i).all (fun c => nmC (c.toNat : Int))) := by
  intro d
  induction d with
  | zero =>
    intro i hi
    refine Ev.step (f := fun _ => some true) (fun k => ?_) ?_
    · simp only [marginaliaref11_Name.l0]
      rw [if_neg (by omega)]
    · rw [List.drop_of_length_le (by rw [data_len]; omega)]; exact Ev.now _
  | succ d ih =>
    intro i hi
    have hlt : i < s.size := by omega
    obtain ⟨c, hc, hd⟩ := drop_get s i hlt
    have hb := bt_get s i c hc
    rw [hd, List.all_cons, nmC_ref]
    refine Ev.step (f := fun k => if (c.toNat : Int) ≥ 97 then (if (c.toNat : Int) ≤ 122 then marginaliaref11_Name.l0 k s ((i + 1 : Nat) : Int) else ((some (sFig c)).bind fun t => if t = true then marginaliaref11_Name.l0 k s ((i + 1 : Nat) : Int) else (if (c.toNat : Int) = 45 then marginaliaref11_Name.l0 k s ((i + 1 : Nat) : Int) else some false))) else ((some (sFig c)).bind fun t => if t = true then marginaliaref11_Name.l0 k s ((i + 1 : Nat) : Int) else (if (c.toNat : Int) = 45 then marginaliaref11_Name.l0 k s ((i + 1 : Nat) : Int) else some false))) (fun k => ?_) ?_
    · simp only [marginaliaref11_Name.l0]
      rw [if_pos (by omega), if_pos (by omega), hb, rfigure_f, wrap_next (by omega)]
    · have hrest : Ev (fun k => (some (sFig c)).bind fun t => if t = true then marginaliaref11_Name.l0 k s ((i + 1 : Nat) : Int) else (if (c.toNat : Int) = 45 then marginaliaref11_Name.l0 k s ((i + 1 : Nat) : Int) else some false)) ((sFig c || decide ((c.toNat : Int) = 45)) && (s.data.toList.drop (i + 1)).all (fun c => nmC (c.toNat : Int))) := by
        refine Ev.way (g := fun _ => some (sFig c)) (Ev.now _) (fun h => ?_) (fun h => ?_)
        · rw [h]; exact ih (i + 1) (by omega)
        · rw [h]
          by_cases h45 : (c.toNat : Int) = 45
          · rw [decide_eq_true h45]
            exact Ev.congr (fun k => if_pos h45) (ih (i + 1) (by omega))
          · rw [decide_eq_false h45]
            exact Ev.congr (fun k => if_neg h45) (Ev.now _)
      by_cases h97 : (c.toNat : Int) ≥ 97
      · by_cases h122 : (c.toNat : Int) ≤ 122
        · rw [decide_eq_true (show (c.toNat : Int) ≥ 97 ∧ (c.toNat : Int) ≤ 122 from ⟨h97, h122⟩)]
          exact Ev.congr (fun k => by rw [if_pos h97, if_pos h122]) (ih (i + 1) (by omega))
        · rw [decide_eq_false (show ¬ ((c.toNat : Int) ≥ 97 ∧ (c.toNat : Int) ≤ 122) from fun h => h122 h.2)]
          exact Ev.congr (fun k => by rw [if_pos h97, if_neg h122]) hrest
      · rw [decide_eq_false (show ¬ ((c.toNat : Int) ≥ 97 ∧ (c.toNat : Int) ≤ 122) from fun h => h97 h.1)]
        exact Ev.congr (fun k => by rw [if_neg h97]) hrest
theorem refName_ev (s : ByteArray) : Ev (fun k => marginaliaref11_Name.f k s) (nameB s) := by
  have hj : ∀ b : Bool, Ev (fun k => marginaliaref11_Name.j0 k s b) (if b = true then false else if s.size ≤ 20 then s.data.toList.all (fun c => nmC (c.toNat : Int)) else false) ∨ ¬ s.size ≤ 20 := by
    intro b
    by_cases hs : s.size ≤ 20
    · left
      have h := refName_l0 s (by omega) s.size 0 (by omega)
      rw [List.drop_zero] at h
      refine Ev.step (f := fun k => if b = true then some false else marginaliaref11_Name.l0 k s 0) (fun k => ?_) ?_
      · simp only [marginaliaref11_Name.j0]
      · cases b with
        | true => exact Ev.congr (fun k => if_pos rfl) (Ev.now _)
        | false => rw [if_neg (by decide), if_pos hs]; exact Ev.congr (fun k => if_neg (by decide)) h
    · exact .inr hs
  have hjt : Ev (fun k => marginaliaref11_Name.j0 k s true) false := Ev.step (f := fun _ => some false) (fun k => by simp only [marginaliaref11_Name.j0]; rfl) (Ev.now _)
  unfold marginaliaref11_Name.f nameB
  by_cases h1 : (s.size : Int) < 1
  · rw [decide_eq_false (show ¬ (1 ≤ s.size ∧ s.size ≤ 20) by omega)]
    exact Ev.congr (fun k => if_pos h1) hjt
  · by_cases h20 : (s.size : Int) > 20
    · rw [decide_eq_false (show ¬ (1 ≤ s.size ∧ s.size ≤ 20) by omega)]
      exact Ev.congr (fun k => by rw [if_neg h1, if_pos h20]) hjt
    · rw [decide_eq_true (show 1 ≤ s.size ∧ s.size ≤ 20 by omega), Bool.true_and]
      by_cases ha : bt s 0 < 97
      · rw [decide_eq_false (show ¬ (97 ≤ bt s 0 ∧ bt s 0 ≤ 122) by omega), Bool.false_and]
        exact Ev.congr (fun k => by rw [if_neg h1, if_neg h20, if_pos (by omega), if_pos ha]) hjt
      · by_cases hb : bt s 0 > 122
        · rw [decide_eq_false (show ¬ (97 ≤ bt s 0 ∧ bt s 0 ≤ 122) by omega), Bool.false_and]
          exact Ev.congr (fun k => by rw [if_neg h1, if_neg h20, if_pos (by omega), if_neg ha, decide_eq_true hb]) hjt
        · rw [decide_eq_true (show 97 ≤ bt s 0 ∧ bt s 0 ≤ 122 by omega), Bool.true_and]
          have h := (hj false).resolve_right (by omega)
          rw [if_neg (by decide), if_pos (by omega)] at h
          exact Ev.congr (fun k => by rw [if_neg h1, if_neg h20, if_pos (by omega), if_neg ha, decide_eq_false hb]) h
theorem refnames_l0 (l : List ByteArray) (hl : l.length ≤ 1000000) : ∀ (d i : Nat), i + d = l.length → Ev (fun k => marginaliaref11_names.l0 k l (i : Int)) (nmGo (l.take i) (l.drop i)) := by
  intro d
  induction d with
  | zero =>
    intro i hi
    refine Ev.step (f := fun _ => some true) (fun k => ?_) ?_
    · simp only [marginaliaref11_names.l0]
      rw [if_neg (by omega)]
    · rw [List.drop_of_length_le (by omega)]; exact Ev.now _
  | succ d ih =>
    intro i hi
    have hlt : i < l.length := by omega
    rw [List.drop_eq_getElem_cons hlt]
    refine Ev.step (f := fun k => (marginaliaref11_Name.f k l[i]).bind fun t => if t = true then ((marginaliaref11_in.f k (l.take i) l[i]).bind fun t2 => if t2 = true then some false else marginaliaref11_names.l0 k l ((i + 1 : Nat) : Int)) else some false) (fun k => ?_) ?_
    · simp only [marginaliaref11_names.l0]
      rw [if_pos (by omega), if_pos (by omega), rd_at l i hlt, wrap_next (by omega), if_pos (show (i : Int) ≤ (l.length : Int) by omega)]
      rfl
    · unfold nmGo
      refine Ev.way (refName_ev l[i]) (fun hn => ?_) (fun hn => ?_)
      · refine Ev.way (refin_ev (l.take i) l[i] (by rw [List.length_take]; omega)) (fun hm => ?_) (fun hm => ?_)
        · rw [hn, hm]; exact Ev.now _
        · rw [hn, hm, take_next l i hlt]; exact ih (i + 1) (by omega)
      · rw [hn]; exact Ev.now _
theorem refnames_ev (l : List ByteArray) (hl : l.length ≤ 1000000) : Ev (fun k => marginaliaref11_names.f k l) (namesS l) := by
  have h := refnames_l0 l hl l.length 0 (by omega)
  rw [List.take_zero, List.drop_zero] at h
  exact h
end Go.Proofs.YtnbghhddmlohoaaDoor.Pure

end

section
namespace Go.Proofs.YtnbghhddmlohoaaDoor.Pure
open Go.RowKit Go.Proofs.YtnbghhddmlohoaaDoor.PAll Go.Proofs.YtnbghhddmlohoaaDoorW.PrintWords Go.Proofs.YtnbghhddmlohoaaDoorW.PrintLast

def hardN : List (List UInt8) := [[109, 97, 116, 104], [110, 111, 115, 99, 114, 105, 112, 116], [112, 108, 97, 105, 110, 116, 101, 120, 116], [115, 118, 103], [116, 101, 109, 112, 108, 97, 116, 101]]
def neverS (s : ByteArray) : Bool := hardN.contains s.data.toList || (inK 2 s || (inK 3 s || inK 12 s))
theorem never_j0 (s : ByteArray) (b : Bool) : Ev (fun k => policy_never.j0 k s b) (b || (inK 2 s || (inK 3 s || inK 12 s))) := by
  refine Ev.step (f := fun k => if b = true then some true else ((kind_Is.f k 2 s).bind fun t => if t = true then some true else ((kind_Is.f k 3 s).bind fun t => if t = true then some true else ((kind_Is.f k 12 s).bind fun t => some t)))) (fun k => by simp only [policy_never.j0]) ?_
  cases b with
  | true => exact Ev.congr (fun k => if_pos rfl) (Ev.now _)
  | false =>
    refine Ev.congr (fun k => if_neg (by decide)) ?_
    rw [Bool.false_or]
    exact Ev.or (is_ev 2 s) (Ev.or (is_ev 3 s) (Ev.pass (is_ev 12 s)))
theorem never_ev (s : ByteArray) : Ev (fun k => policy_never.f k s) (neverS s) := by
  have hc : ∀ L : List UInt8, (s.data.toList == L) = (s.toList == L) := fun L => by rw [bytes_data]
  have e : neverS s = (s.toList == [109, 97, 116, 104] || (s.toList == [110, 111, 115, 99, 114, 105, 112, 116] || (s.toList == [112, 108, 97, 105, 110, 116, 101, 120, 116] || (s.toList == [115, 118, 103] || (s.toList == [116, 101, 109, 112, 108, 97, 116, 101]))))
      || (inK 2 s || (inK 3 s || inK 12 s))) := by
    unfold neverS hardN
    simp only [List.contains_cons, List.contains_nil, Bool.or_false, hc]
  rw [e]
  unfold policy_never.f
  by_cases h1 : s.toList = ([109, 97, 116, 104] : List UInt8)
  · rw [h1]
    exact Ev.congr (fun k => if_pos rfl) (never_j0 s true)
  · rw [beq_eq_false_iff_ne.mpr h1, Bool.false_or]
    refine Ev.congr (fun k => if_neg h1) ?_
    by_cases h2 : s.toList = ([110, 111, 115, 99, 114, 105, 112, 116] : List UInt8)
    · rw [h2]
      exact Ev.congr (fun k => if_pos rfl) (never_j0 s true)
    · rw [beq_eq_false_iff_ne.mpr h2, Bool.false_or]
      refine Ev.congr (fun k => if_neg h2) ?_
      by_cases h3 : s.toList = ([112, 108, 97, 105, 110, 116, 101, 120, 116] : List UInt8)
      · rw [h3]
        exact Ev.congr (fun k => if_pos rfl) (never_j0 s true)
      · rw [beq_eq_false_iff_ne.mpr h3, Bool.false_or]
        refine Ev.congr (fun k => if_neg h3) ?_
        by_cases h4 : s.toList = ([115, 118, 103] : List UInt8)
        · rw [h4]
          exact Ev.congr (fun k => if_pos rfl) (never_j0 s true)
        · rw [beq_eq_false_iff_ne.mpr h4, Bool.false_or]
          exact Ev.congr (fun k => if_neg h4) (never_j0 s _)
def restB (dr : List ByteArray) (x : S53) : Bool := !neverS x.f0 && (!memB dr x.f0 && (namesS x.f1 && !x.f1.any actsB))
def chkGo (dr : List ByteArray) : List ByteArray → List S53 → Bool
  | all, [] => namesS all
  | all, x :: r => restB dr x && chkGo dr (all ++ [x.f0]) r
theorem rdT_at (l : List S53) (i : Nat) (h : i < l.length) : rd_T53 l (i : Int) = l[i] := by
  simp [rd_T53, List.getD_eq_getElem?_getD, h]
def okE (b : Bool) : Int := if b = true then 0 else 1
theorem check_l0 (l : List S53) (l1 l2 l3 : List ByteArray) (d0 : Int) (hl : l.length ≤ 1000) (h3 : l3.length ≤ 1000) (ha : ∀ x ∈ l, x.f1.length ≤ 1000) : ∀ (d i : Nat) (all : List ByteArray), i + d = l.length → all.length = i →
    Ev (fun k => policy_Check.l0 k all l (l.length : Int) (i : Int) l l1 l2 l3 d0) (okE (chkGo l3 all (l.drop i))) := by
  intro d
  induction d with
  | zero =>
    intro i all hi hall
    refine Ev.step (f := fun k => (policy_areNames.f k all).bind fun t => if t = true then some 0 else some 1) (fun k => ?_) ?_
    · simp only [policy_Check.l0]
      rw [if_neg (by omega)]
    · rw [List.drop_of_length_le (by omega)]
      show Ev _ (okE (namesS all))
      refine Ev.way (areNames_ev all (by omega)) (fun h => ?_) (fun h => ?_)
      · rw [h]; exact Ev.now _
      · rw [h]; exact Ev.now _
  | succ d ih =>
    intro i all hi hall
    have hlt : i < l.length := by omega
    rw [List.drop_eq_getElem_cons hlt]
    have hf1 : l[i].f1.length ≤ 1000 := ha _ (List.getElem_mem hlt)
    refine Ev.step (f := fun k => (policy_never.f k l[i].f0).bind fun t => if t = true then some 1 else ((slices_Contains_string_string.f k l3 l[i].f0).bind fun t => if t = true then some 1 else ((policy_areNames.f k l[i].f1).bind fun t => if t = true then ((cf_acts.f l[i].f1).bind fun t => if t = true then some 1 else policy_Check.l0 k (all ++ [l[i].f0]) l (l.length : Int) ((i + 1 : Nat) : Int) l l1 l2 l3 d0) else some 1))) (fun k => ?_) ?_
    · simp only [policy_Check.l0]
      rw [if_pos (by omega), if_pos (by omega), if_pos (by omega), rdT_at l i hlt, wrap_next (by omega), if_pos (show all.length < 8796093022208 by omega)]
    · unfold chkGo restB
      refine Ev.way (never_ev l[i].f0) (fun h => ?_) (fun h => ?_)
      · rw [h]; exact Ev.now _
      rw [h]
      refine Ev.way (contains_ev l3 l[i].f0 (by omega)) (fun h => ?_) (fun h => ?_)
      · rw [show memB l3 l[i].f0 = true from h]; exact Ev.now _
      rw [show memB l3 l[i].f0 = false from h]
      refine Ev.way (areNames_ev l[i].f1 (by omega)) (fun h => ?_) (fun h => ?_)
      · rw [h]
        refine Ev.way (g := fun _ => cf_acts.f l[i].f1) (b := l[i].f1.any actsB) ⟨0, fun _ _ => by unfold cf_acts.f; rw [if_pos hf1]⟩ (fun h => ?_) (fun h => ?_)
        · rw [h]; exact Ev.now _
        · rw [h]; exact ih (i + 1) (all ++ [l[i].f0]) (by omega) (by simp; omega)
      · rw [h]; exact Ev.now _
def headB (l1 l2 l3 : List ByteArray) (d : Int) : Bool := decide (1 ≤ d ∧ d ≤ 60) && (namesS l1 && (namesS l2 && (namesS l3 && !l2.any runsB)))
def checkS (l0 : List S53) (l1 l2 l3 : List ByteArray) (d : Int) : Int := if largeB l0 l1 l2 l3 = true then 4 else okE (headB l1 l2 l3 d && chkGo l3 [] l0)
structure SmallP (l0 : List S53) (l1 l2 l3 : List ByteArray) : Prop where
  b0 : l0.length ≤ 1000
  b1 : l1.length ≤ 1000
  b2 : l2.length ≤ 1000
  b3 : l3.length ≤ 1000
  ba : ∀ x ∈ l0, x.f1.length ≤ 1000
theorem check_ev (l0 : List S53) (l1 l2 l3 : List ByteArray) (d : Int) (hs : SmallP l0 l1 l2 l3) : Ev (fun k => policy_Check.f k l0 l1 l2 l3 d) (checkS l0 l1 l2 l3 d) := by
  obtain ⟨h0, h1, h2, h3, ha⟩ := hs
  have hj1 : Ev (fun k => policy_Check.j0 k true l0 l1 l2 l3 d) 1 := Ev.step (f := fun _ => some 1) (fun k => by simp only [policy_Check.j0]; rfl) (Ev.now _)
  have hj0 : Ev (fun k => policy_Check.j0 k false l0 l1 l2 l3 d) (okE (chkGo l3 [] l0)) := by
    refine Ev.step (f := fun k => policy_Check.l0 k [] l0 (l0.length : Int) 0 l0 l1 l2 l3 d) (fun k => by simp only [policy_Check.j0]; rfl) ?_
    have h := check_l0 l0 l1 l2 l3 d h0 h3 ha l0.length 0 [] (by omega) rfl
    rw [List.drop_zero] at h
    exact h
  unfold policy_Check.f checkS
  refine Ev.way (g := fun _ => policy_large.f l0 l1 l2 l3 d) (b := largeB l0 l1 l2 l3) ⟨0, fun _ _ => rfl⟩ (fun h => ?_) (fun h => ?_)
  · rw [if_pos h]; exact Ev.now _
  · rw [if_neg (by rw [h]; decide)]
    unfold headB
    by_cases hd1 : d < 1
    · rw [decide_eq_false (show ¬ (1 ≤ d ∧ d ≤ 60) by omega)]
      exact Ev.congr (fun k => if_pos hd1) hj1
    by_cases hd2 : d > 60
    · rw [decide_eq_false (show ¬ (1 ≤ d ∧ d ≤ 60) by omega)]
      exact Ev.congr (fun k => by rw [if_neg hd1, if_pos hd2]) hj1
    rw [decide_eq_true (show 1 ≤ d ∧ d ≤ 60 by omega)]
    refine Ev.congr (fun k => by rw [if_neg hd1, if_neg hd2]) ?_
    refine Ev.way (areNames_ev l1 (by omega)) (fun h => ?_) (fun h => ?_)
    · rw [h]
      refine Ev.way (areNames_ev l2 (by omega)) (fun h => ?_) (fun h => ?_)
      · rw [h]
        refine Ev.way (areNames_ev l3 (by omega)) (fun h => ?_) (fun h => ?_)
        · rw [h]
          refine Ev.bind (g := fun _ => cf_runs.f l2) (f := fun k t => policy_Check.j0 k t l0 l1 l2 l3 d) (a := l2.any runsB) ⟨0, fun _ _ => by unfold cf_runs.f; rw [if_pos h2]⟩ ?_
          cases h : l2.any runsB with
          | true => exact hj1
          | false => exact hj0
        · rw [h]; exact hj1
      · rw [h]; exact hj1
    · rw [h]; exact hj1
end Go.Proofs.YtnbghhddmlohoaaDoor.Pure

end

section
namespace Go.Proofs.YtnbghhddmlohoaaDoor.Pure
open Go.RowKit Go.Proofs.YtnbghhddmlohoaaDoor.PAll Go.Proofs.YtnbghhddmlohoaaDoorW.PrintWords Go.Proofs.YtnbghhddmlohoaaDoorW.PrintLast
set_option linter.unusedSimpArgs false
set_option linter.unusedVariables false

def ruleS (x : S53) : Bool := nameB x.f0 && (namesS x.f1 && (!(inK 2 x.f0 || (inK 3 x.f0 || inK 12 x.f0)) && (!x.f1.any actsB && !hardN.contains x.f0.data.toList)))
theorem hard_is : splitB (⟨#[109, 97, 116, 104, 32, 110, 111, 115, 99, 114, 105, 112, 116, 32, 112, 108, 97, 105, 110, 116, 101, 120, 116, 32, 115, 118, 103, 32, 116, 101, 109, 112, 108, 97, 116, 101]⟩ : ByteArray) = hardN := by decide +kernel
theorem rule_l0 (a : ByteArray) (l : List ByteArray) (hl : l.length ≤ 1000) : ∀ (d i : Nat), i + d = l.length → Ev (fun k => marginaliaref11_rule.l0 k (i : Int) a l) (!(l.drop i).any actsB && !hardN.contains a.data.toList) := by
  intro d
  induction d with
  | zero =>
    intro i hi
    refine Ev.step (f := fun k => (marginaliaref02_In.f k (⟨#[109, 97, 116, 104, 32, 110, 111, 115, 99, 114, 105, 112, 116, 32, 112, 108, 97, 105, 110, 116, 101, 120, 116, 32, 115, 118, 103, 32, 116, 101, 109, 112, 108, 97, 116, 101]⟩ : ByteArray) a).bind fun t => some (!t)) (fun k => ?_) ?_
    · simp only [marginaliaref11_rule.l0]
      rw [if_neg (by omega)]
    · rw [List.drop_of_length_le (by omega)]
      have h := in_ev (⟨#[109, 97, 116, 104, 32, 110, 111, 115, 99, 114, 105, 112, 116, 32, 112, 108, 97, 105, 110, 116, 101, 120, 116, 32, 115, 118, 103, 32, 116, 101, 109, 112, 108, 97, 116, 101]⟩ : ByteArray) a (by decide)
      rw [hard_is] at h
      exact Ev.bind (f := fun _ t => some (!t)) h (Ev.now _)
  | succ d ih =>
    intro i hi
    have hlt : i < l.length := by omega
    have ih' := ih (i + 1) (by omega)
    rw [List.drop_eq_getElem_cons hlt, List.any_cons]
    obtain ⟨y, hy⟩ : ∃ y, y = l[i] := ⟨_, rfl⟩
    rw [← hy]
    have hrd : rdOf ByteArray.empty l (i : Int) = y := by rw [hy]; exact rd_at l i hlt
    have hex : (y.extract 0 2).toList = y.toList.take 2 := by rw [bytes_data, bytes_data, ext_take]; rfl
    have hlen : y.toList.length = y.size := size_toList y
    have hfalse : actsB y = true → Ev (fun _ => (some false : Option Bool)) (!(actsB y || (l.drop (i + 1)).any actsB) && !hardN.contains a.data.toList) := fun h => by rw [h]; exact Ev.now _
    have hnext : actsB y = false → Ev (fun k => marginaliaref11_rule.l0 k ((i + 1 : Nat) : Int) a l) (!(actsB y || (l.drop (i + 1)).any actsB) && !hardN.contains a.data.toList) := fun h => by rw [h, Bool.false_or]; exact ih'
    have hunf : ∀ k, marginaliaref11_rule.l0 (k + 1) (i : Int) a l = if y.toList = ([115, 116, 121, 108, 101] : List UInt8) then some false else if y.toList = ([115, 114, 99, 100, 111, 99] : List UInt8) then some false else if (y.size : Int) ≥ 2 then (if (y.extract 0 2).toList = ([111, 110] : List UInt8) then some false else marginaliaref11_rule.l0 k ((i + 1 : Nat) : Int) a l) else marginaliaref11_rule.l0 k ((i + 1 : Nat) : Int) a l := fun k => by
      simp only [marginaliaref11_rule.l0]
      rw [if_pos (by omega), if_pos (by omega), hrd, wrap_next (by omega)]
      by_cases h2 : (y.size : Int) ≥ 2
      · simp only [if_pos h2, show ((0 : Int) ≤ 2) = True from eq_true (by decide), show ((0 : Nat) ≤ 2) = True from eq_true (by decide), if_true, if_pos (show (2 : Int) ≤ (y.size : Int) from h2)]
      · simp only [if_neg h2]
    by_cases h1 : y.toList = ([115, 116, 121, 108, 101] : List UInt8)
    · exact Ev.step (f := fun _ => some false) (fun k => by rw [hunf, if_pos h1]) (hfalse (by unfold actsB; rw [h1]; decide))
    by_cases h2 : y.toList = ([115, 114, 99, 100, 111, 99] : List UInt8)
    · exact Ev.step (f := fun _ => some false) (fun k => by rw [hunf, if_neg h1, if_pos h2]) (hfalse (by unfold actsB; rw [h2]; decide))
    by_cases h3 : (y.size : Int) ≥ 2
    · by_cases h4 : y.toList.take 2 = ([111, 110] : List UInt8)
      · exact Ev.step (f := fun _ => some false) (fun k => by rw [hunf, if_neg h1, if_neg h2, if_pos h3, hex, if_pos h4]) (hfalse (by unfold actsB; rw [h4]; rfl))
      · exact Ev.step (f := fun k => marginaliaref11_rule.l0 k ((i + 1 : Nat) : Int) a l) (fun k => by rw [hunf, if_neg h1, if_neg h2, if_pos h3, hex, if_neg h4]) (hnext (by unfold actsB; rw [beq_eq_false_iff_ne.mpr h1, beq_eq_false_iff_ne.mpr h2, beq_eq_false_iff_ne.mpr h4]; rfl))
    · have h4 : y.toList.take 2 ≠ ([111, 110] : List UInt8) := fun he => by
        have := congrArg List.length he
        rw [List.length_take, hlen] at this
        simp at this
        omega
      exact Ev.step (f := fun k => marginaliaref11_rule.l0 k ((i + 1 : Nat) : Int) a l) (fun k => by rw [hunf, if_neg h1, if_neg h2, if_neg h3]) (hnext (by unfold actsB; rw [beq_eq_false_iff_ne.mpr h1, beq_eq_false_iff_ne.mpr h2, beq_eq_false_iff_ne.mpr h4]; rfl))
theorem rule_ev (x : S53) (hl : x.f1.length ≤ 1000) : Ev (fun k => marginaliaref11_rule.f k x.f0 x.f1) (ruleS x) := by
  have hjt : Ev (fun k => marginaliaref11_rule.j0 k true x.f0 x.f1) false := Ev.step (f := fun _ => some false) (fun k => by simp only [marginaliaref11_rule.j0]; rfl) (Ev.now _)
  have hjf : Ev (fun k => marginaliaref11_rule.j0 k false x.f0 x.f1) (!x.f1.any actsB && !hardN.contains x.f0.data.toList) := by
    refine Ev.step (f := fun k => marginaliaref11_rule.l0 k 0 x.f0 x.f1) (fun k => by simp only [marginaliaref11_rule.j0]; rfl) ?_
    have h := rule_l0 x.f0 x.f1 hl x.f1.length 0 (by omega)
    rw [List.drop_zero] at h
    exact h
  unfold marginaliaref11_rule.f ruleS
  refine Ev.way (refName_ev x.f0) (fun h => ?_) (fun h => ?_)
  · rw [h]
    refine Ev.way (refnames_ev x.f1 (by omega)) (fun h => ?_) (fun h => ?_)
    · rw [h]
      refine Ev.way (refIs_ev 2 x.f0) (fun h => ?_) (fun h => ?_)
      · rw [h]; exact hjt
      rw [h]
      refine Ev.way (refIs_ev 3 x.f0) (fun h => ?_) (fun h => ?_)
      · rw [h]; exact hjt
      rw [h]
      refine Ev.bind (f := fun k t => marginaliaref11_rule.j0 k t x.f0 x.f1) (refIs_ev 12 x.f0) ?_
      cases inK 12 x.f0 with
      | true => exact hjt
      | false => exact hjf
    · rw [h]; exact hjt
  · rw [h]; exact hjt
def farB (pre : List S53) (x : S53) : Bool := pre.all fun y => y.f0.toList != x.f0.toList
def refGo (dr : List ByteArray) : List S53 → List S53 → Bool
  | _, [] => true
  | pre, x :: r => (farB pre x && (ruleS x && !memB dr x.f0)) && refGo dr (pre ++ [x]) r
def runM (l2 : List ByteArray) : Bool := memB l2 ⟨#[100, 97, 116, 97]⟩ || (memB l2 ⟨#[106, 97, 118, 97, 115, 99, 114, 105, 112, 116]⟩ || memB l2 ⟨#[118, 98, 115, 99, 114, 105, 112, 116]⟩)
def finS (l2 : List ByteArray) (b : Bool) : Int := okE (b && !runM l2)
section
variable (l : List S53) (l1 l2 l3 : List ByteArray) (d0 : Int) (hs : SmallP l l1 l2 l3)
include hs
theorem ref_l2 (i : Nat) (hlt : i < l.length) (H1 : ∀ b, Ev (fun k => marginaliaref11_Check.l1 k b ((i + 1 : Nat) : Int) l l1 l2 l3 d0) (finS l2 (b && refGo l3 (l.take (i + 1)) (l.drop (i + 1))))) :
    ∀ (e j : Nat) (ok : Bool), j + e = i → Ev (fun k => marginaliaref11_Check.l2 k ok (i : Int) (j : Int) l l1 l2 l3 d0) (finS l2 ((ok && (farB ((l.take i).drop j) l[i] && (ruleS l[i] && !memB l3 l[i].f0))) && refGo l3 (l.take (i + 1)) (l.drop (i + 1)))) := by
  obtain ⟨h0, h1, h2, h3, ha⟩ := hs
  intro e
  induction e with
  | zero =>
    intro j ok hj
    have hjl : (l.take i).drop j = [] := List.drop_of_length_le (by rw [List.length_take]; omega)
    rw [hjl]
    refine Ev.step (f := fun k => if ok = true then ((marginaliaref11_rule.f k l[i].f0 l[i].f1).bind fun t => if t = true then ((marginaliaref11_in.f k l3 l[i].f0).bind fun t2 => marginaliaref11_Check.l1 k (!t2) ((i + 1 : Nat) : Int) l l1 l2 l3 d0) else marginaliaref11_Check.l1 k false ((i + 1 : Nat) : Int) l l1 l2 l3 d0) else marginaliaref11_Check.l1 k false ((i + 1 : Nat) : Int) l l1 l2 l3 d0) (fun k => ?_) ?_
    · simp only [marginaliaref11_Check.l2]
      rw [if_neg (show ¬ ((j : Int) < (i : Int)) by omega), if_pos (show (0 : Int) ≤ (i : Int) by omega), if_pos (show (i : Int) < (l.length : Int) by omega), rdT_at l i hlt, wrap_next (by omega)]
    · cases ok with
      | false => exact Ev.congr (fun k => if_neg (by decide)) (H1 false)
      | true =>
        refine Ev.congr (fun k => if_pos rfl) ?_
        refine Ev.way (rule_ev l[i] (ha _ (List.getElem_mem hlt))) (fun h => ?_) (fun h => ?_)
        · rw [h]
          refine Ev.bind (f := fun k t2 => marginaliaref11_Check.l1 k (!t2) ((i + 1 : Nat) : Int) l l1 l2 l3 d0) (refin_ev l3 l[i].f0 (by omega)) ?_
          exact H1 _
        · rw [h]; exact H1 false
  | succ e ih =>
    intro j ok hj
    have hjl : j < l.length := by omega
    have hd : (l.take i).drop j = l[j] :: (l.take i).drop (j + 1) := by
      rw [List.drop_eq_getElem_cons (by rw [List.length_take]; omega)]
      simp
    rw [hd]
    unfold farB
    rw [List.all_cons]
    refine Ev.step (f := fun k => if ok = true then marginaliaref11_Check.l2 k (l[j].f0.toList != l[i].f0.toList) (i : Int) ((j + 1 : Nat) : Int) l l1 l2 l3 d0 else marginaliaref11_Check.l2 k false (i : Int) ((j + 1 : Nat) : Int) l l1 l2 l3 d0) (fun k => ?_) ?_
    · simp only [marginaliaref11_Check.l2]
      rw [if_pos (show (j : Int) < (i : Int) by omega), if_pos (show (0 : Int) ≤ (j : Int) by omega), if_pos (show (j : Int) < (l.length : Int) by omega), if_pos (show (0 : Int) ≤ (i : Int) by omega), if_pos (show (i : Int) < (l.length : Int) by omega), rdT_at l i hlt, rdT_at l j hjl, wrap_next (by omega)]
    · cases ok with
      | false => exact Ev.congr (fun k => if_neg (by decide)) (ih (j + 1) false (by omega))
      | true =>
        have h := ih (j + 1) (l[j].f0.toList != l[i].f0.toList) (by omega)
        unfold farB at h
        refine Ev.congr (fun k => if_pos rfl) ?_
        rw [Bool.true_and, Bool.and_assoc (l[j].f0.toList != l[i].f0.toList)]
        exact h
theorem ref_l1 : ∀ (e i : Nat) (ok : Bool), i + e = l.length → Ev (fun k => marginaliaref11_Check.l1 k ok (i : Int) l l1 l2 l3 d0) (finS l2 (ok && refGo l3 (l.take i) (l.drop i))) := by
  intro e
  induction e with
  | zero =>
    intro i ok hi
    rw [List.drop_of_length_le (by omega)]
    refine Ev.step (f := fun k => if ok = true then ((marginaliaref11_in.f k l2 (⟨#[100, 97, 116, 97]⟩ : ByteArray)).bind fun t => if t = true then some 1 else ((marginaliaref11_in.f k l2 (⟨#[106, 97, 118, 97, 115, 99, 114, 105, 112, 116]⟩ : ByteArray)).bind fun t => if t = true then some 1 else ((marginaliaref11_in.f k l2 (⟨#[118, 98, 115, 99, 114, 105, 112, 116]⟩ : ByteArray)).bind fun t => if t = true then some 1 else some 0))) else some 1) (fun k => ?_) ?_
    · simp only [marginaliaref11_Check.l1]
      rw [if_neg (by omega)]
    · unfold finS runM refGo
      cases ok with
      | false => exact Ev.congr (fun k => if_neg (by decide)) (Ev.now _)
      | true =>
        refine Ev.congr (fun k => if_pos rfl) ?_
        have hb2 := hs.b2
        refine Ev.way (refin_ev l2 _ (by omega)) (fun h => ?_) (fun h => ?_)
        · rw [h]; exact Ev.now _
        rw [h]
        refine Ev.way (refin_ev l2 _ (by omega)) (fun h => ?_) (fun h => ?_)
        · rw [h]; exact Ev.now _
        rw [h]
        refine Ev.way (refin_ev l2 _ (by omega)) (fun h => ?_) (fun h => ?_)
        · rw [h]; exact Ev.now _
        · rw [h]; exact Ev.now _
  | succ e ih =>
    intro i ok hi
    have hlt : i < l.length := by omega
    have hb0 := hs.b0
    rw [List.drop_eq_getElem_cons hlt]
    refine Ev.step (f := fun k => marginaliaref11_Check.l2 k ok (i : Int) 0 l l1 l2 l3 d0) (fun k => ?_) ?_
    · simp only [marginaliaref11_Check.l1]
      rw [if_pos (by omega)]
    · have h := ref_l2 l l1 l2 l3 d0 hs i hlt (fun b => ih (i + 1) b (by omega)) i 0 ok (by omega)
      rw [List.drop_zero] at h
      unfold refGo
      have ht : l.take i ++ [l[i]] = l.take (i + 1) := by rw [List.take_add_one, List.getElem?_eq_getElem hlt]; rfl
      rw [ht, ← Bool.and_assoc ok]
      exact h
end
end Go.Proofs.YtnbghhddmlohoaaDoor.Pure

end

section
namespace Go.Proofs.YtnbghhddmlohoaaDoor.Pure
open Go.RowKit Go.Proofs.YtnbghhddmlohoaaDoor.PAll Go.Proofs.YtnbghhddmlohoaaDoorW.PrintWords Go.Proofs.YtnbghhddmlohoaaDoorW.PrintLast
set_option linter.unusedSimpArgs false
set_option linter.unusedVariables false

def headR (l1 l2 l3 : List ByteArray) (d : Int) : Bool := decide (1 ≤ d ∧ d ≤ 60) && (namesS l1 && (namesS l2 && namesS l3))
section
variable (l : List S53) (l1 l2 l3 : List ByteArray) (d0 : Int) (hs : SmallP l l1 l2 l3)
include hs
theorem ref_j3 (ok : Bool) : Ev (fun k => marginaliaref11_Check.j3 k ok l l1 l2 l3 d0) (finS l2 (ok && refGo l3 [] l)) := by
  refine Ev.step (f := fun k => marginaliaref11_Check.l1 k ok 0 l l1 l2 l3 d0) (fun k => by simp only [marginaliaref11_Check.j3]) ?_
  have h := ref_l1 l l1 l2 l3 d0 hs l.length 0 ok (by omega)
  rw [List.take_zero, List.drop_zero] at h
  exact h
def refX (b : Bool) : Int := if b = true then 4 else finS l2 (headR l1 l2 l3 d0 && refGo l3 [] l)
theorem ref_j2 (b : Bool) : Ev (fun k => marginaliaref11_Check.j2 k b l l1 l2 l3 d0) (refX l l1 l2 l3 d0 b) := by
  have hj := ref_j3 l l1 l2 l3 d0 hs
  obtain ⟨h0, h1, h2, h3, ha⟩ := hs
  refine Ev.step (f := fun k => if b = true then some 4 else (if d0 ≥ 1 then (if d0 ≤ 60 then ((marginaliaref11_names.f k l1).bind fun t => if t = true then ((marginaliaref11_names.f k l2).bind fun t => if t = true then ((marginaliaref11_names.f k l3).bind fun t => marginaliaref11_Check.j3 k t l l1 l2 l3 d0) else marginaliaref11_Check.j3 k false l l1 l2 l3 d0) else marginaliaref11_Check.j3 k false l l1 l2 l3 d0) else marginaliaref11_Check.j3 k false l l1 l2 l3 d0) else marginaliaref11_Check.j3 k false l l1 l2 l3 d0)) (fun k => by simp only [marginaliaref11_Check.j2]) ?_
  unfold refX headR
  cases b with
  | true => exact Ev.congr (fun k => if_pos rfl) (Ev.now _)
  | false =>
    refine Ev.congr (fun k => if_neg (by decide)) ?_
    rw [if_neg (by decide)]
    by_cases hd1 : d0 ≥ 1
    · by_cases hd2 : d0 ≤ 60
      · rw [decide_eq_true (show 1 ≤ d0 ∧ d0 ≤ 60 from ⟨hd1, hd2⟩)]
        refine Ev.congr (fun k => by rw [if_pos hd1, if_pos hd2]) ?_
        refine Ev.way (refnames_ev l1 (by omega)) (fun h => ?_) (fun h => ?_)
        · rw [h]
          refine Ev.way (refnames_ev l2 (by omega)) (fun h => ?_) (fun h => ?_)
          · rw [h]
            refine Ev.bind (f := fun k t => marginaliaref11_Check.j3 k t l l1 l2 l3 d0) (refnames_ev l3 (by omega)) ?_
            exact hj _
          · rw [h]; exact hj false
        · rw [h]; exact hj false
      · rw [decide_eq_false (show ¬ (1 ≤ d0 ∧ d0 ≤ 60) from fun h => hd2 h.2)]
        exact Ev.congr (fun k => by rw [if_pos hd1, if_neg hd2]) (hj false)
    · rw [decide_eq_false (show ¬ (1 ≤ d0 ∧ d0 ≤ 60) from fun h => hd1 h.1)]
      exact Ev.congr (fun k => by rw [if_neg hd1]) (hj false)
theorem ref_l0 : ∀ (e i : Nat) (b : Bool), i + e = l.length → Ev (fun k => marginaliaref11_Check.l0 k b (i : Int) l l1 l2 l3 d0) (refX l l1 l2 l3 d0 (b || (l.drop i).any bigR)) := by
  have hj := ref_j2 l l1 l2 l3 d0 hs
  have hb0 := hs.b0
  intro e
  induction e with
  | zero =>
    intro i b hi
    rw [List.drop_of_length_le (by omega)]
    refine Ev.step (f := fun k => marginaliaref11_Check.j2 k b l l1 l2 l3 d0) (fun k => ?_) ?_
    · simp only [marginaliaref11_Check.l0]
      rw [if_neg (show ¬ ((i : Int) < (l.length : Int)) by omega)]
    · have h := hj b
      rw [show (b || ([] : List S53).any bigR) = b by simp]
      exact h
  | succ e ih =>
    intro i b hi
    have hlt : i < l.length := by omega
    rw [List.drop_eq_getElem_cons hlt, List.any_cons]
    refine Ev.step (f := fun k => if b = true then marginaliaref11_Check.j2 k b l l1 l2 l3 d0 else marginaliaref11_Check.l0 k (bigR l[i]) ((i + 1 : Nat) : Int) l l1 l2 l3 d0) (fun k => ?_) ?_
    · simp only [marginaliaref11_Check.l0]
      rw [if_pos (show (i : Int) < (l.length : Int) by omega), if_pos (show (0 : Int) ≤ (i : Int) by omega), rdT_at l i hlt, wrap_next (by omega)]
      rfl
    · cases b with
      | true => exact Ev.congr (fun k => if_pos rfl) (hj true)
      | false =>
        rw [Bool.false_or]
        exact Ev.congr (fun k => if_neg (by decide)) (ih (i + 1) (bigR l[i]) (by omega))
theorem refcheck_raw : Ev (fun k => marginaliaref11_Check.f k l l1 l2 l3 d0) (refX l l1 l2 l3 d0 (largeB l l1 l2 l3)) := by
  have hj : ∀ b, Ev (fun k => marginaliaref11_Check.j0 k b l l1 l2 l3 d0) (refX l l1 l2 l3 d0 (b || l.any bigR)) := fun b => by
    refine Ev.step (f := fun k => marginaliaref11_Check.l0 k b 0 l l1 l2 l3 d0) (fun k => by simp only [marginaliaref11_Check.j0]) ?_
    have h := ref_l0 l l1 l2 l3 d0 hs l.length 0 b (by omega)
    rw [List.drop_zero] at h
    exact h
  unfold marginaliaref11_Check.f largeB
  by_cases a0 : (l.length : Int) > 40
  · rw [decide_eq_true (show 40 < (l.length : Int) from a0)]
    exact Ev.congr (fun k => if_pos a0) (hj true)
  rw [decide_eq_false (show ¬ 40 < (l.length : Int) from a0)]
  refine Ev.congr (fun k => if_neg a0) ?_
  by_cases a1 : (l1.length : Int) > 20
  · rw [decide_eq_true (show 20 < (l1.length : Int) from a1)]
    exact Ev.congr (fun k => if_pos a1) (hj true)
  rw [decide_eq_false (show ¬ 20 < (l1.length : Int) from a1)]
  refine Ev.congr (fun k => if_neg a1) ?_
  by_cases a2 : (l2.length : Int) > 20
  · rw [decide_eq_true (show 20 < (l2.length : Int) from a2)]
    exact Ev.congr (fun k => if_pos a2) (hj true)
  rw [decide_eq_false (show ¬ 20 < (l2.length : Int) from a2)]
  exact Ev.congr (fun k => if_neg a2) (hj _)
end
theorem chk_eq (dr : List ByteArray) : ∀ (r : List S53) (all : List ByteArray), chkGo dr all r = (r.all (restB dr) && namesS (all ++ r.map S53.f0))
  | [], all => by simp [chkGo]
  | x :: r, all => by
    unfold chkGo
    rw [chk_eq dr r (all ++ [x.f0]), List.all_cons, List.map_cons, List.append_assoc, List.singleton_append, Bool.and_assoc]
theorem far_eq (pre : List S53) (x : S53) : farB pre x = !memB (pre.map S53.f0) x.f0 := by
  unfold farB memB
  induction pre with
  | nil => rfl
  | cons y pre ih =>
    rw [List.all_cons, List.map_cons, List.any_cons, ih, Bool.not_or]
    congr 1
    show (!(y.f0.toList == x.f0.toList)) = _
    rw [bytes_data, bytes_data]
theorem ref_eq (dr : List ByteArray) : ∀ (r : List S53) (pre : List S53), refGo dr pre r = (r.all (restB dr) && nmGo (pre.map S53.f0) (r.map S53.f0))
  | [], pre => by simp [refGo, nmGo]
  | x :: r, pre => by
    unfold refGo
    rw [ref_eq dr r (pre ++ [x]), List.all_cons, List.map_cons, far_eq, List.map_append]
    show _ = (restB dr x && r.all (restB dr) && (nameB x.f0 && (!memB (pre.map S53.f0) x.f0 && nmGo (pre.map S53.f0 ++ [x.f0]) (r.map S53.f0))))
    show (!memB (pre.map S53.f0) x.f0 && (ruleS x && !memB dr x.f0) && (r.all (restB dr) && nmGo (pre.map S53.f0 ++ [x.f0]) (r.map S53.f0))) = _
    unfold ruleS restB neverS
    generalize memB (pre.map S53.f0) x.f0 = a1
    generalize nameB x.f0 = a2
    generalize namesS x.f1 = a3
    generalize (inK 2 x.f0 || (inK 3 x.f0 || inK 12 x.f0)) = a4
    generalize x.f1.any actsB = a5
    generalize hardN.contains x.f0.data.toList = a6
    generalize memB dr x.f0 = a7
    generalize r.all _ = a8
    generalize nmGo _ _ = a9
    revert a1 a2 a3 a4 a5 a6 a7 a8 a9
    decide +kernel
theorem run_eq (l2 : List ByteArray) : runM l2 = l2.any runsB := by
  unfold runM memB
  induction l2 with
  | nil => rfl
  | cons y l ih =>
    simp only [List.any_cons]
    rw [← ih]
    unfold runsB
    rw [bytes_data]
    show (_ == [100, 97, 116, 97] || _ || (_ == [106, 97, 118, 97, 115, 99, 114, 105, 112, 116] || _ || (_ == [118, 98, 115, 99, 114, 105, 112, 116] || _))) = _
    generalize (y.data.toList == [100, 97, 116, 97]) = a1
    generalize (y.data.toList == [106, 97, 118, 97, 115, 99, 114, 105, 112, 116]) = a2
    generalize (y.data.toList == [118, 98, 115, 99, 114, 105, 112, 116]) = a3
    generalize l.any _ = a4
    generalize l.any _ = a5
    generalize l.any _ = a6
    revert a1 a2 a3 a4 a5 a6
    decide +kernel
theorem refX_eq (l : List S53) (l1 l2 l3 : List ByteArray) (d : Int) : refX l l1 l2 l3 d (largeB l l1 l2 l3) = checkS l l1 l2 l3 d := by
  unfold refX checkS finS headR headB
  rw [chk_eq, ref_eq, run_eq]
  show (if _ then 4 else okE ((_ && (_ && (_ && _)) && (_ && nmGo [] _)) && _)) = (if _ then 4 else okE (_ && (_ && nmGo [] _)))
  congr 2
  rw [List.nil_append]
  generalize decide (1 ≤ d ∧ d ≤ 60) = a1
  generalize namesS l1 = a2
  generalize namesS l2 = a3
  generalize namesS l3 = a4
  generalize l2.any runsB = a5
  generalize l.all _ = a6
  generalize nmGo _ _ = a7
  revert a1 a2 a3 a4 a5 a6 a7
  decide +kernel
theorem refcheck_ev (l : List S53) (l1 l2 l3 : List ByteArray) (d : Int) (hs : SmallP l l1 l2 l3) : Ev (fun k => marginaliaref11_Check.f k l l1 l2 l3 d) (checkS l l1 l2 l3 d) := by
  rw [← refX_eq]
  exact refcheck_raw l l1 l2 l3 d hs
end Go.Proofs.YtnbghhddmlohoaaDoor.Pure

end

section
namespace Go.Proofs.YtnbghhddmlohoaaDoor.Pure
open Go.RowKit Go.Proofs.YtnbghhddmlohoaaDoor.PAll Go.Proofs.YtnbghhddmlohoaaDoorW.PrintWords Go.Proofs.YtnbghhddmlohoaaDoorW.PrintLast
theorem nodes_nil (l0 : List S53) (l1 l2 l3 : List ByteArray) (d n : Int) : policy_nodes.f l0 l1 l2 l3 d [] n = some true := by
  first | rfl | (unfold policy_nodes.f; rw [if_pos ⟨2, rfl⟩])
theorem al_zero : marginalialaw11_alive0.f 100 = some true := by
  unfold marginalialaw11_alive0.f policy_Allowed.f
  simp only [nodes_nil]
  kernel_rfl
theorem alive_ev : Ev (fun k => marginalialaw11_alive.f k) true := by
  refine Ev.of marginalialaw11_alive.mono (k := 100) ?_
  unfold marginalialaw11_alive.f
  rw [if_pos al_zero]
end Go.Proofs.YtnbghhddmlohoaaDoor.Pure

end

section
namespace Go.Proofs.YtnbghhddmlohoaaDoor.Pure
open Go.RowKit Go.Proofs.YtnbghhddmlohoaaDoor.PAll Go.Proofs.YtnbghhddmlohoaaDoorW.PrintWords Go.Proofs.YtnbghhddmlohoaaDoorW.PrintLast
def textsS (l : List ByteArray) : Bool := decide (l.length ≤ 60) && l.all fun s => decide (s.size ≤ 60)
theorem texts_l0 (l : List ByteArray) (hl : l.length ≤ 1000) : ∀ (d i : Nat), i + d = l.length → Ev (fun k => marginaliaref11_texts.l0 k l (i : Int)) ((l.drop i).all fun s => decide (s.size ≤ 60)) := by
  intro d
  induction d with
  | zero =>
    intro i hi
    refine Ev.step (f := fun _ => some true) (fun k => ?_) ?_
    · simp only [marginaliaref11_texts.l0]
      rw [if_neg (show ¬ ((i : Int) < (l.length : Int)) by omega)]
    · rw [List.drop_of_length_le (by omega)]; exact Ev.now _
  | succ d ih =>
    intro i hi
    have hlt : i < l.length := by omega
    rw [List.drop_eq_getElem_cons hlt, List.all_cons]
    by_cases h : l[i].size ≤ 60
    · refine Ev.step (f := fun k => marginaliaref11_texts.l0 k l ((i + 1 : Nat) : Int)) (fun k => ?_) ?_
      · simp only [marginaliaref11_texts.l0]
        rw [if_pos (show (i : Int) < (l.length : Int) by omega), if_pos (show (0 : Int) ≤ (i : Int) by omega), rd_at l i hlt, if_neg (show ¬ ((l[i].size : Int) > 60) by omega), wrap_next (by omega)]
      · rw [decide_eq_true h, Bool.true_and]; exact ih (i + 1) (by omega)
    · refine Ev.step (f := fun _ => some false) (fun k => ?_) ?_
      · simp only [marginaliaref11_texts.l0]
        rw [if_pos (show (i : Int) < (l.length : Int) by omega), if_pos (show (0 : Int) ≤ (i : Int) by omega), rd_at l i hlt, if_pos (show (l[i].size : Int) > 60 by omega)]
      · rw [decide_eq_false h, Bool.false_and]; exact Ev.now _
theorem texts_ev (l : List ByteArray) : Ev (fun k => marginaliaref11_texts.f k l) (textsS l) := by
  unfold marginaliaref11_texts.f textsS
  by_cases h : (l.length : Int) > 60
  · rw [decide_eq_false (show ¬ l.length ≤ 60 by omega), Bool.false_and]
    exact Ev.congr (fun k => if_pos h) (Ev.now _)
  · rw [decide_eq_true (show l.length ≤ 60 by omega), Bool.true_and]
    have h0 := texts_l0 l (by omega) l.length 0 (by omega)
    rw [List.drop_zero] at h0
    exact Ev.congr (fun k => if_neg h) h0
def smallS (l0 : List S53) (l1 l2 l3 : List ByteArray) : Bool := decide (l0.length ≤ 60) && (textsS l1 && (textsS l2 && (textsS l3 && l0.all fun x => decide (x.f0.size ≤ 60) && textsS x.f1)))
theorem small_l0 (l : List S53) (l1 l2 l3 : List ByteArray) (d0 : Int) (hl : l.length ≤ 1000) : ∀ (d i : Nat), i + d = l.length → Ev (fun k => marginaliaref11_Small.l0 k (i : Int) l l1 l2 l3 d0) ((l.drop i).all fun x => decide (x.f0.size ≤ 60) && textsS x.f1) := by
  intro d
  induction d with
  | zero =>
    intro i hi
    refine Ev.step (f := fun _ => some true) (fun k => ?_) ?_
    · simp only [marginaliaref11_Small.l0]
      rw [if_neg (show ¬ ((i : Int) < (l.length : Int)) by omega)]
    · rw [List.drop_of_length_le (by omega)]; exact Ev.now _
  | succ d ih =>
    intro i hi
    have hlt : i < l.length := by omega
    rw [List.drop_eq_getElem_cons hlt, List.all_cons]
    by_cases h : l[i].f0.size ≤ 60
    · refine Ev.step (f := fun k => (marginaliaref11_texts.f k l[i].f1).bind fun t => if t = true then marginaliaref11_Small.l0 k ((i + 1 : Nat) : Int) l l1 l2 l3 d0 else some false) (fun k => ?_) ?_
      · simp only [marginaliaref11_Small.l0]
        rw [if_pos (show (i : Int) < (l.length : Int) by omega), if_pos (show (0 : Int) ≤ (i : Int) by omega), rdT_at l i hlt, if_neg (show ¬ ((l[i].f0.size : Int) > 60) by omega), wrap_next (by omega)]
      · rw [decide_eq_true h, Bool.true_and]
        refine Ev.way (texts_ev l[i].f1) (fun h => ?_) (fun h => ?_)
        · rw [h]; exact ih (i + 1) (by omega)
        · rw [h]; exact Ev.now _
    · refine Ev.step (f := fun _ => some false) (fun k => ?_) ?_
      · simp only [marginaliaref11_Small.l0]
        rw [if_pos (show (i : Int) < (l.length : Int) by omega), if_pos (show (0 : Int) ≤ (i : Int) by omega), rdT_at l i hlt, if_pos (show (l[i].f0.size : Int) > 60 by omega)]
      · rw [decide_eq_false h, Bool.false_and, Bool.false_and]; exact Ev.now _
theorem small_ev (l0 : List S53) (l1 l2 l3 : List ByteArray) (d : Int) : Ev (fun k => marginaliaref11_Small.f k l0 l1 l2 l3 d) (smallS l0 l1 l2 l3) := by
  have hjt : Ev (fun k => marginaliaref11_Small.j0 k true l0 l1 l2 l3 d) false := Ev.step (f := fun _ => some false) (fun k => by simp only [marginaliaref11_Small.j0]; rfl) (Ev.now _)
  unfold marginaliaref11_Small.f smallS
  by_cases h : (l0.length : Int) > 60
  · rw [decide_eq_false (show ¬ l0.length ≤ 60 by omega), Bool.false_and]
    exact Ev.congr (fun k => if_pos h) hjt
  · have hjf : Ev (fun k => marginaliaref11_Small.j0 k false l0 l1 l2 l3 d) (l0.all fun x => decide (x.f0.size ≤ 60) && textsS x.f1) := by
      refine Ev.step (f := fun k => marginaliaref11_Small.l0 k 0 l0 l1 l2 l3 d) (fun k => by simp only [marginaliaref11_Small.j0]; rfl) ?_
      have h0 := small_l0 l0 l1 l2 l3 d (by omega) l0.length 0 (by omega)
      rw [List.drop_zero] at h0
      exact h0
    rw [decide_eq_true (show l0.length ≤ 60 by omega), Bool.true_and]
    refine Ev.congr (fun k => if_neg h) ?_
    refine Ev.way (texts_ev l1) (fun h => ?_) (fun h => ?_)
    · rw [h]
      refine Ev.way (texts_ev l2) (fun h => ?_) (fun h => ?_)
      · rw [h]
        refine Ev.bind (f := fun k t => marginaliaref11_Small.j0 k (!t) l0 l1 l2 l3 d) (texts_ev l3) ?_
        cases textsS l3 with
        | true => exact hjf
        | false => exact hjt
      · rw [h]; exact hjt
    · rw [h]; exact hjt
theorem small_is {l0 : List S53} {l1 l2 l3 : List ByteArray} (h : smallS l0 l1 l2 l3 = true) : SmallP l0 l1 l2 l3 := by
  unfold smallS textsS at h
  simp only [Bool.and_eq_true, decide_eq_true_eq, List.all_eq_true] at h
  obtain ⟨h0, ⟨h1, _⟩, ⟨h2, _⟩, ⟨h3, _⟩, ha⟩ := h
  exact ⟨by omega, by omega, by omega, by omega, fun x hx => by have := (ha x hx).2.1; omega⟩
end Go.Proofs.YtnbghhddmlohoaaDoor.Pure

end

section
namespace Go.Proofs.YtnbghhddmlohoaaDoor.Pure
open Go.RowKit Go.Proofs.YtnbghhddmlohoaaDoor.PAll Go.Proofs.YtnbghhddmlohoaaDoorW.PrintWords Go.Proofs.YtnbghhddmlohoaaDoorW.PrintLast
theorem PolicyCheck : policyCheckOp.Plain := by
  intro x0 hg
  apply Ev.rounds
  unfold marginalialaw11_PolicyCheck.f
  refine Ev.way (small_ev x0.f0 x0.f1 x0.f2 x0.f3 x0.f4) (fun h => ?_) (fun h => ?_)
  · have hs := small_is h
    refine Ev.way alive_ev (fun _ => ?_) (fun h => absurd h (by decide))
    refine Ev.bind (f := fun k t1 => (marginaliaref11_Check.f k x0.f0 x0.f1 x0.f2 x0.f3 x0.f4).bind fun t2 => some (t1 == t2)) (check_ev x0.f0 x0.f1 x0.f2 x0.f3 x0.f4 hs) ?_
    refine Ev.bind (f := fun k t2 => some (checkS x0.f0 x0.f1 x0.f2 x0.f3 x0.f4 == t2)) (refcheck_ev x0.f0 x0.f1 x0.f2 x0.f3 x0.f4 hs) ?_
    exact ⟨0, fun _ _ => by rw [beq_self_eq_true]⟩
  · exact Ev.bind (f := fun k t => some t) alive_ev (Ev.now _)
end Go.Proofs.YtnbghhddmlohoaaDoor.Pure

end
