-- Laid together by a program of this session (merge.py) out of its own texts and of the print's, for one law. Lean checks it.
import Derived.Test.YtnbghhddmlohoaaDoorMPl2
section
namespace Go.Proofs.YtnbghhddmlohoaaDoor.PAll
open Go.RowKit Go.Proofs.YtnbghhddmlohoaaDoorW.PrintWords Go.Proofs.YtnbghhddmlohoaaDoorW.PrintLast Go.Proofs.YtnbghhddmlohoaaDoorW.PrintMore
attribute [local go_sem] max2_int min2_int max_two min_two max_three min_three max_four min_four   -- for this text's walks alone
set_option linter.unusedVariables false
set_option linter.unusedSimpArgs false

mutual
def marginaliaref11_Check.j0 : Nat → Bool → List (S53) → List ByteArray → List ByteArray → List ByteArray → Int → Option (Int)
  | 0, _, _, _, _, _, _ => none
  | k + 1, x3, x238000, x238001, x238002, x238003, x238004 => marginaliaref11_Check.l0 k x3 0 x238000 x238001 x238002 x238003 x238004
def marginaliaref11_Check.j2 : Nat → Bool → List (S53) → List ByteArray → List ByteArray → List ByteArray → Int → Option (Int)
  | 0, _, _, _, _, _, _ => none
  | k + 1, x3, x238000, x238001, x238002, x238003, x238004 => if x3 = true then (some 4) else (if x238004 ≥ 1 then (if x238004 ≤ 60 then ((marginaliaref11_names.f k x238001).bind fun t239 => (if t239 = true then ((marginaliaref11_names.f k x238002).bind fun t240 => (if t240 = true then ((marginaliaref11_names.f k x238003).bind fun t241 => (marginaliaref11_Check.j3 k t241 x238000 x238001 x238002 x238003 x238004)) else (marginaliaref11_Check.j3 k false x238000 x238001 x238002 x238003 x238004))) else (marginaliaref11_Check.j3 k false x238000 x238001 x238002 x238003 x238004))) else (marginaliaref11_Check.j3 k false x238000 x238001 x238002 x238003 x238004)) else (marginaliaref11_Check.j3 k false x238000 x238001 x238002 x238003 x238004))
def marginaliaref11_Check.j3 : Nat → Bool → List (S53) → List ByteArray → List ByteArray → List ByteArray → Int → Option (Int)
  | 0, _, _, _, _, _, _ => none
  | k + 1, x5, x238000, x238001, x238002, x238003, x238004 => marginaliaref11_Check.l1 k x5 0 x238000 x238001 x238002 x238003 x238004
def marginaliaref11_Check.l1 : Nat → Bool → Int → List (S53) → List ByteArray → List ByteArray → List ByteArray → Int → Option (Int)
  | 0, _, _, _, _, _, _, _ => none
  | k + 1, x5, x6, x238000, x238001, x238002, x238003, x238004 => if x6 < (x238000.length : Int) then (marginaliaref11_Check.l2 k x5 x6 0 x238000 x238001 x238002 x238003 x238004) else (if x5 = true then ((marginaliaref11_in.f k x238002 (⟨#[100, 97, 116, 97]⟩ : ByteArray)).bind fun t248 => (if t248 = true then (some 1) else ((marginaliaref11_in.f k x238002 (⟨#[106, 97, 118, 97, 115, 99, 114, 105, 112, 116]⟩ : ByteArray)).bind fun t249 => (if t249 = true then (some 1) else ((marginaliaref11_in.f k x238002 (⟨#[118, 98, 115, 99, 114, 105, 112, 116]⟩ : ByteArray)).bind fun t250 => (if t250 = true then (some 1) else (some 0))))))) else (some 1))
def marginaliaref11_Check.l2 : Nat → Bool → Int → Int → List (S53) → List ByteArray → List ByteArray → List ByteArray → Int → Option (Int)
  | 0, _, _, _, _, _, _, _, _ => none
  | k + 1, x5, x6, x7, x238000, x238001, x238002, x238003, x238004 => if x7 < x6 then (if x5 = true then (if 0 ≤ x7 then (if x7 < (x238000.length : Int) then (if 0 ≤ x6 then (if x6 < (x238000.length : Int) then (marginaliaref11_Check.l2 k (((rd_T53 x238000 x7).f0).toList != ((rd_T53 x238000 x6).f0).toList) x6 (wrap64 (x7 + 1)) x238000 x238001 x238002 x238003 x238004) else (none)) else (none)) else (none)) else (none)) else (marginaliaref11_Check.l2 k false x6 (wrap64 (x7 + 1)) x238000 x238001 x238002 x238003 x238004)) else (if x5 = true then (if 0 ≤ x6 then (if x6 < (x238000.length : Int) then ((marginaliaref11_rule.f k ((rd_T53 x238000 x6).f0) ((rd_T53 x238000 x6).f1)).bind fun t245 => (if t245 = true then ((marginaliaref11_in.f k x238003 ((rd_T53 x238000 x6).f0)).bind fun t247 => (marginaliaref11_Check.l1 k (!t247) (wrap64 (x6 + 1)) x238000 x238001 x238002 x238003 x238004)) else (marginaliaref11_Check.l1 k false (wrap64 (x6 + 1)) x238000 x238001 x238002 x238003 x238004))) else (none)) else (none)) else (marginaliaref11_Check.l1 k false (wrap64 (x6 + 1)) x238000 x238001 x238002 x238003 x238004))
def marginaliaref11_Check.l0 : Nat → Bool → Int → List (S53) → List ByteArray → List ByteArray → List ByteArray → Int → Option (Int)
  | 0, _, _, _, _, _, _, _ => none
  | k + 1, x3, x4, x238000, x238001, x238002, x238003, x238004 => if x4 < (x238000.length : Int) then (if x3 = true then (marginaliaref11_Check.j2 k x3 x238000 x238001 x238002 x238003 x238004) else (if 0 ≤ x4 then (marginaliaref11_Check.l0 k (decide ((((rd_T53 x238000 x4).f1).length : Int) > 20)) (wrap64 (x4 + 1)) x238000 x238001 x238002 x238003 x238004) else (none))) else (marginaliaref11_Check.j2 k x3 x238000 x238001 x238002 x238003 x238004)
end
def marginaliaref11_Check.f (k : Nat) (l0_0 : List (S53)) (l0_1 : List ByteArray) (l0_2 : List ByteArray) (l0_3 : List ByteArray) (a0_4 : Int) : Option (Int) := if (l0_0.length : Int) > 40 then (marginaliaref11_Check.j0 k true l0_0 l0_1 l0_2 l0_3 a0_4) else (if (l0_1.length : Int) > 20 then (marginaliaref11_Check.j0 k true l0_0 l0_1 l0_2 l0_3 a0_4) else (if (l0_2.length : Int) > 20 then (marginaliaref11_Check.j0 k true l0_0 l0_1 l0_2 l0_3 a0_4) else (marginaliaref11_Check.j0 k (decide ((l0_3.length : Int) > 20)) l0_0 l0_1 l0_2 l0_3 a0_4)))
def marginaliaref11_Check.T15 : Bool × List (List Nat × List Nat) := (true, [([], []), ([0], [0]), ([1], [1]), ([2, 1], [1, 2]), ([1], [1]), ([3, 4, 1], [1, 3, 4]), ([5, 1], [1, 5]), ([6, 1], [1, 6]), ([1], [1]), ([8, 1], [1, 8]), ([1], [1]), ([9, 10, 1], [1, 9, 10]), ([11, 1], [1, 11]), ([12, 1], [1, 12]), ([7, 13, 1], [1, 7, 13]), ([1, 14], [1, 14]), ([15, 1, 0, 1, 2, 3, 4, 5, 6, 7, 8, 9, 10, 11, 12, 13, 14, 15], [0, 15])])
def marginaliaref11_Check.B15 : List Nat := [0, 1, 3, 7, 3, 31, 63, 127, 3, 259, 3, 1795, 3843, 7939, 16383, 32767, 65535]
theorem marginaliaref11_Check.tab15 : rtab .any (opsOf Tryd.f12 15) = marginaliaref11_Check.T15 := by kernel_rfl
theorem marginaliaref11_Check.bits15 : waitsOk marginaliaref11_Check.T15.2 marginaliaref11_Check.B15 = true := by kernel_rfl
def marginaliaref11_Check.T16 : Bool × List (List Nat × List Nat) := (true, [([], []), ([0], [0]), ([1], [1]), ([2, 1], [1, 2]), ([1], [1]), ([3, 4, 1], [1, 3, 4]), ([5, 1], [1, 5]), ([6, 1, 1], [1, 6]), ([1, 7], [1, 7]), ([8, 7], [8]), ([9], [9]), ([10, 9], [9, 10]), ([9], [9]), ([12, 9], [9, 12]), ([9], [9]), ([13, 14, 9], [9, 13, 14]), ([15, 9], [9, 15]), ([16, 9], [9, 16]), ([11, 17, 9, 9], [9, 11, 17]), ([18, 9], [9, 18]), ([9, 19], [9, 19]), ([20, 18, 0, 1, 2, 3, 4, 5, 6, 7, 8, 9, 10, 11, 12, 13, 14, 15, 16, 17, 18, 19, 20], [0, 20])])
def marginaliaref11_Check.B16 : List Nat := [0, 1, 3, 7, 3, 31, 63, 127, 255, 511, 1023, 2047, 1023, 5119, 1023, 29695, 62463, 127999, 262143, 524287, 1048575, 2097151]
theorem marginaliaref11_Check.tab16 : rtab .any (opsOf Tryd.f12 16) = marginaliaref11_Check.T16 := by kernel_rfl
theorem marginaliaref11_Check.bits16 : waitsOk marginaliaref11_Check.T16.2 marginaliaref11_Check.B16 = true := by kernel_rfl
set_option maxHeartbeats 8000000 in
set_option maxRecDepth 100000 in
theorem marginaliaref11_Check.calls (k : Nat) (A0_0 : Option Addr) (c0_0 : Nat) (l0_0 : List (S53)) (A0_1 : Option Addr) (c0_1 : Nat) (l0_1 : List ByteArray) (A0_2 : Option Addr) (c0_2 : Nat) (l0_2 : List ByteArray) (A0_3 : Option Addr) (c0_3 : Nat) (l0_3 : List ByteArray) (a0_4 : Int) (r : Int) (w : World) (hr0_0 : Kd.C k53 w A0_0 l0_0.length l0_0) (hc0_0 : l0_0.length ≤ c0_0) (hr0_1 : Kd.C Kd.string w A0_1 l0_1.length l0_1) (hc0_1 : l0_1.length ≤ c0_1) (hr0_2 : Kd.C Kd.string w A0_2 l0_2.length l0_2) (hc0_2 : l0_2.length ≤ c0_2) (hr0_3 : Kd.C Kd.string w A0_3 l0_3.length l0_3) (hc0_3 : l0_3.length ≤ c0_3) (h : marginaliaref11_Check.f k l0_0 l0_1 l0_2 l0_3 a0_4 = some r) :
  Calls Tryd.prog 12 #[.agg #[.slice A0_0 l0_0.length c0_0, .slice A0_1 l0_1.length c0_1, .slice A0_2 l0_2.length c0_2, .slice A0_3 l0_3.length c0_3, .int .i64 a0_4]] w fun e w' => e = .returned (.int .i64 r) ∧ Below w.heap.size w w' := by
 have hu25 := Tryd.underlying25
 have hu53 := Tryd.underlying53
 have HR0_0 := Aside0.mk hr0_0
 have HC0_0 := Aside0.mk hc0_0
 clear hr0_0 hc0_0
 have HR0_1 := Aside0.mk hr0_1
 have HC0_1 := Aside0.mk hc0_1
 clear hr0_1 hc0_1
 have HR0_2 := Aside0.mk hr0_2
 have HC0_2 := Aside0.mk hc0_2
 clear hr0_2 hc0_2
 have HR0_3 := Aside0.mk hr0_3
 have HC0_3 := Aside0.mk hc0_3
 clear hr0_3 hc0_3
 have HB := Aside0.mk (Below.refl w.heap.size w)
 have H := h
 clear h
 unfold marginaliaref11_Check.f at H
 have HC2 := Aside0.mk H
 clear H
 go_enter Tryd.func12, Tryd.ntmps12
 go_upto_region 1 with (first | ((with_reducible refine gate_dst (N := 1) rfl ?_); (try (refine gate_guard (by rfl) ?_; dsimp only)); refine box5 25 1 (cs := #[.slice A0_0 l0_0.length c0_0, .slice A0_1 l0_1.length c0_1, .slice A0_2 l0_2.length c0_2, .slice A0_3 l0_3.length c0_3, .int .i64 a0_4]) ?_; clear HB; intro gb237 w3 HB BK237 GE237))
 (try simp only [Act.put, List.setIfInBounds_toArray, List.set_cons_zero, List.set_cons_succ])
 go_cut [3] (fun v3 wc => ∃ (kq : Nat) (x3_1 : Bool), v3 = .bool x3_1 ∧ Aside0 (marginaliaref11_Check.j0 kq x3_1 l0_0 l0_1 l0_2 l0_3 a0_4 = some r) ∧ Aside0 (kq ≤ k) ∧ Aside0 (wc.heap[gb237]? = some (.cells #[(.slice A0_0 l0_0.length c0_0), (.slice A0_1 l0_1.length c0_1), (.slice A0_2 l0_2.length c0_2), (.slice A0_3 l0_3.length c0_3), .int .i64 a0_4] 25 (0, 0))) ∧ Aside0 (Below w.heap.size w wc))
 case first =>
  have H := HC2.out
  clear HC2
  by_cases c4 : (l0_0.length : Int) > 40
  ·rw [if_pos c4] at H
   have c4b0 : decide (40 < (l0_0.length : Int)) = true := decide_eq_true c4
   have c4b1 : decide (40 < l0_0.length) = true := decide_eq_true (by omega)
   clear c4
   (first | rw [c4b0] | (simp only [i64_w, i32_w]; rw [c4b0]) | skip)
   have H' := Aside0.mk H
   clear H
   obtain ⟨hcz5_0, hcz5_1, hcz5_2, hcz5_3, hcz5_4, hfz5_0, hfz5_1, hfz5_2, hfz5_3, hfz5_4⟩ := cells5 BK237
   go_wp2
   go_meet
   case rel => exact ⟨_, (true), Rs, H', ⟨On⟩, ⟨(Bk BK237)⟩, ⟨Bw⟩⟩
  rw [if_neg c4] at H
  have c4b0 : decide (40 < (l0_0.length : Int)) = false := decide_eq_false c4
  have c4b1 : decide (40 < l0_0.length) = false := decide_eq_false (by omega)
  clear c4
  (first | rw [c4b0] | (simp only [i64_w, i32_w]; rw [c4b0]) | skip)
  by_cases c6 : (l0_1.length : Int) > 20
  ·rw [if_pos c6] at H
   have c6b0 : decide (20 < (l0_1.length : Int)) = true := decide_eq_true c6
   have c6b1 : decide (20 < l0_1.length) = true := decide_eq_true (by omega)
   clear c6
   have H' := Aside0.mk H
   clear H
   obtain ⟨hcz7_0, hcz7_1, hcz7_2, hcz7_3, hcz7_4, hfz7_0, hfz7_1, hfz7_2, hfz7_3, hfz7_4⟩ := cells5 BK237
   go_wp2
   go_meet
   case rel => exact ⟨_, (true), Rs, H', ⟨On⟩, ⟨(Bk BK237)⟩, ⟨Bw⟩⟩
  rw [if_neg c6] at H
  have c6b0 : decide (20 < (l0_1.length : Int)) = false := decide_eq_false c6
  have c6b1 : decide (20 < l0_1.length) = false := decide_eq_false (by omega)
  clear c6
  by_cases c8 : (l0_2.length : Int) > 20
  ·rw [if_pos c8] at H
   have c8b0 : decide (20 < (l0_2.length : Int)) = true := decide_eq_true c8
   have c8b1 : decide (20 < l0_2.length) = true := decide_eq_true (by omega)
   clear c8
   have H' := Aside0.mk H
   clear H
   obtain ⟨hcz9_0, hcz9_1, hcz9_2, hcz9_3, hcz9_4, hfz9_0, hfz9_1, hfz9_2, hfz9_3, hfz9_4⟩ := cells5 BK237
   go_wp2
   go_meet
   case rel => exact ⟨_, (true), Rs, H', ⟨On⟩, ⟨(Bk BK237)⟩, ⟨Bw⟩⟩
  rw [if_neg c8] at H
  have c8b0 : decide (20 < (l0_2.length : Int)) = false := decide_eq_false c8
  have c8b1 : decide (20 < l0_2.length) = false := decide_eq_false (by omega)
  clear c8
  have H' := Aside0.mk H
  clear H
  obtain ⟨hcz10_0, hcz10_1, hcz10_2, hcz10_3, hcz10_4, hfz10_0, hfz10_1, hfz10_2, hfz10_3, hfz10_4⟩ := cells5 BK237
  go_wp2
  go_meet
  case rel => exact ⟨_, (decide ((l0_3.length : Int) > 20)), Rs, H', ⟨On⟩, ⟨(Bk BK237)⟩, ⟨Bw⟩⟩
 case rest =>
  clear HC2
  try clear c1
  try clear p2
  try clear c4
  try clear c4b0
  try clear c4b1
  try clear c6
  try clear c6b0
  try clear c6b1
  try clear c8
  try clear c8b0
  try clear c8b1
  try clear hcz10_0 hcz10_1 hcz10_2 hcz10_3 hcz10_4
  try clear hcz5_0 hcz5_1 hcz5_2 hcz5_3 hcz5_4
  try clear hcz7_0 hcz7_1 hcz7_2 hcz7_3 hcz7_4
  try clear hcz9_0 hcz9_1 hcz9_2 hcz9_3 hcz9_4
  try clear hfz10_0 hfz10_1 hfz10_2 hfz10_3 hfz10_4
  try clear hfz5_0 hfz5_1 hfz5_2 hfz5_3 hfz5_4
  try clear hfz7_0 hfz7_1 hfz7_2 hfz7_3 hfz7_4
  try clear hfz9_0 hfz9_1 hfz9_2 hfz9_3 hfz9_4
  obtain ⟨kq, x3_1, rfl, HA, HJ1, BK237, HB⟩ := hcut
  cases kq with
  | zero => exact absurd HA.out (by simp [marginaliaref11_Check.j0])
  | succ kj1 =>
   have H := HA.out
   clear HA
   simp only [marginaliaref11_Check.j0] at H
   have HC11 := Aside0.mk H
   clear H
   go_upto_block 0 with (fail)
   go_cut [3] (fun v3 wc => ∃ (kq : Nat) (x3_10 : Bool), v3 = .bool x3_10 ∧ Aside0 (marginaliaref11_Check.j2 kq x3_10 l0_0 l0_1 l0_2 l0_3 a0_4 = some r) ∧ Aside0 (kq ≤ kj1) ∧ Aside0 (wc.heap[gb237]? = some (.cells #[(.slice A0_0 l0_0.length c0_0), (.slice A0_1 l0_1.length c0_1), (.slice A0_2 l0_2.length c0_2), (.slice A0_3 l0_3.length c0_3), .int .i64 a0_4] 25 (0, 0))) ∧ Aside0 (Below w.heap.size w wc))
   case first =>
    have H := HC11.out
    clear HC11
    have H' := Aside0.mk H
    clear H
    go_wp2
    go_loopg [3, 4] kj1 (fun kq v3 v4 w' => ∃ (x3_2 : Bool) (x4_2 : Int), v3 = .bool x3_2 ∧ v4 = .int .i64 x4_2 ∧ Aside0 (marginaliaref11_Check.l0 kq x3_2 x4_2 l0_0 l0_1 l0_2 l0_3 a0_4 = some r) ∧ Aside0 (kq ≤ kj1) ∧ Aside0 (w'.heap[gb237]? = some (.cells #[(.slice A0_0 l0_0.length c0_0), (.slice A0_1 l0_1.length c0_1), (.slice A0_2 l0_2.length c0_2), (.slice A0_3 l0_3.length c0_3), .int .i64 a0_4] 25 (0, 0))) ∧ Aside0 (Below w.heap.size w w'))
    case atStart => exact ⟨(x3_1), (0), Rs, Rs, H', ⟨Nat.le_refl _⟩, ⟨(Bk BK237)⟩, ⟨Bw⟩⟩
    case round =>
     clear H'
     try clear c1
     try clear p2
     try clear c4
     try clear c4b0
     try clear c4b1
     try clear c6
     try clear c6b0
     try clear c6b1
     try clear c8
     try clear c8b0
     try clear c8b1
     try clear hcz10_0 hcz10_1 hcz10_2 hcz10_3 hcz10_4
     try clear hcz5_0 hcz5_1 hcz5_2 hcz5_3 hcz5_4
     try clear hcz7_0 hcz7_1 hcz7_2 hcz7_3 hcz7_4
     try clear hcz9_0 hcz9_1 hcz9_2 hcz9_3 hcz9_4
     try clear hfz10_0 hfz10_1 hfz10_2 hfz10_3 hfz10_4
     try clear hfz5_0 hfz5_1 hfz5_2 hfz5_3 hfz5_4
     try clear hfz7_0 hfz7_1 hfz7_2 hfz7_3 hfz7_4
     try clear hfz9_0 hfz9_1 hfz9_2 hfz9_3 hfz9_4
     try clear p2
     obtain ⟨x3_2, x4_2, rfl, rfl, HA, HK2, BK237, HB⟩ := hrel
     cases gk with
     | zero => exact absurd HA.out (by simp [marginaliaref11_Check.l0])
     | succ k2 =>
      have H := HA.out
      clear HA
      simp only [marginaliaref11_Check.l0] at H
      by_cases c12 : x4_2 < (l0_0.length : Int)
      ·rw [if_pos c12] at H
       have c12b0 : decide (x4_2 < (l0_0.length : Int)) = true := decide_eq_true c12
       clear c12
       (first | rw [c12b0] | (simp only [i64_w, i32_w]; rw [c12b0]) | skip)
       by_cases c13 : x3_2 = true
       ·subst c13
        rw [if_pos rfl] at H
        have H' := Aside0.mk H
        clear H
        obtain ⟨hcz14_0, hcz14_1, hcz14_2, hcz14_3, hcz14_4, hfz14_0, hfz14_1, hfz14_2, hfz14_3, hfz14_4⟩ := cells5 BK237
        go_wp2
        go_meet
        case rel => exact ⟨_, (true), Rs, H', ⟨by have := HJ1.out; have := HK2.out; first | omega | exact Nat.le_refl _⟩, ⟨(Bk BK237)⟩, ⟨Bw⟩⟩
       replace c13 := Bool.eq_false_iff.mpr c13
       subst c13
       rw [if_neg (show ¬ (false = true) by decide)] at H
       by_cases c15 : 0 ≤ x4_2
       ·rw [if_pos c15] at H
        have c15b0 : decide (0 ≤ x4_2) = true := decide_eq_true c15
        clear c15
        have H' := Aside0.mk H
        clear H
        obtain ⟨hcz16_0, hcz16_1, hcz16_2, hcz16_3, hcz16_4, hfz16_0, hfz16_1, hfz16_2, hfz16_3, hfz16_4⟩ := cells5 BK237
        have p238 : 0 ≤ (x4_2 : Int) := of_decide_eq_true Dt
        have q238 : x4_2 < (l0_0.length : Int) := of_decide_eq_true Dt
        obtain ⟨ad238, A238_1, c238_1, e238, hx238_0, hx238_1, hl238_1, hi238_1⟩ := at_T53 HR0_0.out x4_2 p238 q238
        cases e238
        replace hx238_0 := Hx hx238_0
        replace hx238_1 := Hx hx238_1
        have HR238_1 := Aside0.mk hi238_1
        have HC238_1 := Aside0.mk hl238_1
        clear hi238_1 hl238_1
        replace p238 := eq_true p238
        replace q238 := eq_true q238
        go_wp2
        go_roundg k2
        case measure => have := HJ1.out; have := HK2.out; omega
        case rel => exact ⟨(decide ((((rd_T53 l0_0 x4_2).f1).length : Int) > 20)), (wrap64 (x4_2 + 1)), Rs, Rs, H', ⟨by have := HJ1.out; have := HK2.out; omega⟩, ⟨(Bk BK237)⟩, ⟨Bw⟩⟩
       rw [if_neg c15] at H
       exact absurd H (by simp)
      rw [if_neg c12] at H
      have c12b0 : decide (x4_2 < (l0_0.length : Int)) = false := decide_eq_false c12
      clear c12
      (first | rw [c12b0] | (simp only [i64_w, i32_w]; rw [c12b0]) | skip)
      have H' := Aside0.mk H
      clear H
      obtain ⟨hcz17_0, hcz17_1, hcz17_2, hcz17_3, hcz17_4, hfz17_0, hfz17_1, hfz17_2, hfz17_3, hfz17_4⟩ := cells5 BK237
      go_wp2
      go_meet
      case rel => exact ⟨_, (x3_2), Rs, H', ⟨by have := HJ1.out; have := HK2.out; first | omega | exact Nat.le_refl _⟩, ⟨(Bk BK237)⟩, ⟨Bw⟩⟩
   case rest =>
    clear HC11
    try clear c1
    try clear c2
    try clear p2
    try clear q2
    try clear hx2
    try clear c4
    try clear c4b0
    try clear c4b1
    try clear c6
    try clear c6b0
    try clear c6b1
    try clear p6
    try clear c8
    try clear c8b0
    try clear c8b1
    try clear c12
    try clear c12b0
    try clear c13
    try clear c15
    try clear c15b0
    try clear hcz10_0 hcz10_1 hcz10_2 hcz10_3 hcz10_4
    try clear hcz14_0 hcz14_1 hcz14_2 hcz14_3 hcz14_4
    try clear hcz16_0 hcz16_1 hcz16_2 hcz16_3 hcz16_4
    try clear hcz17_0 hcz17_1 hcz17_2 hcz17_3 hcz17_4
    try clear hcz5_0 hcz5_1 hcz5_2 hcz5_3 hcz5_4
    try clear hcz7_0 hcz7_1 hcz7_2 hcz7_3 hcz7_4
    try clear hcz9_0 hcz9_1 hcz9_2 hcz9_3 hcz9_4
    try clear hfz10_0 hfz10_1 hfz10_2 hfz10_3 hfz10_4
    try clear hfz14_0 hfz14_1 hfz14_2 hfz14_3 hfz14_4
    try clear hfz16_0 hfz16_1 hfz16_2 hfz16_3 hfz16_4
    try clear hfz17_0 hfz17_1 hfz17_2 hfz17_3 hfz17_4
    try clear hfz5_0 hfz5_1 hfz5_2 hfz5_3 hfz5_4
    try clear hfz7_0 hfz7_1 hfz7_2 hfz7_3 hfz7_4
    try clear hfz9_0 hfz9_1 hfz9_2 hfz9_3 hfz9_4
    try clear hx238_0
    try clear hx238_1
    try clear p2
    try clear p238
    try clear q238
    obtain ⟨kq, x3_10, rfl, HA, HJ10, BK237, HB⟩ := hcut
    cases kq with
    | zero => exact absurd HA.out (by simp [marginaliaref11_Check.j2])
    | succ kj10 =>
     have H := HA.out
     clear HA
     simp only [marginaliaref11_Check.j2] at H
     by_cases c18 : x3_10 = true
     ·subst c18
      rw [if_pos rfl] at H
      obtain rfl := Option.some.inj H
      go_wp2
      go_ret
      exact ⟨Re, Bw⟩
     replace c18 := Bool.eq_false_iff.mpr c18
     subst c18
     rw [if_neg (show ¬ (false = true) by decide)] at H
     have HC19 := Aside0.mk H
     clear H
     go_upto_region 8 with (fail)
     go_cut [5] (fun v5 wc => ∃ (kq : Nat) (x5_18 : Bool), v5 = .bool x5_18 ∧ Aside0 (marginaliaref11_Check.j3 kq x5_18 l0_0 l0_1 l0_2 l0_3 a0_4 = some r) ∧ Aside0 (kq ≤ kj10) ∧ Aside0 (wc.heap[gb237]? = some (.cells #[(.slice A0_0 l0_0.length c0_0), (.slice A0_1 l0_1.length c0_1), (.slice A0_2 l0_2.length c0_2), (.slice A0_3 l0_3.length c0_3), .int .i64 a0_4] 25 (0, 0))) ∧ Aside0 (Below w.heap.size w wc))
     case first =>
      have H := HC19.out
      clear HC19
      by_cases c20 : a0_4 ≥ 1
      ·rw [if_pos c20] at H
       have c20b0 : decide (1 ≤ a0_4) = true := decide_eq_true c20
       clear c20
       (first | rw [c20b0] | (simp only [i64_w, i32_w]; rw [c20b0]) | skip)
       by_cases c21 : a0_4 ≤ 60
       ·rw [if_pos c21] at H
        have c21b0 : decide (a0_4 ≤ 60) = true := decide_eq_true c21
        clear c21
        replace H := Option.bind_eq_some_iff.mp H
        obtain ⟨t239, A220, H⟩ := H
        try dsimp -simprocs only at H
        have A22 := Aside0.mk A220
        clear A220
        by_cases c23 : t239 = true
        ·subst c23
         rw [if_pos rfl] at H
         replace H := Option.bind_eq_some_iff.mp H
         obtain ⟨t240, A240, H⟩ := H
         try dsimp -simprocs only at H
         have A24 := Aside0.mk A240
         clear A240
         by_cases c25 : t240 = true
         ·subst c25
          rw [if_pos rfl] at H
          replace H := Option.bind_eq_some_iff.mp H
          obtain ⟨t241, A260, H⟩ := H
          try dsimp -simprocs only at H
          have A26 := Aside0.mk A260
          clear A260
          have H' := Aside0.mk H
          clear H
          obtain ⟨hcz27_0, hcz27_1, hcz27_2, hcz27_3, hcz27_4, hfz27_0, hfz27_1, hfz27_2, hfz27_3, hfz27_4⟩ := cells5 BK237
          go_wp2_with (first | (go_at_call 33; (with_reducible refine (marginaliaref11_names.calls kj10 _ _ l0_1 true _ (Cs HR0_1) HC0_1.out A22.out).mono ?_); rintro e w' ⟨rfl, ⟨nd, rfl⟩⟩) | (go_at_call 33; (with_reducible refine (marginaliaref11_names.calls kj10 _ _ l0_2 true _ ?side1 HC0_2.out A24.out).mono ?_); (case side1 => repeat (first | exact (Kd.C_below HR0_2.out Bw) | (with_reducible refine Kd.C_alloc ?_ _) | (with_reducible refine Kd.C_drewN ?_ _) | (with_reducible refine Kd.C_drew ?_))); rintro e w' ⟨rfl, ⟨nd, rfl⟩⟩) | (go_at_call 33; (with_reducible refine (marginaliaref11_names.calls kj10 _ _ l0_3 t241 _ ?side1 HC0_3.out A26.out).mono ?_); (case side1 => repeat (first | exact (Kd.C_below HR0_3.out Bw) | (with_reducible refine Kd.C_alloc ?_ _) | (with_reducible refine Kd.C_drewN ?_ _) | (with_reducible refine Kd.C_drew ?_))); rintro e w' ⟨rfl, ⟨nd, rfl⟩⟩))
          go_meet
          case rel => exact ⟨_, (t241), Rs, H', ⟨by have := HJ1.out; have := HJ10.out; first | omega | exact Nat.le_refl _⟩, ⟨(Bk BK237)⟩, ⟨Bw⟩⟩
         replace c25 := Bool.eq_false_iff.mpr c25
         subst c25
         rw [if_neg (show ¬ (false = true) by decide)] at H
         have H' := Aside0.mk H
         clear H
         obtain ⟨hcz28_0, hcz28_1, hcz28_2, hcz28_3, hcz28_4, hfz28_0, hfz28_1, hfz28_2, hfz28_3, hfz28_4⟩ := cells5 BK237
         go_wp2_with (first | (go_at_call 33; (with_reducible refine (marginaliaref11_names.calls kj10 _ _ l0_1 true _ (Cs HR0_1) HC0_1.out A22.out).mono ?_); rintro e w' ⟨rfl, ⟨nd, rfl⟩⟩) | (go_at_call 33; (with_reducible refine (marginaliaref11_names.calls kj10 _ _ l0_2 false _ ?side1 HC0_2.out A24.out).mono ?_); (case side1 => repeat (first | exact (Kd.C_below HR0_2.out Bw) | (with_reducible refine Kd.C_alloc ?_ _) | (with_reducible refine Kd.C_drewN ?_ _) | (with_reducible refine Kd.C_drew ?_))); rintro e w' ⟨rfl, ⟨nd, rfl⟩⟩))
         go_meet
         case rel => exact ⟨_, (false), Rs, H', ⟨by have := HJ1.out; have := HJ10.out; first | omega | exact Nat.le_refl _⟩, ⟨(Bk BK237)⟩, ⟨Bw⟩⟩
        replace c23 := Bool.eq_false_iff.mpr c23
        subst c23
        rw [if_neg (show ¬ (false = true) by decide)] at H
        have H' := Aside0.mk H
        clear H
        obtain ⟨hcz29_0, hcz29_1, hcz29_2, hcz29_3, hcz29_4, hfz29_0, hfz29_1, hfz29_2, hfz29_3, hfz29_4⟩ := cells5 BK237
        go_wp2_with (first | (go_at_call 33; (with_reducible refine (marginaliaref11_names.calls kj10 _ _ l0_1 false _ (Cs HR0_1) HC0_1.out A22.out).mono ?_); rintro e w' ⟨rfl, ⟨nd, rfl⟩⟩))
        go_meet
        case rel => exact ⟨_, (false), Rs, H', ⟨by have := HJ1.out; have := HJ10.out; first | omega | exact Nat.le_refl _⟩, ⟨(Bk BK237)⟩, ⟨Bw⟩⟩
       rw [if_neg c21] at H
       have c21b0 : decide (a0_4 ≤ 60) = false := decide_eq_false c21
       clear c21
       have H' := Aside0.mk H
       clear H
       obtain ⟨hcz30_0, hcz30_1, hcz30_2, hcz30_3, hcz30_4, hfz30_0, hfz30_1, hfz30_2, hfz30_3, hfz30_4⟩ := cells5 BK237
       go_wp2
       go_meet
       case rel => exact ⟨_, (false), Rs, H', ⟨by have := HJ1.out; have := HJ10.out; first | omega | exact Nat.le_refl _⟩, ⟨(Bk BK237)⟩, ⟨Bw⟩⟩
      rw [if_neg c20] at H
      have c20b0 : decide (1 ≤ a0_4) = false := decide_eq_false c20
      clear c20
      (first | rw [c20b0] | (simp only [i64_w, i32_w]; rw [c20b0]) | skip)
      have H' := Aside0.mk H
      clear H
      obtain ⟨hcz31_0, hcz31_1, hcz31_2, hcz31_3, hcz31_4, hfz31_0, hfz31_1, hfz31_2, hfz31_3, hfz31_4⟩ := cells5 BK237
      go_wp2
      go_meet
      case rel => exact ⟨_, (false), Rs, H', ⟨by have := HJ1.out; have := HJ10.out; first | omega | exact Nat.le_refl _⟩, ⟨(Bk BK237)⟩, ⟨Bw⟩⟩
     case rest =>
      clear HC19
      try clear c1
      try clear c2
      try clear p2
      try clear q2
      try clear hx2
      try clear c4
      try clear c4b0
      try clear c4b1
      try clear c6
      try clear c6b0
      try clear c6b1
      try clear p6
      try clear c8
      try clear c8b0
      try clear c8b1
      try clear c12
      try clear c12b0
      try clear c13
      try clear c15
      try clear c15b0
      try clear c18
      try clear c20
      try clear c20b0
      try clear c21
      try clear c21b0
      try clear c23
      try clear p23
      try clear q23
      try clear hx23
      try clear c25
      try clear hcz10_0 hcz10_1 hcz10_2 hcz10_3 hcz10_4
      try clear hcz14_0 hcz14_1 hcz14_2 hcz14_3 hcz14_4
      try clear hcz16_0 hcz16_1 hcz16_2 hcz16_3 hcz16_4
      try clear hcz17_0 hcz17_1 hcz17_2 hcz17_3 hcz17_4
      try clear hcz27_0 hcz27_1 hcz27_2 hcz27_3 hcz27_4
      try clear hcz28_0 hcz28_1 hcz28_2 hcz28_3 hcz28_4
      try clear hcz29_0 hcz29_1 hcz29_2 hcz29_3 hcz29_4
      try clear hcz30_0 hcz30_1 hcz30_2 hcz30_3 hcz30_4
      try clear hcz31_0 hcz31_1 hcz31_2 hcz31_3 hcz31_4
      try clear hcz5_0 hcz5_1 hcz5_2 hcz5_3 hcz5_4
      try clear hcz7_0 hcz7_1 hcz7_2 hcz7_3 hcz7_4
      try clear hcz9_0 hcz9_1 hcz9_2 hcz9_3 hcz9_4
      try clear hfz10_0 hfz10_1 hfz10_2 hfz10_3 hfz10_4
      try clear hfz14_0 hfz14_1 hfz14_2 hfz14_3 hfz14_4
      try clear hfz16_0 hfz16_1 hfz16_2 hfz16_3 hfz16_4
      try clear hfz17_0 hfz17_1 hfz17_2 hfz17_3 hfz17_4
      try clear hfz27_0 hfz27_1 hfz27_2 hfz27_3 hfz27_4
      try clear hfz28_0 hfz28_1 hfz28_2 hfz28_3 hfz28_4
      try clear hfz29_0 hfz29_1 hfz29_2 hfz29_3 hfz29_4
      try clear hfz30_0 hfz30_1 hfz30_2 hfz30_3 hfz30_4
      try clear hfz31_0 hfz31_1 hfz31_2 hfz31_3 hfz31_4
      try clear hfz5_0 hfz5_1 hfz5_2 hfz5_3 hfz5_4
      try clear hfz7_0 hfz7_1 hfz7_2 hfz7_3 hfz7_4
      try clear hfz9_0 hfz9_1 hfz9_2 hfz9_3 hfz9_4
      try clear hx238_0
      try clear hx238_1
      try clear p2
      try clear p238
      try clear p6
      try clear q2
      try clear q238
      obtain ⟨kq, x5_18, rfl, HA, HJ18, BK237, HB⟩ := hcut
      cases kq with
      | zero => exact absurd HA.out (by simp [marginaliaref11_Check.j3])
      | succ kj18 =>
       have H := HA.out
       clear HA
       simp only [marginaliaref11_Check.j3] at H
       have H' := Aside0.mk H
       clear H
       go_wp2
       go_loopg [5, 6] kj18 (fun kq v5 v6 w' => ∃ (x5_4 : Bool) (x6_4 : Int), v5 = .bool x5_4 ∧ v6 = .int .i64 x6_4 ∧ Aside0 (marginaliaref11_Check.l1 kq x5_4 x6_4 l0_0 l0_1 l0_2 l0_3 a0_4 = some r) ∧ Aside0 (kq ≤ kj18) ∧ Aside0 (w'.heap[gb237]? = some (.cells #[(.slice A0_0 l0_0.length c0_0), (.slice A0_1 l0_1.length c0_1), (.slice A0_2 l0_2.length c0_2), (.slice A0_3 l0_3.length c0_3), .int .i64 a0_4] 25 (0, 0))) ∧ Aside0 (Below w.heap.size w w'))
       case atStart => exact ⟨(x5_18), (0), Rs, Rs, H', ⟨Nat.le_refl _⟩, ⟨(Bk BK237)⟩, ⟨Bw⟩⟩
       case round =>
        clear H'
        try clear c1
        try clear c2
        try clear p2
        try clear q2
        try clear hx2
        try clear c4
        try clear c4b0
        try clear c4b1
        try clear c6
        try clear c6b0
        try clear c6b1
        try clear p6
        try clear c8
        try clear c8b0
        try clear c8b1
        try clear c12
        try clear c12b0
        try clear c13
        try clear c15
        try clear c15b0
        try clear c18
        try clear c20
        try clear c20b0
        try clear c21
        try clear c21b0
        try clear c23
        try clear p23
        try clear q23
        try clear hx23
        try clear c25
        try clear hcz10_0 hcz10_1 hcz10_2 hcz10_3 hcz10_4
        try clear hcz14_0 hcz14_1 hcz14_2 hcz14_3 hcz14_4
        try clear hcz16_0 hcz16_1 hcz16_2 hcz16_3 hcz16_4
        try clear hcz17_0 hcz17_1 hcz17_2 hcz17_3 hcz17_4
        try clear hcz27_0 hcz27_1 hcz27_2 hcz27_3 hcz27_4
        try clear hcz28_0 hcz28_1 hcz28_2 hcz28_3 hcz28_4
        try clear hcz29_0 hcz29_1 hcz29_2 hcz29_3 hcz29_4
        try clear hcz30_0 hcz30_1 hcz30_2 hcz30_3 hcz30_4
        try clear hcz31_0 hcz31_1 hcz31_2 hcz31_3 hcz31_4
        try clear hcz5_0 hcz5_1 hcz5_2 hcz5_3 hcz5_4
        try clear hcz7_0 hcz7_1 hcz7_2 hcz7_3 hcz7_4
        try clear hcz9_0 hcz9_1 hcz9_2 hcz9_3 hcz9_4
        try clear hfz10_0 hfz10_1 hfz10_2 hfz10_3 hfz10_4
        try clear hfz14_0 hfz14_1 hfz14_2 hfz14_3 hfz14_4
        try clear hfz16_0 hfz16_1 hfz16_2 hfz16_3 hfz16_4
        try clear hfz17_0 hfz17_1 hfz17_2 hfz17_3 hfz17_4
        try clear hfz27_0 hfz27_1 hfz27_2 hfz27_3 hfz27_4
        try clear hfz28_0 hfz28_1 hfz28_2 hfz28_3 hfz28_4
        try clear hfz29_0 hfz29_1 hfz29_2 hfz29_3 hfz29_4
        try clear hfz30_0 hfz30_1 hfz30_2 hfz30_3 hfz30_4
        try clear hfz31_0 hfz31_1 hfz31_2 hfz31_3 hfz31_4
        try clear hfz5_0 hfz5_1 hfz5_2 hfz5_3 hfz5_4
        try clear hfz7_0 hfz7_1 hfz7_2 hfz7_3 hfz7_4
        try clear hfz9_0 hfz9_1 hfz9_2 hfz9_3 hfz9_4
        try clear hx238_0
        try clear hx238_1
        try clear p2
        try clear p23
        try clear p238
        try clear p6
        try clear q2
        try clear q23
        try clear q238
        obtain ⟨x5_4, x6_4, rfl, rfl, HA, HK4, BK237, HB⟩ := hrel
        cases gk with
        | zero => exact absurd HA.out (by simp [marginaliaref11_Check.l1])
        | succ k4 =>
         have H := HA.out
         clear HA
         simp only [marginaliaref11_Check.l1] at H
         by_cases c32 : x6_4 < (l0_0.length : Int)
         ·rw [if_pos c32] at H
          have c32b0 : decide (x6_4 < (l0_0.length : Int)) = true := decide_eq_true c32
          clear c32
          have H' := Aside0.mk H
          clear H
          obtain ⟨hcz33_0, hcz33_1, hcz33_2, hcz33_3, hcz33_4, hfz33_0, hfz33_1, hfz33_2, hfz33_3, hfz33_4⟩ := cells5 BK237
          go_wp2
          go_loopg [5, 7] k4 (fun kq v5 v7 w' => ∃ (x5_5 : Bool) (x7_5 : Int), v5 = .bool x5_5 ∧ v7 = .int .i64 x7_5 ∧ Aside0 (marginaliaref11_Check.l2 kq x5_5 x6_4 x7_5 l0_0 l0_1 l0_2 l0_3 a0_4 = some r) ∧ Aside0 (kq ≤ k4) ∧ Aside0 (w'.heap[gb237]? = some (.cells #[(.slice A0_0 l0_0.length c0_0), (.slice A0_1 l0_1.length c0_1), (.slice A0_2 l0_2.length c0_2), (.slice A0_3 l0_3.length c0_3), .int .i64 a0_4] 25 (0, 0))) ∧ Aside0 (Below w.heap.size w w'))
          case atStart => exact ⟨(x5_4), (0), Rs, Rs, H', ⟨Nat.le_refl _⟩, ⟨(Bk BK237)⟩, ⟨Bw⟩⟩
          case round =>
           clear H'
           try clear c1
           try clear c2
           try clear p2
           try clear q2
           try clear hx2
           try clear c3
           try clear c4
           try clear c4b0
           try clear c4b1
           try clear c6
           try clear c6b0
           try clear c6b1
           try clear p6
           try clear c8
           try clear c8b0
           try clear c8b1
           try clear c12
           try clear c12b0
           try clear c13
           try clear c15
           try clear c15b0
           try clear c18
           try clear c20
           try clear c20b0
           try clear c21
           try clear c21b0
           try clear c23
           try clear p23
           try clear q23
           try clear hx23
           try clear c25
           try clear c32
           try clear c32b0
           try clear hcz10_0 hcz10_1 hcz10_2 hcz10_3 hcz10_4
           try clear hcz14_0 hcz14_1 hcz14_2 hcz14_3 hcz14_4
           try clear hcz16_0 hcz16_1 hcz16_2 hcz16_3 hcz16_4
           try clear hcz17_0 hcz17_1 hcz17_2 hcz17_3 hcz17_4
           try clear hcz27_0 hcz27_1 hcz27_2 hcz27_3 hcz27_4
           try clear hcz28_0 hcz28_1 hcz28_2 hcz28_3 hcz28_4
           try clear hcz29_0 hcz29_1 hcz29_2 hcz29_3 hcz29_4
           try clear hcz30_0 hcz30_1 hcz30_2 hcz30_3 hcz30_4
           try clear hcz31_0 hcz31_1 hcz31_2 hcz31_3 hcz31_4
           try clear hcz33_0 hcz33_1 hcz33_2 hcz33_3 hcz33_4
           try clear hcz5_0 hcz5_1 hcz5_2 hcz5_3 hcz5_4
           try clear hcz7_0 hcz7_1 hcz7_2 hcz7_3 hcz7_4
           try clear hcz9_0 hcz9_1 hcz9_2 hcz9_3 hcz9_4
           try clear hfz10_0 hfz10_1 hfz10_2 hfz10_3 hfz10_4
           try clear hfz14_0 hfz14_1 hfz14_2 hfz14_3 hfz14_4
           try clear hfz16_0 hfz16_1 hfz16_2 hfz16_3 hfz16_4
           try clear hfz17_0 hfz17_1 hfz17_2 hfz17_3 hfz17_4
           try clear hfz27_0 hfz27_1 hfz27_2 hfz27_3 hfz27_4
           try clear hfz28_0 hfz28_1 hfz28_2 hfz28_3 hfz28_4
           try clear hfz29_0 hfz29_1 hfz29_2 hfz29_3 hfz29_4
           try clear hfz30_0 hfz30_1 hfz30_2 hfz30_3 hfz30_4
           try clear hfz31_0 hfz31_1 hfz31_2 hfz31_3 hfz31_4
           try clear hfz33_0 hfz33_1 hfz33_2 hfz33_3 hfz33_4
           try clear hfz5_0 hfz5_1 hfz5_2 hfz5_3 hfz5_4
           try clear hfz7_0 hfz7_1 hfz7_2 hfz7_3 hfz7_4
           try clear hfz9_0 hfz9_1 hfz9_2 hfz9_3 hfz9_4
           try clear hx238_0
           try clear hx238_1
           try clear p2
           try clear p23
           try clear p238
           try clear p6
           try clear q2
           try clear q23
           try clear q238
           obtain ⟨x5_5, x7_5, rfl, rfl, HA, HK5, BK237, HB⟩ := hrel
           cases gk with
           | zero => exact absurd HA.out (by simp [marginaliaref11_Check.l2])
           | succ k5 =>
            have H := HA.out
            clear HA
            simp only [marginaliaref11_Check.l2] at H
            by_cases c34 : x7_5 < x6_4
            ·rw [if_pos c34] at H
             have c34b0 : decide (x7_5 < x6_4) = true := decide_eq_true c34
             clear c34
             by_cases c35 : x5_5 = true
             ·subst c35
              rw [if_pos rfl] at H
              by_cases c36 : 0 ≤ x7_5
              ·rw [if_pos c36] at H
               have c36b0 : decide (0 ≤ x7_5) = true := decide_eq_true c36
               clear c36
               by_cases c37 : x7_5 < (l0_0.length : Int)
               ·rw [if_pos c37] at H
                have c37b0 : decide (x7_5 < (l0_0.length : Int)) = true := decide_eq_true c37
                clear c37
                by_cases c38 : 0 ≤ x6_4
                ·rw [if_pos c38] at H
                 have c38b0 : decide (0 ≤ x6_4) = true := decide_eq_true c38
                 clear c38
                 by_cases c39 : x6_4 < (l0_0.length : Int)
                 ·rw [if_pos c39] at H
                  have c39b0 : decide (x6_4 < (l0_0.length : Int)) = true := decide_eq_true c39
                  clear c39
                  have H' := Aside0.mk H
                  clear H
                  try go_wp2
                  replace BK237 := Aside0.mk (blk_drew BK237.out)
                  replace HB := Aside0.mk (below_drew1 HB.out)
                  have p242 : 0 ≤ (x7_5 : Int) := of_decide_eq_true Dt
                  have q242 : x7_5 < (l0_0.length : Int) := of_decide_eq_true Dt
                  obtain ⟨ad242, A242_1, c242_1, e242, hx242_0, hx242_1, hl242_1, hi242_1⟩ := at_T53 HR0_0.out x7_5 p242 q242
                  have hw242_1 := hx242_1
                  have hw242_0 := hx242_0
                  cases e242
                  replace hx242_0 := Hx hx242_0
                  replace hx242_1 := Hx hx242_1
                  have HR242_1 := Aside0.mk hi242_1
                  have HC242_1 := Aside0.mk hl242_1
                  clear hi242_1 hl242_1
                  replace p242 := eq_true p242
                  replace q242 := eq_true q242
                  have p243 : 0 ≤ (x6_4 : Int) := of_decide_eq_true Dt
                  have q243 : x6_4 < (l0_0.length : Int) := of_decide_eq_true Dt
                  obtain ⟨ad243, A243_1, c243_1, e243, hx243_0, hx243_1, hl243_1, hi243_1⟩ := at_T53 HR0_0.out x6_4 p243 q243
                  have hw243_1 := hx243_1
                  have hw243_0 := hx243_0
                  obtain rfl : ad242 = ad243 := (by injection e243)
                  replace hx243_0 := Hx hx243_0
                  replace hx243_1 := Hx hx243_1
                  have HR243_1 := Aside0.mk hi243_1
                  have HC243_1 := Aside0.mk hl243_1
                  clear hi243_1 hl243_1
                  replace p243 := eq_true p243
                  replace q243 := eq_true q243
                  refine start_ (n := 17) (S := fun w' => w'.cell? ⟨gb237, 0, none⟩ = some (.slice (some ad242) l0_0.length c0_0) ∧ w'.cell? ⟨gb237, 1, none⟩ = some (.slice A0_1 l0_1.length c0_1) ∧ w'.cell? ⟨gb237, 2, none⟩ = some (.slice A0_2 l0_2.length c0_2) ∧ w'.cell? ⟨gb237, 3, none⟩ = some (.slice A0_3 l0_3.length c0_3) ∧ w'.cell? ⟨gb237, 4, none⟩ = some (.int .i64 a0_4) ∧ w'.cell? (ad242.add ((x7_5).toNat * 2)) = some (.string ((rd_T53 l0_0 x7_5).f0)) ∧ w'.cell? ⟨(ad242.add ((x7_5).toNat * 2)).block, (ad242.add ((x7_5).toNat * 2)).off + 1, none⟩ = some (.slice A242_1 ((rd_T53 l0_0 x7_5).f1).length c242_1) ∧ w'.cell? (ad242.add ((x6_4).toNat * 2)) = some (.string ((rd_T53 l0_0 x6_4).f0)) ∧ w'.cell? ⟨(ad242.add ((x6_4).toNat * 2)).block, (ad242.add ((x6_4).toNat * 2)).off + 1, none⟩ = some (.slice A243_1 ((rd_T53 l0_0 x6_4).f1).length c243_1)) (ds := []) #[false, false, false, false, false, false, false, false, false, false, false, false, false, false, false, false, false] (by kernel_rfl) rfl rfl (and5 BK237 ⟨((HB.out.cell (World.block_lt_of_cell? w _ hw242_0)).trans hw242_0), ((HB.out.cell (World.block_lt_of_cell? w _ hw242_1)).trans hw242_1), ((HB.out.cell (World.block_lt_of_cell? w _ hw243_0)).trans hw243_0), ((HB.out.cell (World.block_lt_of_cell? w _ hw243_1)).trans hw243_1)⟩) (fun hHeld => ?_); refine with_tabW marginaliaref11_Check.tab15 marginaliaref11_Check.bits15 (fun HT_ HW_ => ?_)
                  generalize wr.drew = w40 at BK237 HB HR242_1 HR243_1 hx242_0 hx242_1 hx243_0 hx243_1 hHeld ⊢
                  refine pureS 0 85 (bl 17 1) ?_
                  refine pureS 1 86 (bl 17 3) ?_
                  refine pureS 2 87 (bl 17 7) ?_
                  refine pureS 4 89 (bl 17 23) ?_
                  refine pureS 8 93 (bl 17 279) ?_
                  refine pureS 10 95 (bl 17 1303) ?_
                  refine take_ (i := 3) (N := some 88) (v := ?_) (a' := ?_) (bl 17 1311) rfl rfl (take_ofW HT_.out HW_.out (by kernel_rfl)) (fun _ _ _ h => h) (Or.inl ⟨by rfl, ?_⟩) hHeld ?_ ?_
                  rotate_left
                  ·rintro w' ⟨s0, s1, s2, s3, s4, s5, s6, s7, s8⟩
                   go_simp
                   with_reducible rfl
                  rotate_left
                  ·simp only [Act.put, List.setIfInBounds_toArray, List.set_cons_zero, List.set_cons_succ, i64_w, i32_w]
                   rfl
                  refine pureS 5 90 (bl 17 1343) ?_
                  refine pureS 6 91 (bl 17 1407) ?_
                  refine take_ (i := 7) (N := some 92) (v := ?_) (a' := ?_) (bl 17 1535) rfl rfl (take_ofW HT_.out HW_.out (by kernel_rfl)) (fun _ _ _ h => h) (Or.inl ⟨by rfl, ?_⟩) hHeld ?_ ?_
                  rotate_left
                  ·rintro w' ⟨s0, s1, s2, s3, s4, s5, s6, s7, s8⟩
                   go_simp
                   with_reducible rfl
                  rotate_left
                  ·simp only [Act.put, List.setIfInBounds_toArray, List.set_cons_zero, List.set_cons_succ, i64_w, i32_w]
                   rfl
                  refine take_ (i := 9) (N := some 94) (v := ?_) (a' := ?_) (bl 17 2047) rfl rfl (take_ofW HT_.out HW_.out (by kernel_rfl)) (fun _ _ _ h => h) (Or.inl ⟨by rfl, ?_⟩) hHeld ?_ ?_
                  rotate_left
                  ·rintro w' ⟨s0, s1, s2, s3, s4, s5, s6, s7, s8⟩
                   go_simp
                   with_reducible rfl
                  rotate_left
                  ·simp only [Act.put, List.setIfInBounds_toArray, List.set_cons_zero, List.set_cons_succ, i64_w, i32_w]
                   rfl
                  refine pureS 11 96 (bl 17 4095) ?_
                  refine pureS 12 97 (bl 17 8191) ?_
                  refine take_ (i := 13) (N := some 98) (v := ?_) (a' := ?_) (bl 17 16383) rfl rfl (take_ofW HT_.out HW_.out (by kernel_rfl)) (fun _ _ _ h => h) (Or.inl ⟨by rfl, ?_⟩) hHeld ?_ ?_
                  rotate_left
                  ·rintro w' ⟨s0, s1, s2, s3, s4, s5, s6, s7, s8⟩
                   go_simp
                   with_reducible rfl
                  rotate_left
                  ·simp only [Act.put, List.setIfInBounds_toArray, List.set_cons_zero, List.set_cons_succ, i64_w, i32_w]
                   rfl
                  refine pureS 14 99 (bl 17 32767) ?_
                  refine pureS 15 100 (bl 17 65535) ?_
                  refine pureS 16 5 (bl 17 131071) ?_
                  refine done_ (done_of HT_.out (by kernel_rfl)) ?_
                  try go_wp2
                  go_roundg k5
                  case measure => have := HJ1.out; have := HJ10.out; have := HJ18.out; have := HK4.out; have := HK5.out; omega
                  case rel => exact ⟨((((rd_T53 l0_0 x7_5).f0).toList != ((rd_T53 l0_0 x6_4).f0).toList)), (wrap64 (x7_5 + 1)), Rs, Rs, H', ⟨by have := HJ1.out; have := HJ10.out; have := HJ18.out; have := HK4.out; have := HK5.out; omega⟩, ⟨(Bk BK237)⟩, ⟨Bw⟩⟩
                 rw [if_neg c39] at H
                 exact absurd H (by simp)
                rw [if_neg c38] at H
                exact absurd H (by simp)
               rw [if_neg c37] at H
               exact absurd H (by simp)
              rw [if_neg c36] at H
              exact absurd H (by simp)
             replace c35 := Bool.eq_false_iff.mpr c35
             subst c35
             rw [if_neg (show ¬ (false = true) by decide)] at H
             have H' := Aside0.mk H
             clear H
             try go_wp2
             replace BK237 := Aside0.mk (blk_drew BK237.out)
             replace HB := Aside0.mk (below_drew1 HB.out)
             refine start_ (n := 17) (S := fun w' => True) (ds := []) #[false, false, false, false, false, false, false, false, false, false, false, false, false, false, false, false, false] (by kernel_rfl) rfl rfl trivial (fun hHeld => ?_); refine with_tabW marginaliaref11_Check.tab15 marginaliaref11_Check.bits15 (fun HT_ HW_ => ?_)
             generalize wr.drew = w41 at BK237 HB hHeld ⊢
             refine pureS 0 85 (bl 17 1) ?_
             refine pureS 1 86 (bl 17 3) ?_
             refine pureU 2 87 (bl 17 7) ?_
             refine pureU 3 88 (bl 17 15) ?_
             refine pureU 4 89 (bl 17 31) ?_
             refine pureU 5 90 (bl 17 63) ?_
             refine pureU 6 91 (bl 17 127) ?_
             refine pureU 7 92 (bl 17 255) ?_
             refine pureU 8 93 (bl 17 511) ?_
             refine pureU 9 94 (bl 17 1023) ?_
             refine pureU 10 95 (bl 17 2047) ?_
             refine pureU 11 96 (bl 17 4095) ?_
             refine pureU 12 97 (bl 17 8191) ?_
             refine pureU 13 98 (bl 17 16383) ?_
             refine pureU 14 99 (bl 17 32767) ?_
             refine pureS 15 100 (bl 17 65535) ?_
             refine pureS 16 5 (bl 17 131071) ?_
             refine done_ (done_of HT_.out (by kernel_rfl)) ?_
             try go_wp2
             go_roundg k5
             case measure => have := HJ1.out; have := HJ10.out; have := HJ18.out; have := HK4.out; have := HK5.out; omega
             case rel => exact ⟨(false), (wrap64 (x7_5 + 1)), Rs, Rs, H', ⟨by have := HJ1.out; have := HJ10.out; have := HJ18.out; have := HK4.out; have := HK5.out; omega⟩, ⟨(Bk BK237)⟩, ⟨Bw⟩⟩
            rw [if_neg c34] at H
            have c34b0 : decide (x7_5 < x6_4) = false := decide_eq_false c34
            clear c34
            by_cases c42 : x5_5 = true
            ·subst c42
             rw [if_pos rfl] at H
             by_cases c43 : 0 ≤ x6_4
             ·rw [if_pos c43] at H
              have c43b0 : decide (0 ≤ x6_4) = true := decide_eq_true c43
              clear c43
              by_cases c44 : x6_4 < (l0_0.length : Int)
              ·rw [if_pos c44] at H
               have c44b0 : decide (x6_4 < (l0_0.length : Int)) = true := decide_eq_true c44
               clear c44
               replace H := Option.bind_eq_some_iff.mp H
               obtain ⟨t245, A450, H⟩ := H
               try dsimp -simprocs only at H
               have A45 := Aside0.mk A450
               clear A450
               by_cases c46 : t245 = true
               ·subst c46
                rw [if_pos rfl] at H
                replace H := Option.bind_eq_some_iff.mp H
                obtain ⟨t247, A470, H⟩ := H
                try dsimp -simprocs only at H
                have A47 := Aside0.mk A470
                clear A470
                have H' := Aside0.mk H
                clear H
                try go_wp2
                replace BK237 := Aside0.mk (blk_drew BK237.out)
                replace HB := Aside0.mk (below_drew1 HB.out)
                have p244 : 0 ≤ (x6_4 : Int) := of_decide_eq_true Dt
                have q244 : x6_4 < (l0_0.length : Int) := of_decide_eq_true Dt
                obtain ⟨ad244, A244_1, c244_1, e244, hx244_0, hx244_1, hl244_1, hi244_1⟩ := at_T53 HR0_0.out x6_4 p244 q244
                have hw244_1 := hx244_1
                have hw244_0 := hx244_0
                cases e244
                replace hx244_0 := Hx hx244_0
                replace hx244_1 := Hx hx244_1
                have HR244_1 := Aside0.mk hi244_1
                have HC244_1 := Aside0.mk hl244_1
                clear hi244_1 hl244_1
                replace p244 := eq_true p244
                replace q244 := eq_true q244
                have p246 : 0 ≤ (x6_4 : Int) := of_decide_eq_true Dt
                have q246 : x6_4 < (l0_0.length : Int) := of_decide_eq_true Dt
                obtain ⟨ad246, A246_1, c246_1, e246, hx246_0, hx246_1, hl246_1, hi246_1⟩ := at_T53 HR0_0.out x6_4 p246 q246
                have hw246_1 := hx246_1
                have hw246_0 := hx246_0
                obtain rfl : ad244 = ad246 := (by injection e246)
                replace hx246_0 := Hx hx246_0
                replace hx246_1 := Hx hx246_1
                have HR246_1 := Aside0.mk hi246_1
                have HC246_1 := Aside0.mk hl246_1
                clear hi246_1 hl246_1
                replace p246 := eq_true p246
                replace q246 := eq_true q246
                refine start_ (n := 22) (S := fun w' => w'.cell? ⟨gb237, 0, none⟩ = some (.slice (some ad244) l0_0.length c0_0) ∧ w'.cell? ⟨gb237, 1, none⟩ = some (.slice A0_1 l0_1.length c0_1) ∧ w'.cell? ⟨gb237, 2, none⟩ = some (.slice A0_2 l0_2.length c0_2) ∧ w'.cell? ⟨gb237, 3, none⟩ = some (.slice A0_3 l0_3.length c0_3) ∧ w'.cell? ⟨gb237, 4, none⟩ = some (.int .i64 a0_4) ∧ w'.cell? (ad244.add ((x6_4).toNat * 2)) = some (.string ((rd_T53 l0_0 x6_4).f0)) ∧ w'.cell? ⟨(ad244.add ((x6_4).toNat * 2)).block, (ad244.add ((x6_4).toNat * 2)).off + 1, none⟩ = some (.slice A244_1 ((rd_T53 l0_0 x6_4).f1).length c244_1) ∧ w'.cell? (ad244.add ((x6_4).toNat * 2)) = some (.string ((rd_T53 l0_0 x6_4).f0)) ∧ w'.cell? ⟨(ad244.add ((x6_4).toNat * 2)).block, (ad244.add ((x6_4).toNat * 2)).off + 1, none⟩ = some (.slice A246_1 ((rd_T53 l0_0 x6_4).f1).length c246_1)) (ds := []) #[false, false, false, false, false, false, false, false, false, false, false, false, false, false, false, false, false, false, false, false, false, false] (by kernel_rfl) rfl rfl (and5 BK237 ⟨((HB.out.cell (World.block_lt_of_cell? w _ hw244_0)).trans hw244_0), ((HB.out.cell (World.block_lt_of_cell? w _ hw244_1)).trans hw244_1), ((HB.out.cell (World.block_lt_of_cell? w _ hw246_0)).trans hw246_0), ((HB.out.cell (World.block_lt_of_cell? w _ hw246_1)).trans hw246_1)⟩) (fun hHeld => ?_); refine with_tabW marginaliaref11_Check.tab16 marginaliaref11_Check.bits16 (fun HT_ HW_ => ?_)
                generalize wr.drew = w48 at BK237 HB HR244_1 HR246_1 hx244_0 hx244_1 hx246_0 hx246_1 hHeld ⊢
                refine pureS 0 101 (bl 22 1) ?_
                refine pureS 1 102 (bl 22 3) ?_
                refine pureS 2 103 (bl 22 7) ?_
                refine pureS 4 105 (bl 22 23) ?_
                refine take_ (i := 3) (N := some 104) (v := ?_) (a' := ?_) (bl 22 31) rfl rfl (take_ofW HT_.out HW_.out (by kernel_rfl)) (fun _ _ _ h => h) (Or.inl ⟨by rfl, ?_⟩) hHeld ?_ ?_
                rotate_left
                ·rintro w' ⟨s0, s1, s2, s3, s4, s5, s6, s7, s8⟩
                 go_simp
                 with_reducible rfl
                rotate_left
                ·simp only [Act.put, List.setIfInBounds_toArray, List.set_cons_zero, List.set_cons_succ, i64_w, i32_w]
                 rfl
                refine pureS 5 106 (bl 22 63) ?_
                refine take_ (i := 6) (N := some 107) (v := ?_) (a' := ?_) (bl 22 127) rfl rfl (take_ofW HT_.out HW_.out (by kernel_rfl)) (fun _ _ _ h => h) (Or.inl ⟨by rfl, ?_⟩) hHeld ?_ ?_
                rotate_left
                ·rintro w' ⟨s0, s1, s2, s3, s4, s5, s6, s7, s8⟩
                 go_simp
                 with_reducible rfl
                rotate_left
                ·simp only [Act.put, List.setIfInBounds_toArray, List.set_cons_zero, List.set_cons_succ, i64_w, i32_w]
                 rfl
                refine one_ (i := 7) (N := some 108) (bl 22 255) rfl rfl (one_of HT_.out (by kernel_rfl)) (by decide) (fun K hK => ?_)
                refine goG Tryd.func34 #[.agg #[.string ((rd_T53 l0_0 x6_4).f0), .slice A244_1 ((rd_T53 l0_0 x6_4).f1).length c244_1]] ?_
                with_reducible refine (marginaliaref11_rule.calls k5 ((rd_T53 l0_0 x6_4).f0) _ _ ((rd_T53 l0_0 x6_4).f1) true _ (Cs HR244_1) HC244_1.out A45.out).mono ?_
                rintro e w49 ⟨rfl, hb⟩
                refine ⟨_, rfl, ?_⟩
                replace BK237 := Bb BK237 hb
                replace HB := Bs hb
                (try clear hb)
                (try clear hb2)
                (try clear hk)
                (try clear hi)
                refine hK.out _ _ (and5 BK237 ⟨((HB.out.cell (World.block_lt_of_cell? w _ hw244_0)).trans hw244_0), ((HB.out.cell (World.block_lt_of_cell? w _ hw244_1)).trans hw244_1), ((HB.out.cell (World.block_lt_of_cell? w _ hw246_0)).trans hw246_0), ((HB.out.cell (World.block_lt_of_cell? w _ hw246_1)).trans hw246_1)⟩) (fun hHeld => ?_)
                clear hK K
                refine norm_ (a' := ?_) ?_ ?_
                rotate_left
                ·show Act.put _ (some 108) _ = _
                 simp only [Act.put, List.setIfInBounds_toArray, List.set_cons_zero, List.set_cons_succ, i64_w, i32_w]
                 rfl
                refine pureS 8 109 (bl 22 511) ?_
                refine pureS 9 110 (bl 22 1023) ?_
                refine pureS 10 111 (bl 22 2047) ?_
                refine pureS 12 113 (bl 22 6143) ?_
                refine pureS 14 115 (bl 22 22527) ?_
                refine take_ (i := 11) (N := some 112) (v := ?_) (a' := ?_) (bl 22 24575) rfl rfl (take_ofW HT_.out HW_.out (by kernel_rfl)) (fun _ _ _ h => h) (Or.inl ⟨by rfl, ?_⟩) hHeld ?_ ?_
                rotate_left
                ·rintro w' ⟨s0, s1, s2, s3, s4, s5, s6, s7, s8⟩
                 go_simp
                 with_reducible rfl
                rotate_left
                ·simp only [Act.put, List.setIfInBounds_toArray, List.set_cons_zero, List.set_cons_succ, i64_w, i32_w]
                 rfl
                refine take_ (i := 13) (N := some 114) (v := ?_) (a' := ?_) (bl 22 32767) rfl rfl (take_ofW HT_.out HW_.out (by kernel_rfl)) (fun _ _ _ h => h) (Or.inl ⟨by rfl, ?_⟩) hHeld ?_ ?_
                rotate_left
                ·rintro w' ⟨s0, s1, s2, s3, s4, s5, s6, s7, s8⟩
                 go_simp
                 with_reducible rfl
                rotate_left
                ·simp only [Act.put, List.setIfInBounds_toArray, List.set_cons_zero, List.set_cons_succ, i64_w, i32_w]
                 rfl
                refine pureS 15 116 (bl 22 65535) ?_
                refine pureS 16 117 (bl 22 131071) ?_
                refine take_ (i := 17) (N := some 118) (v := ?_) (a' := ?_) (bl 22 262143) rfl rfl (take_ofW HT_.out HW_.out (by kernel_rfl)) (fun _ _ _ h => h) (Or.inl ⟨by rfl, ?_⟩) hHeld ?_ ?_
                rotate_left
                ·rintro w' ⟨s0, s1, s2, s3, s4, s5, s6, s7, s8⟩
                 go_simp
                 with_reducible rfl
                rotate_left
                ·simp only [Act.put, List.setIfInBounds_toArray, List.set_cons_zero, List.set_cons_succ, i64_w, i32_w]
                 rfl
                refine one_ (i := 18) (N := some 119) (bl 22 524287) rfl rfl (one_of HT_.out (by kernel_rfl)) (by decide) (fun K hK => ?_)
                refine goG Tryd.func35 #[.slice A0_3 l0_3.length c0_3, .string ((rd_T53 l0_0 x6_4).f0)] ?_
                with_reducible refine (marginaliaref11_in.calls k5 _ _ l0_3 ((rd_T53 l0_0 x6_4).f0) t247 _ (Cs HR0_3) HC0_3.out A47.out).mono ?_
                rintro e w' ⟨rfl, ⟨nd, rfl⟩⟩
                refine ⟨_, rfl, ?_⟩
                refine hK.out _ _ (and5 BK237 ⟨((HB.out.cell (World.block_lt_of_cell? w _ hw244_0)).trans hw244_0), ((HB.out.cell (World.block_lt_of_cell? w _ hw244_1)).trans hw244_1), ((HB.out.cell (World.block_lt_of_cell? w _ hw246_0)).trans hw246_0), ((HB.out.cell (World.block_lt_of_cell? w _ hw246_1)).trans hw246_1)⟩) (fun hHeld => ?_)
                clear hK K
                refine norm_ (a' := ?_) ?_ ?_
                rotate_left
                ·show Act.put _ (some 119) _ = _
                 simp only [Act.put, List.setIfInBounds_toArray, List.set_cons_zero, List.set_cons_succ, i64_w, i32_w]
                 rfl
                refine pureS 19 120 (bl 22 1048575) ?_
                refine pureS 20 121 (bl 22 2097151) ?_
                refine pureS 21 5 (bl 22 4194303) ?_
                refine done_ (done_of HT_.out (by kernel_rfl)) ?_
                try go_wp2
                go_roundg k5
                case measure => have := HJ1.out; have := HJ10.out; have := HJ18.out; have := HK4.out; have := HK5.out; omega
                case rel => exact ⟨(!t247), (wrap64 (x6_4 + 1)), Rs, Rs, H', ⟨by have := HJ1.out; have := HJ10.out; have := HJ18.out; have := HK4.out; have := HK5.out; omega⟩, ⟨(Bk BK237)⟩, ⟨Bw⟩⟩
               replace c46 := Bool.eq_false_iff.mpr c46
               subst c46
               rw [if_neg (show ¬ (false = true) by decide)] at H
               have H' := Aside0.mk H
               clear H
               try go_wp2
               replace BK237 := Aside0.mk (blk_drew BK237.out)
               replace HB := Aside0.mk (below_drew1 HB.out)
               have p244 : 0 ≤ (x6_4 : Int) := of_decide_eq_true Dt
               have q244 : x6_4 < (l0_0.length : Int) := of_decide_eq_true Dt
               obtain ⟨ad244, A244_1, c244_1, e244, hx244_0, hx244_1, hl244_1, hi244_1⟩ := at_T53 HR0_0.out x6_4 p244 q244
               have hw244_1 := hx244_1
               have hw244_0 := hx244_0
               cases e244
               replace hx244_0 := Hx hx244_0
               replace hx244_1 := Hx hx244_1
               have HR244_1 := Aside0.mk hi244_1
               have HC244_1 := Aside0.mk hl244_1
               clear hi244_1 hl244_1
               replace p244 := eq_true p244
               replace q244 := eq_true q244
               refine start_ (n := 22) (S := fun w' => w'.cell? ⟨gb237, 0, none⟩ = some (.slice (some ad244) l0_0.length c0_0) ∧ w'.cell? ⟨gb237, 1, none⟩ = some (.slice A0_1 l0_1.length c0_1) ∧ w'.cell? ⟨gb237, 2, none⟩ = some (.slice A0_2 l0_2.length c0_2) ∧ w'.cell? ⟨gb237, 3, none⟩ = some (.slice A0_3 l0_3.length c0_3) ∧ w'.cell? ⟨gb237, 4, none⟩ = some (.int .i64 a0_4) ∧ w'.cell? (ad244.add ((x6_4).toNat * 2)) = some (.string ((rd_T53 l0_0 x6_4).f0)) ∧ w'.cell? ⟨(ad244.add ((x6_4).toNat * 2)).block, (ad244.add ((x6_4).toNat * 2)).off + 1, none⟩ = some (.slice A244_1 ((rd_T53 l0_0 x6_4).f1).length c244_1)) (ds := []) #[false, false, false, false, false, false, false, false, false, false, false, false, false, false, false, false, false, false, false, false, false, false] (by kernel_rfl) rfl rfl (and5 BK237 ⟨((HB.out.cell (World.block_lt_of_cell? w _ hw244_0)).trans hw244_0), ((HB.out.cell (World.block_lt_of_cell? w _ hw244_1)).trans hw244_1)⟩) (fun hHeld => ?_); refine with_tabW marginaliaref11_Check.tab16 marginaliaref11_Check.bits16 (fun HT_ HW_ => ?_)
               generalize wr.drew = w50 at BK237 HB HR244_1 hx244_0 hx244_1 hHeld ⊢
               refine pureS 0 101 (bl 22 1) ?_
               refine pureS 1 102 (bl 22 3) ?_
               refine pureS 2 103 (bl 22 7) ?_
               refine pureS 4 105 (bl 22 23) ?_
               refine take_ (i := 3) (N := some 104) (v := ?_) (a' := ?_) (bl 22 31) rfl rfl (take_ofW HT_.out HW_.out (by kernel_rfl)) (fun _ _ _ h => h) (Or.inl ⟨by rfl, ?_⟩) hHeld ?_ ?_
               rotate_left
               ·rintro w' ⟨s0, s1, s2, s3, s4, s5, s6⟩
                go_simp
                with_reducible rfl
               rotate_left
               ·simp only [Act.put, List.setIfInBounds_toArray, List.set_cons_zero, List.set_cons_succ, i64_w, i32_w]
                rfl
               refine pureS 5 106 (bl 22 63) ?_
               refine take_ (i := 6) (N := some 107) (v := ?_) (a' := ?_) (bl 22 127) rfl rfl (take_ofW HT_.out HW_.out (by kernel_rfl)) (fun _ _ _ h => h) (Or.inl ⟨by rfl, ?_⟩) hHeld ?_ ?_
               rotate_left
               ·rintro w' ⟨s0, s1, s2, s3, s4, s5, s6⟩
                go_simp
                with_reducible rfl
               rotate_left
               ·simp only [Act.put, List.setIfInBounds_toArray, List.set_cons_zero, List.set_cons_succ, i64_w, i32_w]
                rfl
               refine one_ (i := 7) (N := some 108) (bl 22 255) rfl rfl (one_of HT_.out (by kernel_rfl)) (by decide) (fun K hK => ?_)
               refine goG Tryd.func34 #[.agg #[.string ((rd_T53 l0_0 x6_4).f0), .slice A244_1 ((rd_T53 l0_0 x6_4).f1).length c244_1]] ?_
               with_reducible refine (marginaliaref11_rule.calls k5 ((rd_T53 l0_0 x6_4).f0) _ _ ((rd_T53 l0_0 x6_4).f1) false _ (Cs HR244_1) HC244_1.out A45.out).mono ?_
               rintro e w51 ⟨rfl, hb⟩
               refine ⟨_, rfl, ?_⟩
               replace BK237 := Bb BK237 hb
               replace HB := Bs hb
               (try clear hb)
               (try clear hb2)
               (try clear hk)
               (try clear hi)
               refine hK.out _ _ (and5 BK237 ⟨((HB.out.cell (World.block_lt_of_cell? w _ hw244_0)).trans hw244_0), ((HB.out.cell (World.block_lt_of_cell? w _ hw244_1)).trans hw244_1)⟩) (fun hHeld => ?_)
               clear hK K
               refine norm_ (a' := ?_) ?_ ?_
               rotate_left
               ·show Act.put _ (some 108) _ = _
                simp only [Act.put, List.setIfInBounds_toArray, List.set_cons_zero, List.set_cons_succ, i64_w, i32_w]
                rfl
               refine pureS 8 109 (bl 22 511) ?_
               refine pureS 9 110 (bl 22 1023) ?_
               refine pureU 10 111 (bl 22 2047) ?_
               refine pureU 11 112 (bl 22 4095) ?_
               refine pureU 12 113 (bl 22 8191) ?_
               refine pureU 13 114 (bl 22 16383) ?_
               refine pureU 14 115 (bl 22 32767) ?_
               refine pureU 15 116 (bl 22 65535) ?_
               refine pureU 16 117 (bl 22 131071) ?_
               refine pureU 17 118 (bl 22 262143) ?_
               refine pureU 18 119 (bl 22 524287) ?_
               refine pureU 19 120 (bl 22 1048575) ?_
               refine pureS 20 121 (bl 22 2097151) ?_
               refine pureS 21 5 (bl 22 4194303) ?_
               refine done_ (done_of HT_.out (by kernel_rfl)) ?_
               try go_wp2
               go_roundg k5
               case measure => have := HJ1.out; have := HJ10.out; have := HJ18.out; have := HK4.out; have := HK5.out; omega
               case rel => exact ⟨(false), (wrap64 (x6_4 + 1)), Rs, Rs, H', ⟨by have := HJ1.out; have := HJ10.out; have := HJ18.out; have := HK4.out; have := HK5.out; omega⟩, ⟨(Bk BK237)⟩, ⟨Bw⟩⟩
              rw [if_neg c44] at H
              exact absurd H (by simp)
             rw [if_neg c43] at H
             exact absurd H (by simp)
            replace c42 := Bool.eq_false_iff.mpr c42
            subst c42
            rw [if_neg (show ¬ (false = true) by decide)] at H
            have H' := Aside0.mk H
            clear H
            try go_wp2
            replace BK237 := Aside0.mk (blk_drew BK237.out)
            replace HB := Aside0.mk (below_drew1 HB.out)
            refine start_ (n := 22) (S := fun w' => True) (ds := []) #[false, false, false, false, false, false, false, false, false, false, false, false, false, false, false, false, false, false, false, false, false, false] (by kernel_rfl) rfl rfl trivial (fun hHeld => ?_); refine with_tabW marginaliaref11_Check.tab16 marginaliaref11_Check.bits16 (fun HT_ HW_ => ?_)
            generalize wr.drew = w52 at BK237 HB hHeld ⊢
            refine pureS 0 101 (bl 22 1) ?_
            refine pureS 1 102 (bl 22 3) ?_
            refine pureU 2 103 (bl 22 7) ?_
            refine pureU 3 104 (bl 22 15) ?_
            refine pureU 4 105 (bl 22 31) ?_
            refine pureU 5 106 (bl 22 63) ?_
            refine pureU 6 107 (bl 22 127) ?_
            refine pureU 7 108 (bl 22 255) ?_
            refine pureS 8 109 (bl 22 511) ?_
            refine pureS 9 110 (bl 22 1023) ?_
            refine pureU 10 111 (bl 22 2047) ?_
            refine pureU 11 112 (bl 22 4095) ?_
            refine pureU 12 113 (bl 22 8191) ?_
            refine pureU 13 114 (bl 22 16383) ?_
            refine pureU 14 115 (bl 22 32767) ?_
            refine pureU 15 116 (bl 22 65535) ?_
            refine pureU 16 117 (bl 22 131071) ?_
            refine pureU 17 118 (bl 22 262143) ?_
            refine pureU 18 119 (bl 22 524287) ?_
            refine pureU 19 120 (bl 22 1048575) ?_
            refine pureS 20 121 (bl 22 2097151) ?_
            refine pureS 21 5 (bl 22 4194303) ?_
            refine done_ (done_of HT_.out (by kernel_rfl)) ?_
            try go_wp2
            go_roundg k5
            case measure => have := HJ1.out; have := HJ10.out; have := HJ18.out; have := HK4.out; have := HK5.out; omega
            case rel => exact ⟨(false), (wrap64 (x6_4 + 1)), Rs, Rs, H', ⟨by have := HJ1.out; have := HJ10.out; have := HJ18.out; have := HK4.out; have := HK5.out; omega⟩, ⟨(Bk BK237)⟩, ⟨Bw⟩⟩
         rw [if_neg c32] at H
         have c32b0 : decide (x6_4 < (l0_0.length : Int)) = false := decide_eq_false c32
         clear c32
         by_cases c53 : x5_4 = true
         ·subst c53
          rw [if_pos rfl] at H
          replace H := Option.bind_eq_some_iff.mp H
          obtain ⟨t248, A540, H⟩ := H
          try dsimp -simprocs only at H
          have A54 := Aside0.mk A540
          clear A540
          by_cases c55 : t248 = true
          ·subst c55
           rw [if_pos rfl] at H
           obtain rfl := Option.some.inj H
           obtain ⟨hcz56_0, hcz56_1, hcz56_2, hcz56_3, hcz56_4, hfz56_0, hfz56_1, hfz56_2, hfz56_3, hfz56_4⟩ := cells5 BK237
           go_wp2_with (first | (go_at_call 35; (with_reducible refine (marginaliaref11_in.calls k4 _ _ l0_2 (⟨#[100, 97, 116, 97]⟩ : ByteArray) true _ (Cs HR0_2) HC0_2.out A54.out).mono ?_); rintro e w' ⟨rfl, ⟨nd, rfl⟩⟩))
           go_ret
           exact ⟨Re, Bw⟩
          replace c55 := Bool.eq_false_iff.mpr c55
          subst c55
          rw [if_neg (show ¬ (false = true) by decide)] at H
          replace H := Option.bind_eq_some_iff.mp H
          obtain ⟨t249, A570, H⟩ := H
          try dsimp -simprocs only at H
          have A57 := Aside0.mk A570
          clear A570
          by_cases c58 : t249 = true
          ·subst c58
           rw [if_pos rfl] at H
           obtain rfl := Option.some.inj H
           obtain ⟨hcz59_0, hcz59_1, hcz59_2, hcz59_3, hcz59_4, hfz59_0, hfz59_1, hfz59_2, hfz59_3, hfz59_4⟩ := cells5 BK237
           go_wp2_with (first | (go_at_call 35; (with_reducible refine (marginaliaref11_in.calls k4 _ _ l0_2 (⟨#[100, 97, 116, 97]⟩ : ByteArray) false _ (Cs HR0_2) HC0_2.out A54.out).mono ?_); rintro e w' ⟨rfl, ⟨nd, rfl⟩⟩) | (go_at_call 35; (with_reducible refine (marginaliaref11_in.calls k4 _ _ l0_2 (⟨#[106, 97, 118, 97, 115, 99, 114, 105, 112, 116]⟩ : ByteArray) true _ ?side1 HC0_2.out A57.out).mono ?_); (case side1 => repeat (first | exact (Kd.C_below HR0_2.out Bw) | (with_reducible refine Kd.C_alloc ?_ _) | (with_reducible refine Kd.C_drewN ?_ _) | (with_reducible refine Kd.C_drew ?_))); rintro e w' ⟨rfl, ⟨nd, rfl⟩⟩))
           go_ret
           exact ⟨Re, Bw⟩
          replace c58 := Bool.eq_false_iff.mpr c58
          subst c58
          rw [if_neg (show ¬ (false = true) by decide)] at H
          replace H := Option.bind_eq_some_iff.mp H
          obtain ⟨t250, A600, H⟩ := H
          replace H : (if t250 = true then (some 1) else (some 0)) = some r := H
          have A60 := Aside0.mk A600
          clear A600
          by_cases c61 : t250 = true
          ·subst c61
           rw [if_pos rfl] at H
           obtain rfl := Option.some.inj H
           obtain ⟨hcz62_0, hcz62_1, hcz62_2, hcz62_3, hcz62_4, hfz62_0, hfz62_1, hfz62_2, hfz62_3, hfz62_4⟩ := cells5 BK237
           go_wp2_with (first | (go_at_call 35; (with_reducible refine (marginaliaref11_in.calls k4 _ _ l0_2 (⟨#[100, 97, 116, 97]⟩ : ByteArray) false _ (Cs HR0_2) HC0_2.out A54.out).mono ?_); rintro e w' ⟨rfl, ⟨nd, rfl⟩⟩) | (go_at_call 35; (with_reducible refine (marginaliaref11_in.calls k4 _ _ l0_2 (⟨#[106, 97, 118, 97, 115, 99, 114, 105, 112, 116]⟩ : ByteArray) false _ ?side1 HC0_2.out A57.out).mono ?_); (case side1 => repeat (first | exact (Kd.C_below HR0_2.out Bw) | (with_reducible refine Kd.C_alloc ?_ _) | (with_reducible refine Kd.C_drewN ?_ _) | (with_reducible refine Kd.C_drew ?_))); rintro e w' ⟨rfl, ⟨nd, rfl⟩⟩) | (go_at_call 35; (with_reducible refine (marginaliaref11_in.calls k4 _ _ l0_2 (⟨#[118, 98, 115, 99, 114, 105, 112, 116]⟩ : ByteArray) true _ ?side1 HC0_2.out A60.out).mono ?_); (case side1 => repeat (first | exact (Kd.C_below HR0_2.out Bw) | (with_reducible refine Kd.C_alloc ?_ _) | (with_reducible refine Kd.C_drewN ?_ _) | (with_reducible refine Kd.C_drew ?_))); rintro e w' ⟨rfl, ⟨nd, rfl⟩⟩))
           go_ret
           exact ⟨Re, Bw⟩
          replace c61 := Bool.eq_false_iff.mpr c61
          subst c61
          rw [if_neg (show ¬ (false = true) by decide)] at H
          obtain rfl := Option.some.inj H
          obtain ⟨hcz63_0, hcz63_1, hcz63_2, hcz63_3, hcz63_4, hfz63_0, hfz63_1, hfz63_2, hfz63_3, hfz63_4⟩ := cells5 BK237
          go_wp2_with (first | (go_at_call 35; (with_reducible refine (marginaliaref11_in.calls k4 _ _ l0_2 (⟨#[100, 97, 116, 97]⟩ : ByteArray) false _ (Cs HR0_2) HC0_2.out A54.out).mono ?_); rintro e w' ⟨rfl, ⟨nd, rfl⟩⟩) | (go_at_call 35; (with_reducible refine (marginaliaref11_in.calls k4 _ _ l0_2 (⟨#[106, 97, 118, 97, 115, 99, 114, 105, 112, 116]⟩ : ByteArray) false _ ?side1 HC0_2.out A57.out).mono ?_); (case side1 => repeat (first | exact (Kd.C_below HR0_2.out Bw) | (with_reducible refine Kd.C_alloc ?_ _) | (with_reducible refine Kd.C_drewN ?_ _) | (with_reducible refine Kd.C_drew ?_))); rintro e w' ⟨rfl, ⟨nd, rfl⟩⟩) | (go_at_call 35; (with_reducible refine (marginaliaref11_in.calls k4 _ _ l0_2 (⟨#[118, 98, 115, 99, 114, 105, 112, 116]⟩ : ByteArray) false _ ?side1 HC0_2.out A60.out).mono ?_); (case side1 => repeat (first | exact (Kd.C_below HR0_2.out Bw) | (with_reducible refine Kd.C_alloc ?_ _) | (with_reducible refine Kd.C_drewN ?_ _) | (with_reducible refine Kd.C_drew ?_))); rintro e w' ⟨rfl, ⟨nd, rfl⟩⟩))
          go_ret
          exact ⟨Re, Bw⟩
         replace c53 := Bool.eq_false_iff.mpr c53
         subst c53
         rw [if_neg (show ¬ (false = true) by decide)] at H
         obtain rfl := Option.some.inj H
         obtain ⟨hcz64_0, hcz64_1, hcz64_2, hcz64_3, hcz64_4, hfz64_0, hfz64_1, hfz64_2, hfz64_3, hfz64_4⟩ := cells5 BK237
         go_wp2
         go_ret
         exact ⟨Re, Bw⟩

def marginaliaref11_find.l0 : Nat → ByteArray → Int → List (S53) → List ByteArray → List ByteArray → List ByteArray → Int → Option (Int)
  | 0, _, _, _, _, _, _, _ => none
  | k + 1, x1, x5, x363000, x363001, x363002, x363003, x363004 => if x5 < (x363000.length : Int) then (if 0 ≤ x5 then (if ((rd_T53 x363000 x5).f0).toList = x1.toList then (some x5) else (marginaliaref11_find.l0 k x1 (wrap64 (x5 + 1)) x363000 x363001 x363002 x363003 x363004)) else (none)) else (some (-1))
def marginaliaref11_find.f (k : Nat) (l0_0 : List (S53)) (l0_1 : List ByteArray) (l0_2 : List ByteArray) (l0_3 : List ByteArray) (a0_4 : Int) (a1 : ByteArray) : Option (Int) := (marginaliaref11_Check.f k l0_0 l0_1 l0_2 l0_3 a0_4).bind fun t363 => (if t363 = 0 then (marginaliaref11_find.l0 k a1 0 l0_0 l0_1 l0_2 l0_3 a0_4) else (some (-1)))
set_option maxHeartbeats 8000000 in
set_option maxRecDepth 100000 in
theorem marginaliaref11_find.calls (k : Nat) (A0_0 : Option Addr) (c0_0 : Nat) (l0_0 : List (S53)) (A0_1 : Option Addr) (c0_1 : Nat) (l0_1 : List ByteArray) (A0_2 : Option Addr) (c0_2 : Nat) (l0_2 : List ByteArray) (A0_3 : Option Addr) (c0_3 : Nat) (l0_3 : List ByteArray) (a0_4 : Int) (a1 : ByteArray) (r : Int) (w : World) (hr0_0 : Kd.C k53 w A0_0 l0_0.length l0_0) (hc0_0 : l0_0.length ≤ c0_0) (hr0_1 : Kd.C Kd.string w A0_1 l0_1.length l0_1) (hc0_1 : l0_1.length ≤ c0_1) (hr0_2 : Kd.C Kd.string w A0_2 l0_2.length l0_2) (hc0_2 : l0_2.length ≤ c0_2) (hr0_3 : Kd.C Kd.string w A0_3 l0_3.length l0_3) (hc0_3 : l0_3.length ≤ c0_3) (h : marginaliaref11_find.f k l0_0 l0_1 l0_2 l0_3 a0_4 a1 = some r) :
  Calls Tryd.prog 41 #[.agg #[.slice A0_0 l0_0.length c0_0, .slice A0_1 l0_1.length c0_1, .slice A0_2 l0_2.length c0_2, .slice A0_3 l0_3.length c0_3, .int .i64 a0_4], .string a1] w fun e w' => e = .returned (.int .i64 r) ∧ Below w.heap.size w w' := by
 have hu25 := Tryd.underlying25
 have HR0_0 := Aside0.mk hr0_0
 have HC0_0 := Aside0.mk hc0_0
 clear hr0_0 hc0_0
 have HR0_1 := Aside0.mk hr0_1
 have HC0_1 := Aside0.mk hc0_1
 clear hr0_1 hc0_1
 have HR0_2 := Aside0.mk hr0_2
 have HC0_2 := Aside0.mk hc0_2
 clear hr0_2 hc0_2
 have HR0_3 := Aside0.mk hr0_3
 have HC0_3 := Aside0.mk hc0_3
 clear hr0_3 hc0_3
 have HB := Aside0.mk (Below.refl w.heap.size w)
 have H := h
 clear h
 unfold marginaliaref11_find.f at H
 replace H := Option.bind_eq_some_iff.mp H
 obtain ⟨t363, A30, H⟩ := H
 try dsimp -simprocs only at H
 have A3 := Aside0.mk A30
 clear A30
 by_cases c4 : t363 = 0
 ·rw [if_pos c4] at H
  have c4b0 : (t363 == 0) = true := beq_iff_eq.mpr c4
  have c4b1 : (t363 != 0) = false := bne_eq_false_iff_eq.mpr c4
  clear c4
  have H' := Aside0.mk H
  clear H
  go_enter Tryd.func41, Tryd.ntmps41
  go_wp2_with (first | ((with_reducible refine gate_dst (N := 2) rfl ?_); refine box5 25 2 (cs := #[.slice A0_0 l0_0.length c0_0, .slice A0_1 l0_1.length c0_1, .slice A0_2 l0_2.length c0_2, .slice A0_3 l0_3.length c0_3, .int .i64 a0_4]) ?_; clear HB; intro gb362 w5 HB BK362 GE362; obtain ⟨hcz6_0, hcz6_1, hcz6_2, hcz6_3, hcz6_4, hfz6_0, hfz6_1, hfz6_2, hfz6_3, hfz6_4⟩ := cells5 BK362) | ((with_reducible refine gate_callee (f := 12) rfl ?_); refine goL (some 7) Tryd.func12 #[.agg #[.slice A0_0 l0_0.length c0_0, .slice A0_1 l0_1.length c0_1, .slice A0_2 l0_2.length c0_2, .slice A0_3 l0_3.length c0_3, .int .i64 a0_4]] ?_; (with_reducible refine (marginaliaref11_Check.calls k _ _ l0_0 _ _ l0_1 _ _ l0_2 _ _ l0_3 a0_4 t363 _ (Cs HR0_0) HC0_0.out (Cs HR0_1) HC0_1.out (Cs HR0_2) HC0_2.out (Cs HR0_3) HC0_3.out A3.out).mono ?_); rintro e w7 ⟨rfl, hb⟩; refine ⟨_, rfl, ?_⟩; replace BK362 := Bb BK362 hb; replace HB := Bs hb; clear hb))
  go_loopg [5] k (fun kq v5 w' => ∃ (x5_1 : Int), v5 = .int .i64 x5_1 ∧ Aside0 (marginaliaref11_find.l0 kq a1 x5_1 l0_0 l0_1 l0_2 l0_3 a0_4 = some r) ∧ Aside0 (kq ≤ k) ∧ Aside0 (w'.heap[gb362]? = some (.cells #[(.slice A0_0 l0_0.length c0_0), (.slice A0_1 l0_1.length c0_1), (.slice A0_2 l0_2.length c0_2), (.slice A0_3 l0_3.length c0_3), .int .i64 a0_4] 25 (0, 0))) ∧ Aside0 (Below w.heap.size w w'))
  case atStart => exact ⟨(0), Rs, H', ⟨Nat.le_refl _⟩, ⟨(Bk BK362)⟩, ⟨Bw⟩⟩
  case round =>
   clear H'
   try clear c1
   try clear p2
   try clear c4
   try clear c4b0
   try clear c4b1
   try clear hcz6_0 hcz6_1 hcz6_2 hcz6_3 hcz6_4 hfz6_0 hfz6_1 hfz6_2 hfz6_3 hfz6_4
   obtain ⟨x5_1, rfl, HA, HK1, BK362, HB⟩ := hrel
   cases gk with
   | zero => exact absurd HA.out (by simp [marginaliaref11_find.l0])
   | succ k1 =>
    have H := HA.out
    clear HA
    simp only [marginaliaref11_find.l0] at H
    by_cases c8 : x5_1 < (l0_0.length : Int)
    ·rw [if_pos c8] at H
     have c8b0 : decide (x5_1 < (l0_0.length : Int)) = true := decide_eq_true c8
     clear c8
     by_cases c9 : 0 ≤ x5_1
     ·rw [if_pos c9] at H
      have c9b0 : decide (0 ≤ x5_1) = true := decide_eq_true c9
      clear c9
      by_cases c10 : ((rd_T53 l0_0 x5_1).f0).toList = a1.toList
      ·rw [if_pos c10] at H
       have c10b0 : (((rd_T53 l0_0 x5_1).f0).toList == a1.toList) = true := beq_iff_eq.mpr c10
       have c10b1 : (((rd_T53 l0_0 x5_1).f0).toList != a1.toList) = false := bne_eq_false_iff_eq.mpr c10
       clear c10
       obtain rfl := Option.some.inj H
       obtain ⟨hcz11_0, hcz11_1, hcz11_2, hcz11_3, hcz11_4, hfz11_0, hfz11_1, hfz11_2, hfz11_3, hfz11_4⟩ := cells5 BK362
       have p364 : 0 ≤ (x5_1 : Int) := of_decide_eq_true Dt
       have q364 : x5_1 < (l0_0.length : Int) := of_decide_eq_true Dt
       obtain ⟨ad364, A364_1, c364_1, e364, hx364_0, hx364_1, hl364_1, hi364_1⟩ := at_T53 HR0_0.out x5_1 p364 q364
       cases e364
       replace hx364_0 := Hx hx364_0
       replace hx364_1 := Hx hx364_1
       have HR364_1 := Aside0.mk hi364_1
       have HC364_1 := Aside0.mk hl364_1
       clear hi364_1 hl364_1
       replace p364 := eq_true p364
       replace q364 := eq_true q364
       go_wp2
       go_ret
       exact ⟨Re, Bw⟩
      rw [if_neg c10] at H
      have c10b0 : (((rd_T53 l0_0 x5_1).f0).toList == a1.toList) = false := beq_eq_false_iff_ne.mpr c10
      have c10b1 : (((rd_T53 l0_0 x5_1).f0).toList != a1.toList) = true := bne_iff_ne.mpr c10
      have H' := Aside0.mk H
      clear H
      obtain ⟨hcz12_0, hcz12_1, hcz12_2, hcz12_3, hcz12_4, hfz12_0, hfz12_1, hfz12_2, hfz12_3, hfz12_4⟩ := cells5 BK362
      have p364 : 0 ≤ (x5_1 : Int) := of_decide_eq_true Dt
      have q364 : x5_1 < (l0_0.length : Int) := of_decide_eq_true Dt
      obtain ⟨ad364, A364_1, c364_1, e364, hx364_0, hx364_1, hl364_1, hi364_1⟩ := at_T53 HR0_0.out x5_1 p364 q364
      cases e364
      replace hx364_0 := Hx hx364_0
      replace hx364_1 := Hx hx364_1
      have HR364_1 := Aside0.mk hi364_1
      have HC364_1 := Aside0.mk hl364_1
      clear hi364_1 hl364_1
      replace p364 := eq_true p364
      replace q364 := eq_true q364
      go_wp2
      go_roundg k1
      case measure => have := HK1.out; omega
      case rel => exact ⟨(wrap64 (x5_1 + 1)), Rs, H', ⟨by have := HK1.out; omega⟩, ⟨(Bk BK362)⟩, ⟨Bw⟩⟩
     rw [if_neg c9] at H
     exact absurd H (by simp)
    rw [if_neg c8] at H
    have c8b0 : decide (x5_1 < (l0_0.length : Int)) = false := decide_eq_false c8
    clear c8
    obtain rfl := Option.some.inj H
    obtain ⟨hcz13_0, hcz13_1, hcz13_2, hcz13_3, hcz13_4, hfz13_0, hfz13_1, hfz13_2, hfz13_3, hfz13_4⟩ := cells5 BK362
    go_wp2
    go_ret
    exact ⟨Re, Bw⟩
 rw [if_neg c4] at H
 have c4b0 : (t363 == 0) = false := beq_eq_false_iff_ne.mpr c4
 have c4b1 : (t363 != 0) = true := bne_iff_ne.mpr c4
 obtain rfl := Option.some.inj H
 go_enter Tryd.func41, Tryd.ntmps41
 go_wp2_with (first | ((with_reducible refine gate_dst (N := 2) rfl ?_); refine box5 25 2 (cs := #[.slice A0_0 l0_0.length c0_0, .slice A0_1 l0_1.length c0_1, .slice A0_2 l0_2.length c0_2, .slice A0_3 l0_3.length c0_3, .int .i64 a0_4]) ?_; clear HB; intro gb362 w14 HB BK362 GE362; obtain ⟨hcz15_0, hcz15_1, hcz15_2, hcz15_3, hcz15_4, hfz15_0, hfz15_1, hfz15_2, hfz15_3, hfz15_4⟩ := cells5 BK362) | ((with_reducible refine gate_callee (f := 12) rfl ?_); refine goL (some 7) Tryd.func12 #[.agg #[.slice A0_0 l0_0.length c0_0, .slice A0_1 l0_1.length c0_1, .slice A0_2 l0_2.length c0_2, .slice A0_3 l0_3.length c0_3, .int .i64 a0_4]] ?_; (with_reducible refine (marginaliaref11_Check.calls k _ _ l0_0 _ _ l0_1 _ _ l0_2 _ _ l0_3 a0_4 t363 _ (Cs HR0_0) HC0_0.out (Cs HR0_1) HC0_1.out (Cs HR0_2) HC0_2.out (Cs HR0_3) HC0_3.out A3.out).mono ?_); rintro e w16 ⟨rfl, hb⟩; refine ⟨_, rfl, ?_⟩; replace BK362 := Bb BK362 hb; replace HB := Bs hb; clear hb))
 go_ret
 exact ⟨Re, Bw⟩

def marginaliaref11_Element.f (k : Nat) (l0_0 : List (S53)) (l0_1 : List ByteArray) (l0_2 : List ByteArray) (l0_3 : List ByteArray) (a0_4 : Int) (a1 : ByteArray) : Option (Bool) := (marginaliaref11_find.f k l0_0 l0_1 l0_2 l0_3 a0_4 a1).bind fun t366 => (some (decide (t366 ≥ 0)))
set_option maxHeartbeats 8000000 in
set_option maxRecDepth 100000 in
theorem marginaliaref11_Element.calls (k : Nat) (A0_0 : Option Addr) (c0_0 : Nat) (l0_0 : List (S53)) (A0_1 : Option Addr) (c0_1 : Nat) (l0_1 : List ByteArray) (A0_2 : Option Addr) (c0_2 : Nat) (l0_2 : List ByteArray) (A0_3 : Option Addr) (c0_3 : Nat) (l0_3 : List ByteArray) (a0_4 : Int) (a1 : ByteArray) (r : Bool) (w : World) (hr0_0 : Kd.C k53 w A0_0 l0_0.length l0_0) (hc0_0 : l0_0.length ≤ c0_0) (hr0_1 : Kd.C Kd.string w A0_1 l0_1.length l0_1) (hc0_1 : l0_1.length ≤ c0_1) (hr0_2 : Kd.C Kd.string w A0_2 l0_2.length l0_2) (hc0_2 : l0_2.length ≤ c0_2) (hr0_3 : Kd.C Kd.string w A0_3 l0_3.length l0_3) (hc0_3 : l0_3.length ≤ c0_3) (h : marginaliaref11_Element.f k l0_0 l0_1 l0_2 l0_3 a0_4 a1 = some r) :
    Calls Tryd.prog 17 #[.agg #[.slice A0_0 l0_0.length c0_0, .slice A0_1 l0_1.length c0_1, .slice A0_2 l0_2.length c0_2, .slice A0_3 l0_3.length c0_3, .int .i64 a0_4], .string a1] w fun e w' => e = .returned (.bool r) ∧ Below w.heap.size w w' := by
  have hu25 := Tryd.underlying25
  have HR0_0 := Aside0.mk hr0_0
  have HC0_0 := Aside0.mk hc0_0
  clear hr0_0 hc0_0
  have HR0_1 := Aside0.mk hr0_1
  have HC0_1 := Aside0.mk hc0_1
  clear hr0_1 hc0_1
  have HR0_2 := Aside0.mk hr0_2
  have HC0_2 := Aside0.mk hc0_2
  clear hr0_2 hc0_2
  have HR0_3 := Aside0.mk hr0_3
  have HC0_3 := Aside0.mk hc0_3
  clear hr0_3 hc0_3
  have HB := Aside0.mk (Below.refl w.heap.size w)
  have H : ((marginaliaref11_find.f k l0_0 l0_1 l0_2 l0_3 a0_4 a1).bind fun t366 => (some (decide (t366 ≥ 0)))) = some r := h
  clear h
  replace H := Option.bind_eq_some_iff.mp H
  obtain ⟨t366, A30, H⟩ := H
  replace H : (some (decide (t366 ≥ 0))) = some r := H
  have A3 := Aside0.mk A30
  clear A30
  obtain rfl := Option.some.inj H
  go_enter Tryd.func17, Tryd.ntmps17
  go_wp2_with (first | ((with_reducible refine gate_dst (N := 2) rfl ?_); refine box5 25 2 (cs := #[.slice A0_0 l0_0.length c0_0, .slice A0_1 l0_1.length c0_1, .slice A0_2 l0_2.length c0_2, .slice A0_3 l0_3.length c0_3, .int .i64 a0_4]) ?_; clear HB; intro gb365 w4 HB BK365 GE365; have GW365 := GE365; obtain ⟨hcz5_0, hcz5_1, hcz5_2, hcz5_3, hcz5_4, hfz5_0, hfz5_1, hfz5_2, hfz5_3, hfz5_4⟩ := cells5 BK365) | ((with_reducible refine gate_callee (f := 41) rfl ?_); refine goL (some 7) Tryd.func41 #[.agg #[.slice A0_0 l0_0.length c0_0, .slice A0_1 l0_1.length c0_1, .slice A0_2 l0_2.length c0_2, .slice A0_3 l0_3.length c0_3, .int .i64 a0_4], .string a1] ?_; (with_reducible refine (marginaliaref11_find.calls k _ _ l0_0 _ _ l0_1 _ _ l0_2 _ _ l0_3 a0_4 a1 t366 _ (Cs HR0_0) HC0_0.out (Cs HR0_1) HC0_1.out (Cs HR0_2) HC0_2.out (Cs HR0_3) HC0_3.out A3.out).mono ?_); rintro e w6 ⟨rfl, hb⟩; refine ⟨_, rfl, ?_⟩; replace BK365 := Aside0.mk (blk_below (Bk BK365) hb); replace HB := Aside0.mk (below_step Bw hb); (try clear hb); (try clear hb2); (try clear hk); (try clear hi)))
  go_ret
  exact ⟨Re, Bw⟩

mutual
def marginaliaref10_tidy.j1 : Nat → ByteArray → Option (ByteArray)
  | 0, _ => none
  | k + 1, x0 => marginaliaref10_tidy.l1 k x0 (⟨#[]⟩ : ByteArray) 0
def marginaliaref10_tidy.l1 : Nat → ByteArray → ByteArray → Int → Option (ByteArray)
  | 0, _, _, _ => none
  | k + 1, x0, x3, x4 => if x4 < (x0.size : Int) then (if 0 ≤ x4 then (if (bt x0 x4) = 9 then (marginaliaref10_tidy.l1 k x0 x3 (wrap64 (x4 + 1))) else (if (bt x0 x4) = 10 then (marginaliaref10_tidy.l1 k x0 x3 (wrap64 (x4 + 1))) else (if (bt x0 x4) = 13 then (marginaliaref10_tidy.l1 k x0 x3 (wrap64 (x4 + 1))) else (if x4 ≤ (wrap64 (x4 + 1)) then (if (wrap64 (x4 + 1)) ≤ (x0.size : Int) then (if x3.size + (x0.extract (x4 : Int).toNat ((wrap64 (x4 + 1)) : Int).toNat).size ≤ 9223372036854775807 then (marginaliaref10_tidy.l1 k x0 (x3 ++ (x0.extract (x4 : Int).toNat ((wrap64 (x4 + 1)) : Int).toNat)) (wrap64 (x4 + 1))) else (none)) else (none)) else (none))))) else (none)) else (some x3)
def marginaliaref10_tidy.l0 : Nat → ByteArray → Option (ByteArray)
  | 0, _ => none
  | k + 1, x0 => if x0.toList = ([] : List UInt8) then (marginaliaref10_tidy.j1 k x0) else (if 0 < (x0.size : Int) then (if (bt x0 0) ≤ 32 then (if 1 ≤ (x0.size : Int) then (marginaliaref10_tidy.l0 k (x0.extract 1 x0.size)) else (none)) else (marginaliaref10_tidy.j1 k x0)) else (none))
end
def marginaliaref10_tidy.f (k : Nat) (a0 : ByteArray) : Option (ByteArray) := marginaliaref10_tidy.l0 k a0
set_option maxHeartbeats 8000000 in
set_option maxRecDepth 100000 in
theorem marginaliaref10_tidy.calls (k : Nat) (a0 : ByteArray) (r : ByteArray) (w : World) (h : marginaliaref10_tidy.f k a0 = some r) :
  Calls Tryd.prog 94 #[.string a0] w fun e w' => e = .returned (.string r) ∧ Drawn0 w w' := by
 have H : (marginaliaref10_tidy.l0 k a0) = some r := h
 clear h
 have HC2 := Aside0.mk H
 clear H
 go_enter Tryd.func94, Tryd.ntmps94
 go_upto_block 0 with (fail)
 go_cut [0] (fun v0 wc => ∃ (kq : Nat) (x0_1 : ByteArray), v0 = .string x0_1 ∧ Aside0 (marginaliaref10_tidy.j1 kq x0_1 = some r) ∧ Aside0 (kq ≤ k) ∧ Drawn0 w wc)
 case first =>
  have H := HC2.out
  clear HC2
  have H' := Aside0.mk H
  clear H
  go_wp2
  go_loopg [0] k (fun kq v0 w' => ∃ (x0_1 : ByteArray), v0 = .string x0_1 ∧ Aside0 (marginaliaref10_tidy.l0 kq x0_1 = some r) ∧ Aside0 (kq ≤ k) ∧ Drawn0 w w')
  case atStart => exact ⟨(a0), Rs, H', ⟨Nat.le_refl _⟩, by repeat (first | exact Drawn0.refl _ | apply Drawn0.step)⟩
  case round =>
   clear H'
   try clear p2
   obtain ⟨x0_1, rfl, HA, HK1, ⟨m1, rfl⟩⟩ := hrel
   cases gk with
   | zero => exact absurd HA.out (by simp [marginaliaref10_tidy.l0])
   | succ k1 =>
    have H := HA.out
    clear HA
    simp only [marginaliaref10_tidy.l0] at H
    by_cases c3 : x0_1.toList = ([] : List UInt8)
    ·rw [if_pos c3] at H
     have c3b0 : (x0_1.toList == ([] : List UInt8)) = true := beq_iff_eq.mpr c3
     have c3b1 : (x0_1.toList != ([] : List UInt8)) = false := bne_eq_false_iff_eq.mpr c3
     clear c3
     (first | rw [c3b0] | (simp only [i64_w, i32_w]; rw [c3b0]) | skip)
     have H' := Aside0.mk H
     clear H
     go_wp2
     go_meet
     case rel => exact ⟨_, (x0_1), Rs, H', ⟨by have := HK1.out; first | omega | exact Nat.le_refl _⟩, by repeat (first | exact Drawn0.refl _ | apply Drawn0.step)⟩
    rw [if_neg c3] at H
    have c3b0 : (x0_1.toList == ([] : List UInt8)) = false := beq_eq_false_iff_ne.mpr c3
    have c3b1 : (x0_1.toList != ([] : List UInt8)) = true := bne_iff_ne.mpr c3
    (first | rw [c3b0] | (simp only [i64_w, i32_w]; rw [c3b0]) | skip)
    by_cases c4 : 0 < (x0_1.size : Int)
    ·rw [if_pos c4] at H
     have c4b0 : decide (0 < (x0_1.size : Int)) = true := decide_eq_true c4
     have c4b1 : decide (0 < x0_1.size) = true := decide_eq_true (by omega)
     clear c4
     by_cases c6 : (bt x0_1 0) ≤ 32
     ·rw [if_pos c6] at H
      have c6b0 : decide ((bt x0_1 0) ≤ 32) = true := decide_eq_true c6
      clear c6
      by_cases c7 : 1 ≤ (x0_1.size : Int)
      ·rw [if_pos c7] at H
       have c7b0 := eq_true c7
       have c7b1 : decide (1 ≤ (x0_1.size : Int)) = true := decide_eq_true c7
       clear c7
       have H' := Aside0.mk H
       clear H
       have p5 : 0 ≤ (0 : Int) := (by omega)
       have q5 : 0 < x0_1.size := (by have : (0 : Int) < (x0_1.size : Int) := of_decide_eq_true Dt; omega)
       have hx5 : ∀ h : 0 < x0_1.size, ((x0_1[0]'h).toNat : Int) = bt x0_1 0 := bt_at x0_1 0
       clear p5
       have qi5 : (0 < (x0_1.size : Int)) = True := eq_true (of_decide_eq_true Dt)
       replace q5 := eq_true q5
       go_wp2
       go_roundg k1
       case measure => have := HK1.out; omega
       case rel => exact ⟨(x0_1.extract 1 x0_1.size), Rs, H', ⟨by have := HK1.out; omega⟩, by repeat (first | exact Drawn0.refl _ | apply Drawn0.step)⟩
      rw [if_neg c7] at H
      exact absurd H (by simp)
     rw [if_neg c6] at H
     have c6b0 : decide ((bt x0_1 0) ≤ 32) = false := decide_eq_false c6
     clear c6
     have H' := Aside0.mk H
     clear H
     have p5 : 0 ≤ (0 : Int) := (by omega)
     have q5 : 0 < x0_1.size := (by have : (0 : Int) < (x0_1.size : Int) := of_decide_eq_true Dt; omega)
     have hx5 : ∀ h : 0 < x0_1.size, ((x0_1[0]'h).toNat : Int) = bt x0_1 0 := bt_at x0_1 0
     clear p5
     have qi5 : (0 < (x0_1.size : Int)) = True := eq_true (of_decide_eq_true Dt)
     replace q5 := eq_true q5
     go_wp2
     go_meet
     case rel => exact ⟨_, (x0_1), Rs, H', ⟨by have := HK1.out; first | omega | exact Nat.le_refl _⟩, by repeat (first | exact Drawn0.refl _ | apply Drawn0.step)⟩
    rw [if_neg c4] at H
    exact absurd H (by simp)
 case rest =>
  clear HC2
  try clear p2
  try clear c3
  try clear c3b0
  try clear c3b1
  try clear c4
  try clear c4b0
  try clear c4b1
  try clear p5
  try clear q5
  try clear hx5
  try clear qi5
  try clear c6
  try clear c6b0
  try clear c7
  try clear c7b0
  try clear c7b1
  try clear p2
  try clear p5
  try clear q5
  obtain ⟨kq, x0_1, rfl, HA, HJ1, ⟨mc1, rfl⟩⟩ := hcut
  cases kq with
  | zero => exact absurd HA.out (by simp [marginaliaref10_tidy.j1])
  | succ kj1 =>
   have H := HA.out
   clear HA
   simp only [marginaliaref10_tidy.j1] at H
   have H' := Aside0.mk H
   clear H
   go_wp2
   go_loopg [3, 4] kj1 (fun kq v3 v4 w' => ∃ (x3_2 : ByteArray) (x4_2 : Int), v3 = .string x3_2 ∧ v4 = .int .i64 x4_2 ∧ Aside0 (marginaliaref10_tidy.l1 kq x0_1 x3_2 x4_2 = some r) ∧ Aside0 (kq ≤ kj1) ∧ Drawn0 w w')
   case atStart => exact ⟨((⟨#[]⟩ : ByteArray)), (0), Rs, Rs, H', ⟨Nat.le_refl _⟩, by repeat (first | exact Drawn0.refl _ | apply Drawn0.step)⟩
   case round =>
    clear H'
    try clear c1
    try clear p2
    try clear c3
    try clear c3b0
    try clear c3b1
    try clear c4
    try clear c4b0
    try clear c4b1
    try clear p5
    try clear q5
    try clear hx5
    try clear qi5
    try clear c6
    try clear c6b0
    try clear c7
    try clear c7b0
    try clear c7b1
    try clear p2
    try clear p5
    try clear q5
    obtain ⟨x3_2, x4_2, rfl, rfl, HA, HK2, ⟨m2, rfl⟩⟩ := hrel
    cases gk with
    | zero => exact absurd HA.out (by simp [marginaliaref10_tidy.l1])
    | succ k2 =>
     have H := HA.out
     clear HA
     simp only [marginaliaref10_tidy.l1] at H
     by_cases c8 : x4_2 < (x0_1.size : Int)
     ·rw [if_pos c8] at H
      have c8b0 : decide (x4_2 < (x0_1.size : Int)) = true := decide_eq_true c8
      clear c8
      by_cases c9 : 0 ≤ x4_2
      ·rw [if_pos c9] at H
       have c9b0 : decide (0 ≤ x4_2) = true := decide_eq_true c9
       clear c9
       by_cases c11 : (bt x0_1 x4_2) = 9
       ·rw [if_pos c11] at H
        have c11b0 : ((bt x0_1 x4_2) == 9) = true := beq_iff_eq.mpr c11
        have c11b1 : ((bt x0_1 x4_2) != 9) = false := bne_eq_false_iff_eq.mpr c11
        clear c11
        have H' := Aside0.mk H
        clear H
        have p10 : 0 ≤ (x4_2 : Int) := of_decide_eq_true Dt
        have q10 : x4_2 < (x0_1.size : Int) := of_decide_eq_true Dt
        have hx10 := bt_at x0_1 x4_2
        replace p10 := eq_true p10
        replace q10 := eq_true q10
        go_wp2
        go_roundg k2
        case measure => have := HJ1.out; have := HK2.out; omega
        case rel => exact ⟨(x3_2), (wrap64 (x4_2 + 1)), Rs, Rs, H', ⟨by have := HJ1.out; have := HK2.out; omega⟩, by repeat (first | exact Drawn0.refl _ | apply Drawn0.step)⟩
       rw [if_neg c11] at H
       have c11b0 : ((bt x0_1 x4_2) == 9) = false := beq_eq_false_iff_ne.mpr c11
       have c11b1 : ((bt x0_1 x4_2) != 9) = true := bne_iff_ne.mpr c11
       by_cases c13 : (bt x0_1 x4_2) = 10
       ·rw [if_pos c13] at H
        have c13b0 : ((bt x0_1 x4_2) == 10) = true := beq_iff_eq.mpr c13
        have c13b1 : ((bt x0_1 x4_2) != 10) = false := bne_eq_false_iff_eq.mpr c13
        clear c13
        have H' := Aside0.mk H
        clear H
        have p10 : 0 ≤ (x4_2 : Int) := of_decide_eq_true Dt
        have q10 : x4_2 < (x0_1.size : Int) := of_decide_eq_true Dt
        have hx10 := bt_at x0_1 x4_2
        replace p10 := eq_true p10
        replace q10 := eq_true q10
        have p12 : 0 ≤ (x4_2 : Int) := of_decide_eq_true Dt
        have q12 : x4_2 < (x0_1.size : Int) := of_decide_eq_true Dt
        have hx12 := bt_at x0_1 x4_2
        replace p12 := eq_true p12
        replace q12 := eq_true q12
        go_wp2
        go_roundg k2
        case measure => have := HJ1.out; have := HK2.out; omega
        case rel => exact ⟨(x3_2), (wrap64 (x4_2 + 1)), Rs, Rs, H', ⟨by have := HJ1.out; have := HK2.out; omega⟩, by repeat (first | exact Drawn0.refl _ | apply Drawn0.step)⟩
       rw [if_neg c13] at H
       have c13b0 : ((bt x0_1 x4_2) == 10) = false := beq_eq_false_iff_ne.mpr c13
       have c13b1 : ((bt x0_1 x4_2) != 10) = true := bne_iff_ne.mpr c13
       by_cases c15 : (bt x0_1 x4_2) = 13
       ·rw [if_pos c15] at H
        have c15b0 : ((bt x0_1 x4_2) == 13) = true := beq_iff_eq.mpr c15
        have c15b1 : ((bt x0_1 x4_2) != 13) = false := bne_eq_false_iff_eq.mpr c15
        clear c15
        have H' := Aside0.mk H
        clear H
        have p10 : 0 ≤ (x4_2 : Int) := of_decide_eq_true Dt
        have q10 : x4_2 < (x0_1.size : Int) := of_decide_eq_true Dt
        have hx10 := bt_at x0_1 x4_2
        replace p10 := eq_true p10
        replace q10 := eq_true q10
        have p12 : 0 ≤ (x4_2 : Int) := of_decide_eq_true Dt
        have q12 : x4_2 < (x0_1.size : Int) := of_decide_eq_true Dt
        have hx12 := bt_at x0_1 x4_2
        replace p12 := eq_true p12
        replace q12 := eq_true q12
        have p14 : 0 ≤ (x4_2 : Int) := of_decide_eq_true Dt
        have q14 : x4_2 < (x0_1.size : Int) := of_decide_eq_true Dt
        have hx14 := bt_at x0_1 x4_2
        replace p14 := eq_true p14
        replace q14 := eq_true q14
        go_wp2
        go_roundg k2
        case measure => have := HJ1.out; have := HK2.out; omega
        case rel => exact ⟨(x3_2), (wrap64 (x4_2 + 1)), Rs, Rs, H', ⟨by have := HJ1.out; have := HK2.out; omega⟩, by repeat (first | exact Drawn0.refl _ | apply Drawn0.step)⟩
       rw [if_neg c15] at H
       have c15b0 : ((bt x0_1 x4_2) == 13) = false := beq_eq_false_iff_ne.mpr c15
       have c15b1 : ((bt x0_1 x4_2) != 13) = true := bne_iff_ne.mpr c15
       have c16b0 := eq_true (of_decide_eq_true Dt : 0 ≤ x4_2)
       by_cases c17 : x4_2 ≤ (wrap64 (x4_2 + 1))
       ·rw [if_pos c17] at H
        have c17b0 := eq_true c17
        have c17b1 : decide (x4_2 ≤ (wrap64 (x4_2 + 1))) = true := decide_eq_true c17
        by_cases c18 : (wrap64 (x4_2 + 1)) ≤ (x0_1.size : Int)
        ·rw [if_pos c18] at H
         have c18b0 := eq_true c18
         have c18b1 : decide ((wrap64 (x4_2 + 1)) ≤ (x0_1.size : Int)) = true := decide_eq_true c18
         by_cases c19 : x3_2.size + (x0_1.extract (x4_2 : Int).toNat ((wrap64 (x4_2 + 1)) : Int).toNat).size ≤ 9223372036854775807
         ·rw [if_pos c19] at H
          have c19b0 := eq_true c19
          have c19b1 : decide (x3_2.size + (x0_1.extract (x4_2 : Int).toNat ((wrap64 (x4_2 + 1)) : Int).toNat).size ≤ 9223372036854775807) = true := decide_eq_true c19
          try have c19b2 : (9223372036854775807 < x3_2.size + (x0_1.extract (x4_2 : Int).toNat ((wrap64 (x4_2 + 1)) : Int).toNat).size) = False := eq_false (Nat.not_lt.2 c19)
          have H' := Aside0.mk H
          clear H
          have p10 : 0 ≤ (x4_2 : Int) := of_decide_eq_true Dt
          have q10 : x4_2 < (x0_1.size : Int) := of_decide_eq_true Dt
          have hx10 := bt_at x0_1 x4_2
          replace p10 := eq_true p10
          replace q10 := eq_true q10
          have p12 : 0 ≤ (x4_2 : Int) := of_decide_eq_true Dt
          have q12 : x4_2 < (x0_1.size : Int) := of_decide_eq_true Dt
          have hx12 := bt_at x0_1 x4_2
          replace p12 := eq_true p12
          replace q12 := eq_true q12
          have p14 : 0 ≤ (x4_2 : Int) := of_decide_eq_true Dt
          have q14 : x4_2 < (x0_1.size : Int) := of_decide_eq_true Dt
          have hx14 := bt_at x0_1 x4_2
          replace p14 := eq_true p14
          replace q14 := eq_true q14
          go_wp2
          go_roundg k2
          case measure => have := HJ1.out; have := HK2.out; omega
          case rel => exact ⟨(x3_2 ++ (x0_1.extract (x4_2 : Int).toNat ((wrap64 (x4_2 + 1)) : Int).toNat)), (wrap64 (x4_2 + 1)), Rs, Rs, H', ⟨by have := HJ1.out; have := HK2.out; omega⟩, by repeat (first | exact Drawn0.refl _ | apply Drawn0.step)⟩
         rw [if_neg c19] at H
         exact absurd H (by simp)
        rw [if_neg c18] at H
        exact absurd H (by simp)
       rw [if_neg c17] at H
       exact absurd H (by simp)
      rw [if_neg c9] at H
      exact absurd H (by simp)
     rw [if_neg c8] at H
     have c8b0 : decide (x4_2 < (x0_1.size : Int)) = false := decide_eq_false c8
     clear c8
     obtain rfl := Option.some.inj H
     go_wp2
     go_ret
     exact ⟨Rs, Dw⟩

def marginaliaref02_Letter.f (a0 : Int) : Option (Bool) := if a0 ≥ 65 then (if a0 ≤ 90 then (some true) else (if a0 ≥ 97 then (some (decide (a0 ≤ 122))) else (some false))) else (if a0 ≥ 97 then (some (decide (a0 ≤ 122))) else (some false))
set_option maxHeartbeats 8000000 in
set_option maxRecDepth 100000 in
theorem marginaliaref02_Letter.calls (a0 : Int) (r : Bool) (w : World) (h : marginaliaref02_Letter.f a0 = some r) :
    Calls Tryd.prog 95 #[.int .u8 a0] w fun e w' => e = .returned (.bool r) ∧ Drawn0 w w' := by
  have H : (if a0 ≥ 65 then (if a0 ≤ 90 then (some true) else (if a0 ≥ 97 then (some (decide (a0 ≤ 122))) else (some false))) else (if a0 ≥ 97 then (some (decide (a0 ≤ 122))) else (some false))) = some r := h
  clear h
  by_cases c2 : a0 ≥ 65
  · rw [if_pos c2] at H
    have c2b0 : decide (65 ≤ a0) = true := decide_eq_true c2
    clear c2
    by_cases c3 : a0 ≤ 90
    · rw [if_pos c3] at H
      have c3b0 : decide (a0 ≤ 90) = true := decide_eq_true c3
      clear c3
      obtain rfl := Option.some.inj H
      go_enter Tryd.func95, Tryd.ntmps95
      go_wp2
      go_ret
      exact ⟨Rs, Dw⟩
    · rw [if_neg c3] at H
      have c3b0 : decide (a0 ≤ 90) = false := decide_eq_false c3
      clear c3
      by_cases c4 : a0 ≥ 97
      · rw [if_pos c4] at H
        have c4b0 : decide (97 ≤ a0) = true := decide_eq_true c4
        clear c4
        obtain rfl := Option.some.inj H
        go_enter Tryd.func95, Tryd.ntmps95
        go_wp2
        go_ret
        exact ⟨Rs, Dw⟩
      · rw [if_neg c4] at H
        have c4b0 : decide (97 ≤ a0) = false := decide_eq_false c4
        clear c4
        obtain rfl := Option.some.inj H
        go_enter Tryd.func95, Tryd.ntmps95
        go_wp2
        go_ret
        exact ⟨Rs, Dw⟩
  · rw [if_neg c2] at H
    have c2b0 : decide (65 ≤ a0) = false := decide_eq_false c2
    clear c2
    by_cases c5 : a0 ≥ 97
    · rw [if_pos c5] at H
      have c5b0 : decide (97 ≤ a0) = true := decide_eq_true c5
      clear c5
      obtain rfl := Option.some.inj H
      go_enter Tryd.func95, Tryd.ntmps95
      go_wp2
      go_ret
      exact ⟨Rs, Dw⟩
    · rw [if_neg c5] at H
      have c5b0 : decide (97 ≤ a0) = false := decide_eq_false c5
      clear c5
      obtain rfl := Option.some.inj H
      go_enter Tryd.func95, Tryd.ntmps95
      go_wp2
      go_ret
      exact ⟨Rs, Dw⟩

def marginaliaref02_Lower.l0 : Nat → ByteArray → List Int → Int → Option (ByteArray)
  | 0, _, _, _ => none
  | k + 1, x0, x3, x4 => if x4 < (x0.size : Int) then (if 0 ≤ x4 then (if (bt x0 x4) ≥ 65 then (if (bt x0 x4) ≤ 90 then (if x3.length < 140737488355328 then (marginaliaref02_Lower.l0 k x0 (x3 ++ [((bt x0 x4) + 32) % 256]) (wrap64 (x4 + 1))) else (none)) else (if x3.length < 140737488355328 then (marginaliaref02_Lower.l0 k x0 (x3 ++ [bt x0 x4]) (wrap64 (x4 + 1))) else (none))) else (if x3.length < 140737488355328 then (marginaliaref02_Lower.l0 k x0 (x3 ++ [bt x0 x4]) (wrap64 (x4 + 1))) else (none))) else (none)) else (some (strOfNums x3))
def marginaliaref02_Lower.f (k : Nat) (a0 : ByteArray) : Option (ByteArray) := marginaliaref02_Lower.l0 k a0 (([] : List Int)) 0
set_option maxHeartbeats 8000000 in
set_option maxRecDepth 100000 in
theorem marginaliaref02_Lower.calls (k : Nat) (a0 : ByteArray) (r : ByteArray) (w : World) (h : marginaliaref02_Lower.f k a0 = some r) :
  Calls Tryd.prog 96 #[.string a0] w fun e w' => e = .returned (.string r) ∧ Below w.heap.size w w' := by
 have HB := Aside0.mk (Below.refl w.heap.size w)
 have H : (marginaliaref02_Lower.l0 k a0 (([] : List Int)) 0) = some r := h
 clear h
 obtain ⟨y367, hy367⟩ : ∃ y_ : List Int, y_ = (([] : List Int)) := ⟨_, rfl⟩
 replace H : (marginaliaref02_Lower.l0 k a0 y367 0) = some r := by first | (rw [hy367]; with_reducible exact H) | (have H2_ := (Option.bind_some _ _).symm.trans H; rw [hy367]; with_reducible exact H2_) | (have H2_ := (Option.bind_some _ _).symm.trans H; with_reducible exact H2_) | with_reducible exact H | (rw [hy367]; exact H) | exact H
 have Ny367 := Aside0.mk hy367
 clear hy367
 have H' := Aside0.mk H
 clear H
 go_enter Tryd.func96, Tryd.ntmps96
 go_wp2_with (first | ((with_reducible refine gate_dst (N := 6) rfl ?_); refine Kd.R_lit (Kd.int .u8) _ 5 ?hg (N := 6) ?hd (xs := ([] : List Int)) (inner := []) (ok := fun _ => True) (okp := fun _ => True) ?hr ?hp (fun _ hk => hk) trivial (Below.refl _ _) (Nat.le_refl _) (by simp) ?_; (case hd => rfl); (case hg => rfl); (case hr => first | (go_simp; done) | (go_simp; rfl)); (case hp => exact (Reps.none _ _)); intro v368 w2 ho3 hb hg_ hnew_; clear hg_ hnew_; (first | rw [← Ny367.out] at ho3 | (simp only [Int.reduceToNat] at ho3; rw [← Ny367.out] at ho3)); replace HO369 := Aside0.mk (Kd.R_lower ho3 (below_size Bw)); replace HB := Bs hb; clear hb ho3))
 go_loopg [3, 4] k (fun kq v3 v4 w' => ∃ (x3_1 : List Int) (x4_1 : Int), v4 = .int .i64 x4_1 ∧ Aside0 (marginaliaref02_Lower.l0 kq a0 x3_1 x4_1 = some r) ∧ Aside0 (kq ≤ k) ∧ Aside0 (Kd.R (Kd.int .u8) 5 w' w.heap.size (fun _ => True) v3 x3_1) ∧ Aside0 (Below w.heap.size w w'))
 case atStart => exact ⟨(y367), (0), Rs, H', ⟨Nat.le_refl _⟩, ⟨by (with_reducible repeat (first | apply Kd.R_alloc | apply Kd.R_drewN | apply Kd.R_drew)); exact HO369.out⟩, ⟨Bw⟩⟩
 case round =>
  clear H'
  try clear p2
  obtain ⟨x3_1, x4_1, rfl, HA, HK1, HO_3, HB⟩ := hrel
  cases gk with
  | zero => exact absurd HA.out (by simp [marginaliaref02_Lower.l0])
  | succ k1 =>
   have H := HA.out
   clear HA
   simp only [marginaliaref02_Lower.l0] at H
   by_cases c4 : x4_1 < (a0.size : Int)
   ·rw [if_pos c4] at H
    have c4b0 : decide (x4_1 < (a0.size : Int)) = true := decide_eq_true c4
    clear c4
    by_cases c5 : 0 ≤ x4_1
    ·rw [if_pos c5] at H
     have c5b0 : decide (0 ≤ x4_1) = true := decide_eq_true c5
     clear c5
     by_cases c7 : (bt a0 x4_1) ≥ 65
     ·rw [if_pos c7] at H
      have c7b0 : decide (65 ≤ (bt a0 x4_1)) = true := decide_eq_true c7
      clear c7
      by_cases c8 : (bt a0 x4_1) ≤ 90
      ·rw [if_pos c8] at H
       have c8b0 : decide ((bt a0 x4_1) ≤ 90) = true := decide_eq_true c8
       clear c8
       by_cases c9 : x3_1.length < 140737488355328
       ·rw [if_pos c9] at H
        have LMc9 := Aside0.mk c9
        clear c9
        obtain ⟨y370, hy370⟩ : ∃ y_ : List Int, y_ = (x3_1 ++ [((bt a0 x4_1) + 32) % 256]) := ⟨_, rfl⟩
        replace H : (marginaliaref02_Lower.l0 k1 a0 y370 (wrap64 (x4_1 + 1))) = some r := by first | (rw [hy370]; with_reducible exact H) | (have H2_ := (Option.bind_some _ _).symm.trans H; rw [hy370]; with_reducible exact H2_) | (have H2_ := (Option.bind_some _ _).symm.trans H; with_reducible exact H2_) | with_reducible exact H | (rw [hy370]; exact H) | exact H
        have Ny370 := Aside0.mk hy370
        clear hy370
        have H' := Aside0.mk H
        clear H
        have p6 : 0 ≤ (x4_1 : Int) := of_decide_eq_true Dt
        have q6 : x4_1 < (a0.size : Int) := of_decide_eq_true Dt
        have hx6 := bt_at a0 x4_1
        replace p6 := eq_true p6
        replace q6 := eq_true q6
        go_wp2_with (first | ((with_reducible refine gate_builtin (b := .append) (xs := #[.tmp 24, .tmp 26]) rfl ?_); at_builtin; refine Kd.R_append (Kd.int .u8) (w0 := w) w.heap.size rfl (.tmp 24) (.tmp 26) 85 5 (.int .u8 0) 1 rfl Tryd.underlying85 info5 rfl (by decide) (by omega) u3 x3_1 (((bt a0 x4_1) + 32) % 256) [.int .u8 (((bt a0 x4_1) + 32) % 256)] (fun _ => True) (fun _ => False) rfl rfl ?aP (fun _ hk => hk.elim) ?aF ?aO ?aB ?aS ?aL ?_; (case aP => exact rfl); (case aB => exact Bw); (case aF => exact (fun _ _ => trivial)); (case aO => exact (by (with_reducible repeat (first | apply Kd.R_alloc | apply Kd.R_drewN | apply Kd.R_drew)); exact HO_3.out)); (case aS => exact (below_size Bw)); (case aL => have := LMc9.out; omega); intro v371 w10 ho hb hg hat; rw [← Ny370.out] at ho; replace HO372 := Aside0.mk (ho); replace HB := Aside0.mk (hb); clear ho hb hg hat))
        go_roundg k1
        case measure => have := HK1.out; omega
        case rel => exact ⟨(y370), (wrap64 (x4_1 + 1)), Rs, H', ⟨by have := HK1.out; omega⟩, ⟨by (with_reducible repeat (first | apply Kd.R_alloc | apply Kd.R_drewN | apply Kd.R_drew)); exact HO372.out⟩, ⟨Bw⟩⟩
       rw [if_neg c9] at H
       exact absurd H (by simp)
      rw [if_neg c8] at H
      have c8b0 : decide ((bt a0 x4_1) ≤ 90) = false := decide_eq_false c8
      clear c8
      by_cases c11 : x3_1.length < 140737488355328
      ·rw [if_pos c11] at H
       have LMc11 := Aside0.mk c11
       clear c11
       obtain ⟨y373, hy373⟩ : ∃ y_ : List Int, y_ = (x3_1 ++ [bt a0 x4_1]) := ⟨_, rfl⟩
       replace H : (marginaliaref02_Lower.l0 k1 a0 y373 (wrap64 (x4_1 + 1))) = some r := by first | (rw [hy373]; with_reducible exact H) | (have H2_ := (Option.bind_some _ _).symm.trans H; rw [hy373]; with_reducible exact H2_) | (have H2_ := (Option.bind_some _ _).symm.trans H; with_reducible exact H2_) | with_reducible exact H | (rw [hy373]; exact H) | exact H
       have Ny373 := Aside0.mk hy373
       clear hy373
       have H' := Aside0.mk H
       clear H
       have p6 : 0 ≤ (x4_1 : Int) := of_decide_eq_true Dt
       have q6 : x4_1 < (a0.size : Int) := of_decide_eq_true Dt
       have hx6 := bt_at a0 x4_1
       replace p6 := eq_true p6
       replace q6 := eq_true q6
       go_wp2_with (first | ((with_reducible refine gate_builtin (b := .append) (xs := #[.tmp 24, .tmp 26]) rfl ?_); at_builtin; refine Kd.R_append (Kd.int .u8) (w0 := w) w.heap.size rfl (.tmp 24) (.tmp 26) 85 5 (.int .u8 0) 1 rfl Tryd.underlying85 info5 rfl (by decide) (by omega) u3 x3_1 (bt a0 x4_1) [.int .u8 (bt a0 x4_1)] (fun _ => True) (fun _ => False) rfl rfl ?aP (fun _ hk => hk.elim) ?aF ?aO ?aB ?aS ?aL ?_; (case aP => exact rfl); (case aB => exact Bw); (case aF => exact (fun _ _ => trivial)); (case aO => exact (by (with_reducible repeat (first | apply Kd.R_alloc | apply Kd.R_drewN | apply Kd.R_drew)); exact HO_3.out)); (case aS => exact (below_size Bw)); (case aL => have := LMc11.out; omega); intro v374 w12 ho hb hg hat; rw [← Ny373.out] at ho; replace HO375 := Aside0.mk (ho); replace HB := Aside0.mk (hb); clear ho hb hg hat))
       go_roundg k1
       case measure => have := HK1.out; omega
       case rel => exact ⟨(y373), (wrap64 (x4_1 + 1)), Rs, H', ⟨by have := HK1.out; omega⟩, ⟨by (with_reducible repeat (first | apply Kd.R_alloc | apply Kd.R_drewN | apply Kd.R_drew)); exact HO375.out⟩, ⟨Bw⟩⟩
      rw [if_neg c11] at H
      exact absurd H (by simp)
     rw [if_neg c7] at H
     have c7b0 : decide (65 ≤ (bt a0 x4_1)) = false := decide_eq_false c7
     clear c7
     by_cases c13 : x3_1.length < 140737488355328
     ·rw [if_pos c13] at H
      have LMc13 := Aside0.mk c13
      clear c13
      obtain ⟨y376, hy376⟩ : ∃ y_ : List Int, y_ = (x3_1 ++ [bt a0 x4_1]) := ⟨_, rfl⟩
      replace H : (marginaliaref02_Lower.l0 k1 a0 y376 (wrap64 (x4_1 + 1))) = some r := by first | (rw [hy376]; with_reducible exact H) | (have H2_ := (Option.bind_some _ _).symm.trans H; rw [hy376]; with_reducible exact H2_) | (have H2_ := (Option.bind_some _ _).symm.trans H; with_reducible exact H2_) | with_reducible exact H | (rw [hy376]; exact H) | exact H
      have Ny376 := Aside0.mk hy376
      clear hy376
      have H' := Aside0.mk H
      clear H
      have p6 : 0 ≤ (x4_1 : Int) := of_decide_eq_true Dt
      have q6 : x4_1 < (a0.size : Int) := of_decide_eq_true Dt
      have hx6 := bt_at a0 x4_1
      replace p6 := eq_true p6
      replace q6 := eq_true q6
      go_wp2_with (first | ((with_reducible refine gate_builtin (b := .append) (xs := #[.tmp 24, .tmp 26]) rfl ?_); at_builtin; refine Kd.R_append (Kd.int .u8) (w0 := w) w.heap.size rfl (.tmp 24) (.tmp 26) 85 5 (.int .u8 0) 1 rfl Tryd.underlying85 info5 rfl (by decide) (by omega) u3 x3_1 (bt a0 x4_1) [.int .u8 (bt a0 x4_1)] (fun _ => True) (fun _ => False) rfl rfl ?aP (fun _ hk => hk.elim) ?aF ?aO ?aB ?aS ?aL ?_; (case aP => exact rfl); (case aB => exact Bw); (case aF => exact (fun _ _ => trivial)); (case aO => exact (by (with_reducible repeat (first | apply Kd.R_alloc | apply Kd.R_drewN | apply Kd.R_drew)); exact HO_3.out)); (case aS => exact (below_size Bw)); (case aL => have := LMc13.out; omega); intro v377 w14 ho hb hg hat; rw [← Ny376.out] at ho; replace HO378 := Aside0.mk (ho); replace HB := Aside0.mk (hb); clear ho hb hg hat))
      go_roundg k1
      case measure => have := HK1.out; omega
      case rel => exact ⟨(y376), (wrap64 (x4_1 + 1)), Rs, H', ⟨by have := HK1.out; omega⟩, ⟨by (with_reducible repeat (first | apply Kd.R_alloc | apply Kd.R_drewN | apply Kd.R_drew)); exact HO378.out⟩, ⟨Bw⟩⟩
     rw [if_neg c13] at H
     exact absurd H (by simp)
    rw [if_neg c5] at H
    exact absurd H (by simp)
   rw [if_neg c4] at H
   have c4b0 : decide (x4_1 < (a0.size : Int)) = false := decide_eq_false c4
   clear c4
   obtain rfl := Option.some.inj H
   have hcv15 := own_string (P := Tryd.prog) Tryd.underlying85 Tryd.underlying5 Tryd.underlying9 (Kd.own_of_R HO_3.out)
   go_wp2
   go_ret
   exact ⟨Re, Bw⟩

mutual
def marginaliaref10_Of.j0 : Nat → ByteArray → Bool → Option (ByteArray × Bool)
  | 0, _, _ => none
  | k + 1, x0, x15 => if x15 = true then (some ((⟨#[]⟩ : ByteArray), false)) else (marginaliaref10_Of.l0 k x0 0)
def marginaliaref10_Of.l0 : Nat → ByteArray → Int → Option (ByteArray × Bool)
  | 0, _, _ => none
  | k + 1, x0, x4 => if x4 < (x0.size : Int) then (if 0 ≤ x4 then (if (bt x0 x4) = 58 then (if x4 ≤ (x0.size : Int) then ((marginaliaref02_Lower.f k (x0.extract 0 (x4 : Int).toNat)).bind fun t381 => (some (t381, true))) else (none)) else ((marginaliaref02_Letter.f (bt x0 x4)).bind fun t382 => (if t382 = true then (marginaliaref10_Of.l0 k x0 (wrap64 (x4 + 1))) else ((marginaliaref02_Figure.f (bt x0 x4)).bind fun t383 => (if t383 = true then (marginaliaref10_Of.l0 k x0 (wrap64 (x4 + 1))) else (if (bt x0 x4) = 43 then (marginaliaref10_Of.l0 k x0 (wrap64 (x4 + 1))) else (if (bt x0 x4) = 45 then (marginaliaref10_Of.l0 k x0 (wrap64 (x4 + 1))) else (if (bt x0 x4) = 46 then (marginaliaref10_Of.l0 k x0 (wrap64 (x4 + 1))) else (some ((⟨#[]⟩ : ByteArray), false)))))))))) else (none)) else (some ((⟨#[]⟩ : ByteArray), false))
end
def marginaliaref10_Of.f (k : Nat) (a0 : ByteArray) : Option (ByteArray × Bool) := (marginaliaref10_tidy.f k a0).bind fun t379 => (if t379.toList = ([] : List UInt8) then (marginaliaref10_Of.j0 k t379 true) else (if 0 < (t379.size : Int) then ((marginaliaref02_Letter.f (bt t379 0)).bind fun t380 => (marginaliaref10_Of.j0 k t379 (!t380))) else (none)))
set_option maxHeartbeats 8000000 in
set_option maxRecDepth 100000 in
theorem marginaliaref10_Of.calls (k : Nat) (a0 : ByteArray) (r1 : ByteArray) (r2 : Bool) (w : World) (h : marginaliaref10_Of.f k a0 = some (r1, r2)) :
  Calls Tryd.prog 76 #[.string a0] w fun e w' => e = .returned (.tuple #[.string r1, .bool r2]) ∧ Below w.heap.size w w' := by
 have HB := Aside0.mk (Below.refl w.heap.size w)
 have H : ((marginaliaref10_tidy.f k a0).bind fun t379 => (if t379.toList = ([] : List UInt8) then (marginaliaref10_Of.j0 k t379 true) else (if 0 < (t379.size : Int) then ((marginaliaref02_Letter.f (bt t379 0)).bind fun t380 => (marginaliaref10_Of.j0 k t379 (!t380))) else (none)))) = some (r1, r2) := h
 clear h
 replace H := Option.bind_eq_some_iff.mp H
 obtain ⟨t379, A20, H⟩ := H
 replace H : (if t379.toList = ([] : List UInt8) then (marginaliaref10_Of.j0 k t379 true) else (if 0 < (t379.size : Int) then ((marginaliaref02_Letter.f (bt t379 0)).bind fun t380 => (marginaliaref10_Of.j0 k t379 (!t380))) else (none))) = some (r1, r2) := H
 have A2 := Aside0.mk A20
 clear A20
 have HC3 := Aside0.mk H
 clear H
 go_enter Tryd.func76, Tryd.ntmps76
 go_upto_region 2 with (first | ((with_reducible refine gate_callee (f := 94) rfl ?_); refine goL (some 7) Tryd.func94 #[.string a0] ?_; (with_reducible refine (marginaliaref10_tidy.calls k a0 t379 _ A2.out).mono ?_); rintro e w' ⟨rfl, ⟨nd, rfl⟩⟩; refine ⟨_, rfl, ?_⟩))
 (try simp only [Act.put, List.setIfInBounds_toArray, List.set_cons_zero, List.set_cons_succ])
 go_cut [15] (fun v15 wc => ∃ (kq : Nat) (x15_2 : Bool), v15 = .bool x15_2 ∧ Aside0 (marginaliaref10_Of.j0 kq t379 x15_2 = some (r1, r2)) ∧ Aside0 (kq ≤ k) ∧ Aside0 (Below w.heap.size w wc))
 case first =>
  have H := HC3.out
  clear HC3
  by_cases c4 : t379.toList = ([] : List UInt8)
  ·rw [if_pos c4] at H
   have c4b0 : (t379.toList == ([] : List UInt8)) = true := beq_iff_eq.mpr c4
   have c4b1 : (t379.toList != ([] : List UInt8)) = false := bne_eq_false_iff_eq.mpr c4
   clear c4
   (first | rw [c4b0] | (simp only [i64_w, i32_w]; rw [c4b0]) | skip)
   have H' := Aside0.mk H
   clear H
   go_wp2
   go_meet
   case rel => exact ⟨_, (true), Rs, H', ⟨On⟩, ⟨Bw⟩⟩
  rw [if_neg c4] at H
  have c4b0 : (t379.toList == ([] : List UInt8)) = false := beq_eq_false_iff_ne.mpr c4
  have c4b1 : (t379.toList != ([] : List UInt8)) = true := bne_iff_ne.mpr c4
  (first | rw [c4b0] | (simp only [i64_w, i32_w]; rw [c4b0]) | skip)
  by_cases c5 : 0 < (t379.size : Int)
  ·rw [if_pos c5] at H
   have c5b0 : decide (0 < (t379.size : Int)) = true := decide_eq_true c5
   have c5b1 : decide (0 < t379.size) = true := decide_eq_true (by omega)
   clear c5
   replace H := Option.bind_eq_some_iff.mp H
   obtain ⟨t380, A70, H⟩ := H
   replace H : (marginaliaref10_Of.j0 k t379 (!t380)) = some (r1, r2) := H
   have A7 := Aside0.mk A70
   clear A70
   have H' := Aside0.mk H
   clear H
   have p6 : 0 ≤ (0 : Int) := (by omega)
   have q6 : 0 < t379.size := (by have : (0 : Int) < (t379.size : Int) := of_decide_eq_true Dt; omega)
   have hx6 : ∀ h : 0 < t379.size, ((t379[0]'h).toNat : Int) = bt t379 0 := bt_at t379 0
   clear p6
   have qi6 : (0 < (t379.size : Int)) = True := eq_true (of_decide_eq_true Dt)
   replace q6 := eq_true q6
   go_wp2_with (first | (go_at_call 95; (with_reducible refine (marginaliaref02_Letter.calls (bt t379 0) t380 _ A7.out).mono ?_); rintro e w' ⟨rfl, ⟨nd, rfl⟩⟩))
   go_meet
   case rel => exact ⟨_, (!t380), Rs, H', ⟨On⟩, ⟨Bw⟩⟩
  rw [if_neg c5] at H
  exact absurd H (by simp)
 case rest =>
  clear HC3
  try clear p2
  try clear c4
  try clear c4b0
  try clear c4b1
  try clear c5
  try clear c5b0
  try clear c5b1
  try clear p6
  try clear q6
  try clear hx6
  try clear qi6
  try clear c7
  try clear p6
  try clear q6
  obtain ⟨kq, x15_2, rfl, HA, HJ2, HB⟩ := hcut
  cases kq with
  | zero => exact absurd HA.out (by simp [marginaliaref10_Of.j0])
  | succ kj2 =>
   have H := HA.out
   clear HA
   simp only [marginaliaref10_Of.j0] at H
   by_cases c8 : x15_2 = true
   ·subst c8
    have H1 : (some ((⟨#[]⟩ : ByteArray), false)) = some (r1, r2) := by rw [if_pos rfl] at H; exact H
    clear H
    have H := H1
    clear H1
    simp only [Option.some.injEq, Prod.mk.injEq] at H
    obtain ⟨rfl, rfl⟩ := H
    go_wp2
    go_ret2
    exact ⟨Re, Bw⟩
   replace c8 := Bool.eq_false_iff.mpr c8
   subst c8
   have H1 : (marginaliaref10_Of.l0 kj2 t379 0) = some (r1, r2) := by rw [if_neg (show ¬ (false = true) by decide)] at H; exact H
   clear H
   have H := H1
   clear H1
   have H' := Aside0.mk H
   clear H
   go_wp2
   go_loopg [4] kj2 (fun kq v4 w' => ∃ (x4_2 : Int), v4 = .int .i64 x4_2 ∧ Aside0 (marginaliaref10_Of.l0 kq t379 x4_2 = some (r1, r2)) ∧ Aside0 (kq ≤ kj2) ∧ Aside0 (Below w.heap.size w w'))
   case atStart => exact ⟨(0), Rs, H', ⟨Nat.le_refl _⟩, ⟨Bw⟩⟩
   case round =>
    clear H'
    try clear p2
    try clear c4
    try clear c4b0
    try clear c4b1
    try clear c5
    try clear c5b0
    try clear c5b1
    try clear p6
    try clear q6
    try clear hx6
    try clear qi6
    try clear c7
    try clear c8
    try clear p2
    try clear p6
    try clear q6
    obtain ⟨x4_2, rfl, HA, HK2, HB⟩ := hrel
    cases gk with
    | zero => exact absurd HA.out (by simp [marginaliaref10_Of.l0])
    | succ k2 =>
     have H := HA.out
     clear HA
     simp only [marginaliaref10_Of.l0] at H
     by_cases c9 : x4_2 < (t379.size : Int)
     ·rw [if_pos c9] at H
      have c9b0 : decide (x4_2 < (t379.size : Int)) = true := decide_eq_true c9
      clear c9
      by_cases c10 : 0 ≤ x4_2
      ·rw [if_pos c10] at H
       have c10b0 : decide (0 ≤ x4_2) = true := decide_eq_true c10
       clear c10
       by_cases c12 : (bt t379 x4_2) = 58
       ·rw [if_pos c12] at H
        have c12b0 : ((bt t379 x4_2) == 58) = true := beq_iff_eq.mpr c12
        have c12b1 : ((bt t379 x4_2) != 58) = false := bne_eq_false_iff_eq.mpr c12
        clear c12
        have c13b0 := eq_true (of_decide_eq_true Dt : 0 ≤ x4_2)
        by_cases c14 : x4_2 ≤ (t379.size : Int)
        ·rw [if_pos c14] at H
         have c14b0 := eq_true c14
         have c14b1 : decide (x4_2 ≤ (t379.size : Int)) = true := decide_eq_true c14
         clear c14
         replace H := Option.bind_eq_some_iff.mp H
         obtain ⟨t381, A150, H⟩ := H
         replace H : (some (t381, true)) = some (r1, r2) := H
         have A15 := Aside0.mk A150
         clear A150
         simp only [Option.some.injEq, Prod.mk.injEq] at H
         obtain ⟨rfl, rfl⟩ := H
         have p11 : 0 ≤ (x4_2 : Int) := of_decide_eq_true Dt
         have q11 : x4_2 < (t379.size : Int) := of_decide_eq_true Dt
         have hx11 := bt_at t379 x4_2
         replace p11 := eq_true p11
         replace q11 := eq_true q11
         go_wp2_with (first | ((with_reducible refine gate_callee (f := 96) rfl ?_); refine goL (some 30) Tryd.func96 #[.string (t379.extract 0 (x4_2 : Int).toNat)] ?_; (with_reducible refine (marginaliaref02_Lower.calls k2 (t379.extract 0 (x4_2 : Int).toNat) t381 _ A15.out).mono ?_); rintro e w16 ⟨rfl, hb⟩; refine ⟨_, rfl, ?_⟩; replace HB := Bs hb; clear hb))
         go_ret2
         exact ⟨Re, Bw⟩
        rw [if_neg c14] at H
        exact absurd H (by simp)
       rw [if_neg c12] at H
       have c12b0 : ((bt t379 x4_2) == 58) = false := beq_eq_false_iff_ne.mpr c12
       have c12b1 : ((bt t379 x4_2) != 58) = true := bne_iff_ne.mpr c12
       replace H := Option.bind_eq_some_iff.mp H
       obtain ⟨t382, A170, H⟩ := H
       replace H : (if t382 = true then (marginaliaref10_Of.l0 k2 t379 (wrap64 (x4_2 + 1))) else ((marginaliaref02_Figure.f (bt t379 x4_2)).bind fun t383 => (if t383 = true then (marginaliaref10_Of.l0 k2 t379 (wrap64 (x4_2 + 1))) else (if (bt t379 x4_2) = 43 then (marginaliaref10_Of.l0 k2 t379 (wrap64 (x4_2 + 1))) else (if (bt t379 x4_2) = 45 then (marginaliaref10_Of.l0 k2 t379 (wrap64 (x4_2 + 1))) else (if (bt t379 x4_2) = 46 then (marginaliaref10_Of.l0 k2 t379 (wrap64 (x4_2 + 1))) else (some ((⟨#[]⟩ : ByteArray), false)))))))) = some (r1, r2) := H
       have A17 := Aside0.mk A170
       clear A170
       by_cases c18 : t382 = true
       ·subst c18
        have H1 : (marginaliaref10_Of.l0 k2 t379 (wrap64 (x4_2 + 1))) = some (r1, r2) := by rw [if_pos rfl] at H; exact H
        clear H
        have H := H1
        clear H1
        have H' := Aside0.mk H
        clear H
        have p11 : 0 ≤ (x4_2 : Int) := of_decide_eq_true Dt
        have q11 : x4_2 < (t379.size : Int) := of_decide_eq_true Dt
        have hx11 := bt_at t379 x4_2
        replace p11 := eq_true p11
        replace q11 := eq_true q11
        go_wp2_with (first | ((with_reducible refine gate_callee (f := 95) rfl ?_); refine goL (some 32) Tryd.func95 #[.int .u8 (bt t379 x4_2)] ?_; (with_reducible refine (marginaliaref02_Letter.calls (bt t379 x4_2) true _ A17.out).mono ?_); rintro e w' ⟨rfl, ⟨nd, rfl⟩⟩; refine ⟨_, rfl, ?_⟩))
        go_roundg k2
        case measure => have := HJ2.out; have := HK2.out; omega
        case rel => exact ⟨(wrap64 (x4_2 + 1)), Rs, H', ⟨by have := HJ2.out; have := HK2.out; omega⟩, ⟨Bw⟩⟩
       replace c18 := Bool.eq_false_iff.mpr c18
       subst c18
       have H1 : ((marginaliaref02_Figure.f (bt t379 x4_2)).bind fun t383 => (if t383 = true then (marginaliaref10_Of.l0 k2 t379 (wrap64 (x4_2 + 1))) else (if (bt t379 x4_2) = 43 then (marginaliaref10_Of.l0 k2 t379 (wrap64 (x4_2 + 1))) else (if (bt t379 x4_2) = 45 then (marginaliaref10_Of.l0 k2 t379 (wrap64 (x4_2 + 1))) else (if (bt t379 x4_2) = 46 then (marginaliaref10_Of.l0 k2 t379 (wrap64 (x4_2 + 1))) else (some ((⟨#[]⟩ : ByteArray), false))))))) = some (r1, r2) := by rw [if_neg (show ¬ (false = true) by decide)] at H; exact H
       clear H
       have H := H1
       clear H1
       replace H := Option.bind_eq_some_iff.mp H
       obtain ⟨t383, A190, H⟩ := H
       replace H : (if t383 = true then (marginaliaref10_Of.l0 k2 t379 (wrap64 (x4_2 + 1))) else (if (bt t379 x4_2) = 43 then (marginaliaref10_Of.l0 k2 t379 (wrap64 (x4_2 + 1))) else (if (bt t379 x4_2) = 45 then (marginaliaref10_Of.l0 k2 t379 (wrap64 (x4_2 + 1))) else (if (bt t379 x4_2) = 46 then (marginaliaref10_Of.l0 k2 t379 (wrap64 (x4_2 + 1))) else (some ((⟨#[]⟩ : ByteArray), false)))))) = some (r1, r2) := H
       have A19 := Aside0.mk A190
       clear A190
       by_cases c20 : t383 = true
       ·subst c20
        have H1 : (marginaliaref10_Of.l0 k2 t379 (wrap64 (x4_2 + 1))) = some (r1, r2) := by rw [if_pos rfl] at H; exact H
        clear H
        have H := H1
        clear H1
        have H' := Aside0.mk H
        clear H
        have p11 : 0 ≤ (x4_2 : Int) := of_decide_eq_true Dt
        have q11 : x4_2 < (t379.size : Int) := of_decide_eq_true Dt
        have hx11 := bt_at t379 x4_2
        replace p11 := eq_true p11
        replace q11 := eq_true q11
        go_wp2_with (first | ((with_reducible refine gate_callee (f := 95) rfl ?_); refine goL (some 32) Tryd.func95 #[.int .u8 (bt t379 x4_2)] ?_; (with_reducible refine (marginaliaref02_Letter.calls (bt t379 x4_2) false _ A17.out).mono ?_); rintro e w' ⟨rfl, ⟨nd, rfl⟩⟩; refine ⟨_, rfl, ?_⟩) | (go_at_call 85; (with_reducible refine (marginaliaref02_Figure.calls (bt t379 x4_2) true _ A19.out).mono ?_); rintro e w' ⟨rfl, ⟨nd, rfl⟩⟩))
        go_roundg k2
        case measure => have := HJ2.out; have := HK2.out; omega
        case rel => exact ⟨(wrap64 (x4_2 + 1)), Rs, H', ⟨by have := HJ2.out; have := HK2.out; omega⟩, ⟨Bw⟩⟩
       replace c20 := Bool.eq_false_iff.mpr c20
       subst c20
       have H1 : (if (bt t379 x4_2) = 43 then (marginaliaref10_Of.l0 k2 t379 (wrap64 (x4_2 + 1))) else (if (bt t379 x4_2) = 45 then (marginaliaref10_Of.l0 k2 t379 (wrap64 (x4_2 + 1))) else (if (bt t379 x4_2) = 46 then (marginaliaref10_Of.l0 k2 t379 (wrap64 (x4_2 + 1))) else (some ((⟨#[]⟩ : ByteArray), false))))) = some (r1, r2) := by rw [if_neg (show ¬ (false = true) by decide)] at H; exact H
       clear H
       have H := H1
       clear H1
       by_cases c21 : (bt t379 x4_2) = 43
       ·rw [if_pos c21] at H
        have c21b0 : ((bt t379 x4_2) == 43) = true := beq_iff_eq.mpr c21
        have c21b1 : ((bt t379 x4_2) != 43) = false := bne_eq_false_iff_eq.mpr c21
        clear c21
        have H' := Aside0.mk H
        clear H
        have p11 : 0 ≤ (x4_2 : Int) := of_decide_eq_true Dt
        have q11 : x4_2 < (t379.size : Int) := of_decide_eq_true Dt
        have hx11 := bt_at t379 x4_2
        replace p11 := eq_true p11
        replace q11 := eq_true q11
        go_wp2_with (first | ((with_reducible refine gate_callee (f := 95) rfl ?_); refine goL (some 32) Tryd.func95 #[.int .u8 (bt t379 x4_2)] ?_; (with_reducible refine (marginaliaref02_Letter.calls (bt t379 x4_2) false _ A17.out).mono ?_); rintro e w' ⟨rfl, ⟨nd, rfl⟩⟩; refine ⟨_, rfl, ?_⟩) | (go_at_call 85; (with_reducible refine (marginaliaref02_Figure.calls (bt t379 x4_2) false _ A19.out).mono ?_); rintro e w' ⟨rfl, ⟨nd, rfl⟩⟩))
        go_roundg k2
        case measure => have := HJ2.out; have := HK2.out; omega
        case rel => exact ⟨(wrap64 (x4_2 + 1)), Rs, H', ⟨by have := HJ2.out; have := HK2.out; omega⟩, ⟨Bw⟩⟩
       rw [if_neg c21] at H
       have c21b0 : ((bt t379 x4_2) == 43) = false := beq_eq_false_iff_ne.mpr c21
       have c21b1 : ((bt t379 x4_2) != 43) = true := bne_iff_ne.mpr c21
       by_cases c22 : (bt t379 x4_2) = 45
       ·rw [if_pos c22] at H
        have c22b0 : ((bt t379 x4_2) == 45) = true := beq_iff_eq.mpr c22
        have c22b1 : ((bt t379 x4_2) != 45) = false := bne_eq_false_iff_eq.mpr c22
        clear c22
        have H' := Aside0.mk H
        clear H
        have p11 : 0 ≤ (x4_2 : Int) := of_decide_eq_true Dt
        have q11 : x4_2 < (t379.size : Int) := of_decide_eq_true Dt
        have hx11 := bt_at t379 x4_2
        replace p11 := eq_true p11
        replace q11 := eq_true q11
        go_wp2_with (first | ((with_reducible refine gate_callee (f := 95) rfl ?_); refine goL (some 32) Tryd.func95 #[.int .u8 (bt t379 x4_2)] ?_; (with_reducible refine (marginaliaref02_Letter.calls (bt t379 x4_2) false _ A17.out).mono ?_); rintro e w' ⟨rfl, ⟨nd, rfl⟩⟩; refine ⟨_, rfl, ?_⟩) | (go_at_call 85; (with_reducible refine (marginaliaref02_Figure.calls (bt t379 x4_2) false _ A19.out).mono ?_); rintro e w' ⟨rfl, ⟨nd, rfl⟩⟩))
        go_roundg k2
        case measure => have := HJ2.out; have := HK2.out; omega
        case rel => exact ⟨(wrap64 (x4_2 + 1)), Rs, H', ⟨by have := HJ2.out; have := HK2.out; omega⟩, ⟨Bw⟩⟩
       rw [if_neg c22] at H
       have c22b0 : ((bt t379 x4_2) == 45) = false := beq_eq_false_iff_ne.mpr c22
       have c22b1 : ((bt t379 x4_2) != 45) = true := bne_iff_ne.mpr c22
       by_cases c23 : (bt t379 x4_2) = 46
       ·rw [if_pos c23] at H
        have c23b0 : ((bt t379 x4_2) == 46) = true := beq_iff_eq.mpr c23
        have c23b1 : ((bt t379 x4_2) != 46) = false := bne_eq_false_iff_eq.mpr c23
        clear c23
        have H' := Aside0.mk H
        clear H
        have p11 : 0 ≤ (x4_2 : Int) := of_decide_eq_true Dt
        have q11 : x4_2 < (t379.size : Int) := of_decide_eq_true Dt
        have hx11 := bt_at t379 x4_2
        replace p11 := eq_true p11
        replace q11 := eq_true q11
        go_wp2_with (first | ((with_reducible refine gate_callee (f := 95) rfl ?_); refine goL (some 32) Tryd.func95 #[.int .u8 (bt t379 x4_2)] ?_; (with_reducible refine (marginaliaref02_Letter.calls (bt t379 x4_2) false _ A17.out).mono ?_); rintro e w' ⟨rfl, ⟨nd, rfl⟩⟩; refine ⟨_, rfl, ?_⟩) | (go_at_call 85; (with_reducible refine (marginaliaref02_Figure.calls (bt t379 x4_2) false _ A19.out).mono ?_); rintro e w' ⟨rfl, ⟨nd, rfl⟩⟩))
        go_roundg k2
        case measure => have := HJ2.out; have := HK2.out; omega
        case rel => exact ⟨(wrap64 (x4_2 + 1)), Rs, H', ⟨by have := HJ2.out; have := HK2.out; omega⟩, ⟨Bw⟩⟩
       rw [if_neg c23] at H
       have c23b0 : ((bt t379 x4_2) == 46) = false := beq_eq_false_iff_ne.mpr c23
       have c23b1 : ((bt t379 x4_2) != 46) = true := bne_iff_ne.mpr c23
       simp only [Option.some.injEq, Prod.mk.injEq] at H
       obtain ⟨rfl, rfl⟩ := H
       have p11 : 0 ≤ (x4_2 : Int) := of_decide_eq_true Dt
       have q11 : x4_2 < (t379.size : Int) := of_decide_eq_true Dt
       have hx11 := bt_at t379 x4_2
       replace p11 := eq_true p11
       replace q11 := eq_true q11
       go_wp2_with (first | ((with_reducible refine gate_callee (f := 95) rfl ?_); refine goL (some 32) Tryd.func95 #[.int .u8 (bt t379 x4_2)] ?_; (with_reducible refine (marginaliaref02_Letter.calls (bt t379 x4_2) false _ A17.out).mono ?_); rintro e w' ⟨rfl, ⟨nd, rfl⟩⟩; refine ⟨_, rfl, ?_⟩) | (go_at_call 85; (with_reducible refine (marginaliaref02_Figure.calls (bt t379 x4_2) false _ A19.out).mono ?_); rintro e w' ⟨rfl, ⟨nd, rfl⟩⟩))
       go_ret2
       exact ⟨Re, Bw⟩
      rw [if_neg c10] at H
      exact absurd H (by simp)
     rw [if_neg c9] at H
     have c9b0 : decide (x4_2 < (t379.size : Int)) = false := decide_eq_false c9
     clear c9
     simp only [Option.some.injEq, Prod.mk.injEq] at H
     obtain ⟨rfl, rfl⟩ := H
     go_wp2
     go_ret2
     exact ⟨Re, Bw⟩

def marginaliaref10_Safe.l0 : Nat → List ByteArray → ByteArray → Int → Option (Bool)
  | 0, _, _, _ => none
  | k + 1, x1, x5, x7 => if x7 < (x1.length : Int) then (if 0 ≤ x7 then (if (rdOf ByteArray.empty x1 x7).toList = x5.toList then (some true) else (marginaliaref10_Safe.l0 k x1 x5 (wrap64 (x7 + 1)))) else (none)) else (some false)
def marginaliaref10_Safe.f (k : Nat) (a0 : ByteArray) (l1 : List ByteArray) : Option (Bool) := (marginaliaref10_Of.f k a0).bind fun bt384 => (if bt384.2 = true then (marginaliaref10_Safe.l0 k l1 bt384.1 0) else (some true))
set_option maxHeartbeats 8000000 in
set_option maxRecDepth 100000 in
theorem marginaliaref10_Safe.calls (k : Nat) (a0 : ByteArray) (A1 : Option Addr) (c1 : Nat) (l1 : List ByteArray) (r : Bool) (w : World) (hr1 : Kd.C Kd.string w A1 l1.length l1) (hc1 : l1.length ≤ c1) (h : marginaliaref10_Safe.f k a0 l1 = some r) :
  Calls Tryd.prog 43 #[.string a0, .slice A1 l1.length c1] w fun e w' => e = .returned (.bool r) ∧ Below w.heap.size w w' := by
 have HR1 := Aside0.mk hr1
 have HC1 := Aside0.mk hc1
 clear hr1 hc1
 have HB := Aside0.mk (Below.refl w.heap.size w)
 have H := h
 clear h
 unfold marginaliaref10_Safe.f at H
 replace H := Option.bind_eq_some_iff.mp H
 obtain ⟨⟨t384, t385⟩, A30, H⟩ := H
 try dsimp -simprocs only at H
 have A3 := Aside0.mk A30
 clear A30
 by_cases c4 : t385 = true
 ·subst c4
  rw [if_pos rfl] at H
  have H' := Aside0.mk H
  clear H
  go_enter Tryd.func43, Tryd.ntmps43
  go_wp2_with (first | ((with_reducible refine gate_callee (f := 76) rfl ?_); refine goL (some 10) Tryd.func76 #[.string a0] ?_; (with_reducible refine (marginaliaref10_Of.calls k a0 t384 true _ A3.out).mono ?_); rintro e w5 ⟨rfl, hb⟩; refine ⟨_, rfl, ?_⟩; replace HB := Bs hb; clear hb))
  go_loopg [7] k (fun kq v7 w' => ∃ (x7_1 : Int), v7 = .int .i64 x7_1 ∧ Aside0 (marginaliaref10_Safe.l0 kq l1 t384 x7_1 = some r) ∧ Aside0 (kq ≤ k) ∧ Aside0 (Below w.heap.size w w'))
  case atStart => exact ⟨(0), Rs, H', ⟨Nat.le_refl _⟩, ⟨Bw⟩⟩
  case round =>
   clear H'
   try clear c1
   try clear p2
   try clear c4
   obtain ⟨x7_1, rfl, HA, HK1, HB⟩ := hrel
   cases gk with
   | zero => exact absurd HA.out (by simp [marginaliaref10_Safe.l0])
   | succ k1 =>
    have H := HA.out
    clear HA
    simp only [marginaliaref10_Safe.l0] at H
    by_cases c6 : x7_1 < (l1.length : Int)
    ·rw [if_pos c6] at H
     have c6b0 : decide (x7_1 < (l1.length : Int)) = true := decide_eq_true c6
     clear c6
     by_cases c7 : 0 ≤ x7_1
     ·rw [if_pos c7] at H
      have c7b0 : decide (0 ≤ x7_1) = true := decide_eq_true c7
      clear c7
      by_cases c8 : (rdOf ByteArray.empty l1 x7_1).toList = t384.toList
      ·rw [if_pos c8] at H
       have c8b0 : ((rdOf ByteArray.empty l1 x7_1).toList == t384.toList) = true := beq_iff_eq.mpr c8
       have c8b1 : ((rdOf ByteArray.empty l1 x7_1).toList != t384.toList) = false := bne_eq_false_iff_eq.mpr c8
       clear c8
       obtain rfl := Option.some.inj H
       have p386 : 0 ≤ (x7_1 : Int) := of_decide_eq_true Dt
       have q386 : x7_1 < (l1.length : Int) := of_decide_eq_true Dt
       obtain ⟨ad386, e386, hx386_0⟩ := Kd.at_string HR1.out x7_1 p386 q386
       cases e386
       replace hx386_0 := Hx hx386_0
       replace p386 := eq_true p386
       replace q386 := eq_true q386
       go_wp2
       go_ret
       exact ⟨Re, Bw⟩
      rw [if_neg c8] at H
      have c8b0 : ((rdOf ByteArray.empty l1 x7_1).toList == t384.toList) = false := beq_eq_false_iff_ne.mpr c8
      have c8b1 : ((rdOf ByteArray.empty l1 x7_1).toList != t384.toList) = true := bne_iff_ne.mpr c8
      have H' := Aside0.mk H
      clear H
      have p386 : 0 ≤ (x7_1 : Int) := of_decide_eq_true Dt
      have q386 : x7_1 < (l1.length : Int) := of_decide_eq_true Dt
      obtain ⟨ad386, e386, hx386_0⟩ := Kd.at_string HR1.out x7_1 p386 q386
      cases e386
      replace hx386_0 := Hx hx386_0
      replace p386 := eq_true p386
      replace q386 := eq_true q386
      go_wp2
      go_roundg k1
      case measure => have := HK1.out; omega
      case rel => exact ⟨(wrap64 (x7_1 + 1)), Rs, H', ⟨by have := HK1.out; omega⟩, ⟨Bw⟩⟩
     rw [if_neg c7] at H
     exact absurd H (by simp)
    rw [if_neg c6] at H
    have c6b0 : decide (x7_1 < (l1.length : Int)) = false := decide_eq_false c6
    clear c6
    obtain rfl := Option.some.inj H
    go_wp2
    go_ret
    exact ⟨Re, Bw⟩
 replace c4 := Bool.eq_false_iff.mpr c4
 subst c4
 rw [if_neg (show ¬ (false = true) by decide)] at H
 obtain rfl := Option.some.inj H
 go_enter Tryd.func43, Tryd.ntmps43
 go_wp2_with (first | ((with_reducible refine gate_callee (f := 76) rfl ?_); refine goL (some 10) Tryd.func76 #[.string a0] ?_; (with_reducible refine (marginaliaref10_Of.calls k a0 t384 false _ A3.out).mono ?_); rintro e w9 ⟨rfl, hb⟩; refine ⟨_, rfl, ?_⟩; replace HB := Bs hb; clear hb))
 go_ret
 exact ⟨Re, Bw⟩

def marginaliaref11_Attr.f (k : Nat) (l0_0 : List (S53)) (l0_1 : List ByteArray) (l0_2 : List ByteArray) (l0_3 : List ByteArray) (a0_4 : Int) (a1 : ByteArray) (a2_0 : ByteArray) (a2_1 : ByteArray) : Option (Bool) := (marginaliaref11_find.f k l0_0 l0_1 l0_2 l0_3 a0_4 a1).bind fun t389 => (if t389 ≥ 0 then (if 0 ≤ t389 then (if t389 < (l0_0.length : Int) then ((marginaliaref11_in.f k ((rd_T53 l0_0 t389).f1) a2_0).bind fun t391 => (if t391 = true then ((marginaliaref11_in.f k l0_1 a2_0).bind fun t392 => (if t392 = true then ((marginaliaref10_Safe.f k a2_1 l0_2).bind fun t393 => (some t393)) else (some true))) else (some false))) else (none)) else (none)) else (some false))
def marginaliaref11_Attr.T2 : Bool × List (List Nat × List Nat) := (true, [([], []), ([0], [0]), ([1], [1]), ([2], [2]), ([3, 2], [2, 3]), ([2], [2]), ([4, 5, 2], [2, 4, 5]), ([6, 2], [2, 6]), ([7, 2], [2, 7]), ([2], [2]), ([9, 2], [2, 9]), ([8, 10, 2, 2], [2, 8, 10]), ([2, 11], [2, 11]), ([12, 11], [12]), ([13], [13]), ([14, 13], [13, 14]), ([13], [13]), ([16, 13], [13, 16]), ([15, 17, 13, 13], [13, 15, 17]), ([18, 13], [13, 18]), ([19, 18, 13], [13, 19]), ([20], [20]), ([21, 20], [20, 21]), ([20], [20]), ([23, 20], [20, 23]), ([22, 24, 20, 20], [20, 22, 24]), ([20, 25, 13], [13, 20, 25]), ([13, 26], [13, 26]), ([27, 25, 0, 1, 2, 3, 4, 5, 6, 7, 8, 9, 10, 11, 12, 13, 14, 15, 16, 17, 18, 19, 20, 21, 22, 23, 24, 25, 26, 27], [27])])
def marginaliaref11_Attr.B2 : List Nat := [0, 1, 3, 7, 15, 7, 63, 127, 255, 7, 519, 2047, 4095, 8191, 16383, 32767, 16383, 81919, 262143, 524287, 1048575, 2097151, 4194303, 2097151, 10485759, 33554431, 67108863, 134217727, 268435455]
theorem marginaliaref11_Attr.tab2 : rtab .any (opsOf Tryd.f19 2) = marginaliaref11_Attr.T2 := by kernel_rfl
theorem marginaliaref11_Attr.bits2 : waitsOk marginaliaref11_Attr.T2.2 marginaliaref11_Attr.B2 = true := by kernel_rfl
set_option maxHeartbeats 8000000 in
set_option maxRecDepth 100000 in
theorem marginaliaref11_Attr.calls (k : Nat) (A0_0 : Option Addr) (c0_0 : Nat) (l0_0 : List (S53)) (A0_1 : Option Addr) (c0_1 : Nat) (l0_1 : List ByteArray) (A0_2 : Option Addr) (c0_2 : Nat) (l0_2 : List ByteArray) (A0_3 : Option Addr) (c0_3 : Nat) (l0_3 : List ByteArray) (a0_4 : Int) (a1 : ByteArray) (a2_0 : ByteArray) (a2_1 : ByteArray) (r : Bool) (w : World) (hr0_0 : Kd.C k53 w A0_0 l0_0.length l0_0) (hc0_0 : l0_0.length ≤ c0_0) (hr0_1 : Kd.C Kd.string w A0_1 l0_1.length l0_1) (hc0_1 : l0_1.length ≤ c0_1) (hr0_2 : Kd.C Kd.string w A0_2 l0_2.length l0_2) (hc0_2 : l0_2.length ≤ c0_2) (hr0_3 : Kd.C Kd.string w A0_3 l0_3.length l0_3) (hc0_3 : l0_3.length ≤ c0_3) (h : marginaliaref11_Attr.f k l0_0 l0_1 l0_2 l0_3 a0_4 a1 a2_0 a2_1 = some r) :
  Calls Tryd.prog 19 #[.agg #[.slice A0_0 l0_0.length c0_0, .slice A0_1 l0_1.length c0_1, .slice A0_2 l0_2.length c0_2, .slice A0_3 l0_3.length c0_3, .int .i64 a0_4], .string a1, .agg #[.string a2_0, .string a2_1]] w fun e w' => e = .returned (.bool r) ∧ Below w.heap.size w w' := by
 have hu25 := Tryd.underlying25
 have hu35 := Tryd.underlying35
 have HR0_0 := Aside0.mk hr0_0
 have HC0_0 := Aside0.mk hc0_0
 clear hr0_0 hc0_0
 have HR0_1 := Aside0.mk hr0_1
 have HC0_1 := Aside0.mk hc0_1
 clear hr0_1 hc0_1
 have HR0_2 := Aside0.mk hr0_2
 have HC0_2 := Aside0.mk hc0_2
 clear hr0_2 hc0_2
 have HR0_3 := Aside0.mk hr0_3
 have HC0_3 := Aside0.mk hc0_3
 clear hr0_3 hc0_3
 have HB := Aside0.mk (Below.refl w.heap.size w)
 have H := h
 clear h
 unfold marginaliaref11_Attr.f at H
 replace H := Option.bind_eq_some_iff.mp H
 obtain ⟨t389, A40, H⟩ := H
 try dsimp -simprocs only at H
 have A4 := Aside0.mk A40
 clear A40
 by_cases c5 : t389 ≥ 0
 ·rw [if_pos c5] at H
  have c5b0 : decide (0 ≤ t389) = true := decide_eq_true c5
  clear c5
  by_cases c6 : 0 ≤ t389
  ·rw [if_pos c6] at H
   have c6b0 : decide (0 ≤ t389) = true := decide_eq_true c6
   clear c6
   by_cases c7 : t389 < (l0_0.length : Int)
   ·rw [if_pos c7] at H
    have c7b0 : decide (t389 < (l0_0.length : Int)) = true := decide_eq_true c7
    clear c7
    replace H := Option.bind_eq_some_iff.mp H
    obtain ⟨t391, A80, H⟩ := H
    try dsimp -simprocs only at H
    have A8 := Aside0.mk A80
    clear A80
    by_cases c9 : t391 = true
    ·subst c9
     rw [if_pos rfl] at H
     replace H := Option.bind_eq_some_iff.mp H
     obtain ⟨t392, A100, H⟩ := H
     try dsimp -simprocs only at H
     have A10 := Aside0.mk A100
     clear A100
     by_cases c11 : t392 = true
     ·subst c11
      rw [if_pos rfl] at H
      replace H := Option.bind_eq_some_iff.mp H
      obtain ⟨t393, A120, H⟩ := H
      replace H : (some t393) = some r := H
      have A12 := Aside0.mk A120
      clear A120
      obtain rfl := Option.some.inj H
      go_enter Tryd.func19, Tryd.ntmps19
      try go_wp2_with (first | ((with_reducible refine gate_dst (N := 3) rfl ?_); refine box5 25 3 (cs := #[.slice A0_0 l0_0.length c0_0, .slice A0_1 l0_1.length c0_1, .slice A0_2 l0_2.length c0_2, .slice A0_3 l0_3.length c0_3, .int .i64 a0_4]) ?_; clear HB; intro gb387 w13 HB BK387 GE387) | ((with_reducible refine gate_dst (N := 5) rfl ?_); refine box_event ?hg (N := 5) ?hd (cs := #[.string a2_0, .string a2_1]) (t := 35) ?hr ?_; (case hd => rfl); (case hg => rfl); (case hr => first | (go_simp; done) | (go_simp; rfl)); intro gb388 hg w14 hbox hb; have n0_ := Bb BK387 hb; have n1_ := Bs hb; have n2_ := Aside0.mk (hbox); have n3_ := Aside0.mk (Gg hg); have n4_ := Aside0.mk (Gg hg); have n5_ := Aside0.mk ((by rw [hg]; exact Nat.ne_of_lt (blk_lt (g := gb387) (o := .cells #[.slice A0_0 l0_0.length c0_0, .slice A0_1 l0_1.length c0_1, .slice A0_2 l0_2.length c0_2, .slice A0_3 l0_3.length c0_3, .int .i64 a0_4] 25 (0, 0)) (Bk BK387)) : gb387 ≠ gb388)); have n6_ := Aside0.mk ((by rw [hg]; exact Nat.ne_of_gt (blk_lt (g := gb387) (o := .cells #[.slice A0_0 l0_0.length c0_0, .slice A0_1 l0_1.length c0_1, .slice A0_2 l0_2.length c0_2, .slice A0_3 l0_3.length c0_3, .int .i64 a0_4] 25 (0, 0)) (Bk BK387)) : gb388 ≠ gb387)); clear BK387; clear HB; have BK387 := n0_; have HB := n1_; have BK388 := n2_; have GW388 := n3_; have GE388 := n4_; have NB387_388 := n5_; have NB388_387 := n6_; clear n0_ n1_ n2_ n3_ n4_ n5_ n6_; clear hb hbox hg; have hnb15 := NB387_388.out; have hnc15 := NB388_387.out; obtain ⟨hcz16_0, hcz16_1, hcz16_2, hcz16_3, hcz16_4, hfz16_0, hfz16_1, hfz16_2, hfz16_3, hfz16_4⟩ := cells5 BK387) | ((with_reducible refine gate_callee (f := 41) rfl ?_); refine goL (some 10) Tryd.func41 #[.agg #[.slice A0_0 l0_0.length c0_0, .slice A0_1 l0_1.length c0_1, .slice A0_2 l0_2.length c0_2, .slice A0_3 l0_3.length c0_3, .int .i64 a0_4], .string a1] ?_; (with_reducible refine (marginaliaref11_find.calls k _ _ l0_0 _ _ l0_1 _ _ l0_2 _ _ l0_3 a0_4 a1 t389 _ (Cs HR0_0) HC0_0.out (Cs HR0_1) HC0_1.out (Cs HR0_2) HC0_2.out (Cs HR0_3) HC0_3.out A4.out).mono ?_); rintro e w17 ⟨rfl, hb⟩; refine ⟨_, rfl, ?_⟩; replace BK387 := Bb BK387 hb; replace BK388 := Bb BK388 hb; replace HB := Bs hb; clear hb))
      replace BK387 := Aside0.mk (blk_drew BK387.out)
      replace BK388 := Aside0.mk (blk_drew BK388.out)
      replace HB := Aside0.mk (below_drew1 HB.out)
      have p390 : 0 ≤ (t389 : Int) := of_decide_eq_true Dt
      have q390 : t389 < (l0_0.length : Int) := of_decide_eq_true Dt
      obtain ⟨ad390, A390_1, c390_1, e390, hx390_0, hx390_1, hl390_1, hi390_1⟩ := at_T53 HR0_0.out t389 p390 q390
      have hw390_1 := hx390_1
      have hw390_0 := hx390_0
      cases e390
      replace hx390_0 := Hx hx390_0
      replace hx390_1 := Hx hx390_1
      have HR390_1 := Aside0.mk hi390_1
      have HC390_1 := Aside0.mk hl390_1
      clear hi390_1 hl390_1
      replace p390 := eq_true p390
      replace q390 := eq_true q390
      refine start_ (n := 29) (S := fun w' => w'.cell? ⟨gb387, 0, none⟩ = some (.slice (some ad390) l0_0.length c0_0) ∧ w'.cell? ⟨gb387, 1, none⟩ = some (.slice A0_1 l0_1.length c0_1) ∧ w'.cell? ⟨gb387, 2, none⟩ = some (.slice A0_2 l0_2.length c0_2) ∧ w'.cell? ⟨gb387, 3, none⟩ = some (.slice A0_3 l0_3.length c0_3) ∧ w'.cell? ⟨gb387, 4, none⟩ = some (.int .i64 a0_4) ∧ w'.cell? ⟨gb388, 0, none⟩ = some (.string a2_0) ∧ w'.cell? ⟨gb388, 1, none⟩ = some (.string a2_1) ∧ w'.cell? (ad390.add ((t389).toNat * 2)) = some (.string ((rd_T53 l0_0 t389).f0)) ∧ w'.cell? ⟨(ad390.add ((t389).toNat * 2)).block, (ad390.add ((t389).toNat * 2)).off + 1, none⟩ = some (.slice A390_1 ((rd_T53 l0_0 t389).f1).length c390_1)) (ds := []) #[false, false, false, false, false, false, false, false, false, false, false, false, false, false, false, false, false, false, false, false, false, false, false, false, false, false, false, false, false] (by kernel_rfl) rfl rfl (and5 BK387 (and2 BK388 ⟨((HB.out.cell (World.block_lt_of_cell? w _ hw390_0)).trans hw390_0), ((HB.out.cell (World.block_lt_of_cell? w _ hw390_1)).trans hw390_1)⟩)) (fun hHeld => ?_); refine with_tabW marginaliaref11_Attr.tab2 marginaliaref11_Attr.bits2 (fun HT_ HW_ => ?_)
      generalize w17.drew = w18 at BK387 BK388 HB HR390_1 hx390_0 hx390_1 hHeld ⊢
      refine pureS 0 11 (bl 29 1) ?_
      refine pureS 1 12 (bl 29 3) ?_
      refine pureS 2 13 (bl 29 7) ?_
      refine pureS 3 14 (bl 29 15) ?_
      refine pureS 5 16 (bl 29 47) ?_
      refine pureS 9 20 (bl 29 559) ?_
      refine take_ (i := 4) (N := some 15) (v := ?_) (a' := ?_) (bl 29 575) rfl rfl (take_ofW HT_.out HW_.out (by kernel_rfl)) (fun _ _ _ h => h) (Or.inl ⟨by rfl, ?_⟩) hHeld ?_ ?_
      rotate_left
      ·rintro w' ⟨s0, s1, s2, s3, s4, s5, s6, s7, s8⟩
       go_simp
       with_reducible rfl
      rotate_left
      ·simp only [Act.put, List.setIfInBounds_toArray, List.set_cons_zero, List.set_cons_succ, i64_w, i32_w]
       rfl
      refine pureS 6 17 (bl 29 639) ?_
      refine pureS 7 18 (bl 29 767) ?_
      refine take_ (i := 8) (N := some 19) (v := ?_) (a' := ?_) (bl 29 1023) rfl rfl (take_ofW HT_.out HW_.out (by kernel_rfl)) (fun _ _ _ h => h) (Or.inl ⟨by rfl, ?_⟩) hHeld ?_ ?_
      rotate_left
      ·rintro w' ⟨s0, s1, s2, s3, s4, s5, s6, s7, s8⟩
       go_simp
       with_reducible rfl
      rotate_left
      ·simp only [Act.put, List.setIfInBounds_toArray, List.set_cons_zero, List.set_cons_succ, i64_w, i32_w]
       rfl
      refine take_ (i := 10) (N := some 21) (v := ?_) (a' := ?_) (bl 29 2047) rfl rfl (take_ofW HT_.out HW_.out (by kernel_rfl)) (fun _ _ _ h => h) (Or.inl ⟨by rfl, ?_⟩) hHeld ?_ ?_
      rotate_left
      ·rintro w' ⟨s0, s1, s2, s3, s4, s5, s6, s7, s8⟩
       go_simp
       with_reducible rfl
      rotate_left
      ·simp only [Act.put, List.setIfInBounds_toArray, List.set_cons_zero, List.set_cons_succ, i64_w, i32_w]
       rfl
      refine one_ (i := 11) (N := some 22) (bl 29 4095) rfl rfl (one_of HT_.out (by kernel_rfl)) (by decide) (fun K hK => ?_)
      refine goG Tryd.func35 #[.slice A390_1 ((rd_T53 l0_0 t389).f1).length c390_1, .string a2_0] ?_
      with_reducible refine (marginaliaref11_in.calls k _ _ ((rd_T53 l0_0 t389).f1) a2_0 true _ (Cs HR390_1) HC390_1.out A8.out).mono ?_
      rintro e w' ⟨rfl, ⟨nd, rfl⟩⟩
      refine ⟨_, rfl, ?_⟩
      refine hK.out _ _ (and5 BK387 (and2 BK388 ⟨((HB.out.cell (World.block_lt_of_cell? w _ hw390_0)).trans hw390_0), ((HB.out.cell (World.block_lt_of_cell? w _ hw390_1)).trans hw390_1)⟩)) (fun hHeld => ?_)
      clear hK K
      refine norm_ (a' := ?_) ?_ ?_
      rotate_left
      ·show Act.put _ (some 22) _ = _
       simp only [Act.put, List.setIfInBounds_toArray, List.set_cons_zero, List.set_cons_succ, i64_w, i32_w]
       rfl
      refine pureS 12 23 (bl 29 8191) ?_
      refine pureS 13 24 (bl 29 16383) ?_
      refine pureS 14 25 (bl 29 32767) ?_
      refine pureS 16 27 (bl 29 98303) ?_
      refine take_ (i := 15) (N := some 26) (v := ?_) (a' := ?_) (bl 29 131071) rfl rfl (take_ofW HT_.out HW_.out (by kernel_rfl)) (fun _ _ _ h => h) (Or.inl ⟨by rfl, ?_⟩) hHeld ?_ ?_
      rotate_left
      ·rintro w' ⟨s0, s1, s2, s3, s4, s5, s6, s7, s8⟩
       go_simp
       with_reducible rfl
      rotate_left
      ·simp only [Act.put, List.setIfInBounds_toArray, List.set_cons_zero, List.set_cons_succ, i64_w, i32_w]
       rfl
      refine take_ (i := 17) (N := some 28) (v := ?_) (a' := ?_) (bl 29 262143) rfl rfl (take_ofW HT_.out HW_.out (by kernel_rfl)) (fun _ _ _ h => h) (Or.inl ⟨by rfl, ?_⟩) hHeld ?_ ?_
      rotate_left
      ·rintro w' ⟨s0, s1, s2, s3, s4, s5, s6, s7, s8⟩
       go_simp
       with_reducible rfl
      rotate_left
      ·simp only [Act.put, List.setIfInBounds_toArray, List.set_cons_zero, List.set_cons_succ, i64_w, i32_w]
       rfl
      refine one_ (i := 18) (N := some 29) (bl 29 524287) rfl rfl (one_of HT_.out (by kernel_rfl)) (by decide) (fun K hK => ?_)
      refine goG Tryd.func35 #[.slice A0_1 l0_1.length c0_1, .string a2_0] ?_
      with_reducible refine (marginaliaref11_in.calls k _ _ l0_1 a2_0 true _ ?side1 HC0_1.out A10.out).mono ?_
      (case side1 => repeat (first | exact (Kd.C_below HR0_1.out Bw) | (with_reducible refine Kd.C_alloc ?_ _) | (with_reducible refine Kd.C_drewN ?_ _) | (with_reducible refine Kd.C_drew ?_)))
      rintro e w' ⟨rfl, ⟨nd, rfl⟩⟩
      refine ⟨_, rfl, ?_⟩
      refine hK.out _ _ (and5 BK387 (and2 BK388 ⟨((HB.out.cell (World.block_lt_of_cell? w _ hw390_0)).trans hw390_0), ((HB.out.cell (World.block_lt_of_cell? w _ hw390_1)).trans hw390_1)⟩)) (fun hHeld => ?_)
      clear hK K
      refine norm_ (a' := ?_) ?_ ?_
      rotate_left
      ·show Act.put _ (some 29) _ = _
       simp only [Act.put, List.setIfInBounds_toArray, List.set_cons_zero, List.set_cons_succ, i64_w, i32_w]
       rfl
      refine pureS 19 30 (bl 29 1048575) ?_
      refine pureS 20 31 (bl 29 2097151) ?_
      refine pureS 21 32 (bl 29 4194303) ?_
      refine pureS 23 34 (bl 29 12582911) ?_
      refine take_ (i := 22) (N := some 33) (v := ?_) (a' := ?_) (bl 29 16777215) rfl rfl (take_ofW HT_.out HW_.out (by kernel_rfl)) (fun _ _ _ h => h) (Or.inl ⟨by rfl, ?_⟩) hHeld ?_ ?_
      rotate_left
      ·rintro w' ⟨s0, s1, s2, s3, s4, s5, s6, s7, s8⟩
       go_simp
       with_reducible rfl
      rotate_left
      ·simp only [Act.put, List.setIfInBounds_toArray, List.set_cons_zero, List.set_cons_succ, i64_w, i32_w]
       rfl
      refine take_ (i := 24) (N := some 35) (v := ?_) (a' := ?_) (bl 29 33554431) rfl rfl (take_ofW HT_.out HW_.out (by kernel_rfl)) (fun _ _ _ h => h) (Or.inl ⟨by rfl, ?_⟩) hHeld ?_ ?_
      rotate_left
      ·rintro w' ⟨s0, s1, s2, s3, s4, s5, s6, s7, s8⟩
       go_simp
       with_reducible rfl
      rotate_left
      ·simp only [Act.put, List.setIfInBounds_toArray, List.set_cons_zero, List.set_cons_succ, i64_w, i32_w]
       rfl
      refine one_ (i := 25) (N := some 36) (bl 29 67108863) rfl rfl (one_of HT_.out (by kernel_rfl)) (by decide) (fun K hK => ?_)
      refine goG Tryd.func43 #[.string a2_1, .slice A0_2 l0_2.length c0_2] ?_
      with_reducible refine (marginaliaref10_Safe.calls k a2_1 _ _ l0_2 t393 _ ?side1 HC0_2.out A12.out).mono ?_
      (case side1 => repeat (first | exact (Kd.C_below HR0_2.out Bw) | (with_reducible refine Kd.C_alloc ?_ _) | (with_reducible refine Kd.C_drewN ?_ _) | (with_reducible refine Kd.C_drew ?_)))
      rintro e w19 ⟨rfl, hb⟩
      refine ⟨_, rfl, ?_⟩
      replace BK387 := Bb BK387 hb
      replace BK388 := Bb BK388 hb
      replace HB := Bs hb
      (try clear hb)
      (try clear hb2)
      (try clear hk)
      (try clear hi)
      refine hK.out _ _ (and5 BK387 (and2 BK388 ⟨((HB.out.cell (World.block_lt_of_cell? w _ hw390_0)).trans hw390_0), ((HB.out.cell (World.block_lt_of_cell? w _ hw390_1)).trans hw390_1)⟩)) (fun hHeld => ?_)
      clear hK K
      refine norm_ (a' := ?_) ?_ ?_
      rotate_left
      ·show Act.put _ (some 36) _ = _
       simp only [Act.put, List.setIfInBounds_toArray, List.set_cons_zero, List.set_cons_succ, i64_w, i32_w]
       rfl
      refine pureS 26 37 (bl 29 134217727) ?_
      refine pureS 27 38 (bl 29 268435455) ?_
      refine pureS 28 6 (bl 29 536870911) ?_
      refine done_ (done_of HT_.out (by kernel_rfl)) ?_
      try go_wp2
      go_ret
      exact ⟨Re, Bw⟩
     replace c11 := Bool.eq_false_iff.mpr c11
     subst c11
     rw [if_neg (show ¬ (false = true) by decide)] at H
     obtain rfl := Option.some.inj H
     go_enter Tryd.func19, Tryd.ntmps19
     try go_wp2_with (first | ((with_reducible refine gate_dst (N := 3) rfl ?_); refine box5 25 3 (cs := #[.slice A0_0 l0_0.length c0_0, .slice A0_1 l0_1.length c0_1, .slice A0_2 l0_2.length c0_2, .slice A0_3 l0_3.length c0_3, .int .i64 a0_4]) ?_; clear HB; intro gb387 w20 HB BK387 GE387) | ((with_reducible refine gate_dst (N := 5) rfl ?_); refine box_event ?hg (N := 5) ?hd (cs := #[.string a2_0, .string a2_1]) (t := 35) ?hr ?_; (case hd => rfl); (case hg => rfl); (case hr => first | (go_simp; done) | (go_simp; rfl)); intro gb388 hg w21 hbox hb; have n0_ := Bb BK387 hb; have n1_ := Bs hb; have n2_ := Aside0.mk (hbox); have n3_ := Aside0.mk (Gg hg); have n4_ := Aside0.mk (Gg hg); have n5_ := Aside0.mk ((by rw [hg]; exact Nat.ne_of_lt (blk_lt (g := gb387) (o := .cells #[.slice A0_0 l0_0.length c0_0, .slice A0_1 l0_1.length c0_1, .slice A0_2 l0_2.length c0_2, .slice A0_3 l0_3.length c0_3, .int .i64 a0_4] 25 (0, 0)) (Bk BK387)) : gb387 ≠ gb388)); have n6_ := Aside0.mk ((by rw [hg]; exact Nat.ne_of_gt (blk_lt (g := gb387) (o := .cells #[.slice A0_0 l0_0.length c0_0, .slice A0_1 l0_1.length c0_1, .slice A0_2 l0_2.length c0_2, .slice A0_3 l0_3.length c0_3, .int .i64 a0_4] 25 (0, 0)) (Bk BK387)) : gb388 ≠ gb387)); clear BK387; clear HB; have BK387 := n0_; have HB := n1_; have BK388 := n2_; have GW388 := n3_; have GE388 := n4_; have NB387_388 := n5_; have NB388_387 := n6_; clear n0_ n1_ n2_ n3_ n4_ n5_ n6_; clear hb hbox hg; have hnb22 := NB387_388.out; have hnc22 := NB388_387.out; obtain ⟨hcz23_0, hcz23_1, hcz23_2, hcz23_3, hcz23_4, hfz23_0, hfz23_1, hfz23_2, hfz23_3, hfz23_4⟩ := cells5 BK387) | ((with_reducible refine gate_callee (f := 41) rfl ?_); refine goL (some 10) Tryd.func41 #[.agg #[.slice A0_0 l0_0.length c0_0, .slice A0_1 l0_1.length c0_1, .slice A0_2 l0_2.length c0_2, .slice A0_3 l0_3.length c0_3, .int .i64 a0_4], .string a1] ?_; (with_reducible refine (marginaliaref11_find.calls k _ _ l0_0 _ _ l0_1 _ _ l0_2 _ _ l0_3 a0_4 a1 t389 _ (Cs HR0_0) HC0_0.out (Cs HR0_1) HC0_1.out (Cs HR0_2) HC0_2.out (Cs HR0_3) HC0_3.out A4.out).mono ?_); rintro e w24 ⟨rfl, hb⟩; refine ⟨_, rfl, ?_⟩; replace BK387 := Bb BK387 hb; replace BK388 := Bb BK388 hb; replace HB := Bs hb; clear hb))
     replace BK387 := Aside0.mk (blk_drew BK387.out)
     replace BK388 := Aside0.mk (blk_drew BK388.out)
     replace HB := Aside0.mk (below_drew1 HB.out)
     have p390 : 0 ≤ (t389 : Int) := of_decide_eq_true Dt
     have q390 : t389 < (l0_0.length : Int) := of_decide_eq_true Dt
     obtain ⟨ad390, A390_1, c390_1, e390, hx390_0, hx390_1, hl390_1, hi390_1⟩ := at_T53 HR0_0.out t389 p390 q390
     have hw390_1 := hx390_1
     have hw390_0 := hx390_0
     cases e390
     replace hx390_0 := Hx hx390_0
     replace hx390_1 := Hx hx390_1
     have HR390_1 := Aside0.mk hi390_1
     have HC390_1 := Aside0.mk hl390_1
     clear hi390_1 hl390_1
     replace p390 := eq_true p390
     replace q390 := eq_true q390
     refine start_ (n := 29) (S := fun w' => w'.cell? ⟨gb387, 0, none⟩ = some (.slice (some ad390) l0_0.length c0_0) ∧ w'.cell? ⟨gb387, 1, none⟩ = some (.slice A0_1 l0_1.length c0_1) ∧ w'.cell? ⟨gb387, 2, none⟩ = some (.slice A0_2 l0_2.length c0_2) ∧ w'.cell? ⟨gb387, 3, none⟩ = some (.slice A0_3 l0_3.length c0_3) ∧ w'.cell? ⟨gb387, 4, none⟩ = some (.int .i64 a0_4) ∧ w'.cell? ⟨gb388, 0, none⟩ = some (.string a2_0) ∧ w'.cell? ⟨gb388, 1, none⟩ = some (.string a2_1) ∧ w'.cell? (ad390.add ((t389).toNat * 2)) = some (.string ((rd_T53 l0_0 t389).f0)) ∧ w'.cell? ⟨(ad390.add ((t389).toNat * 2)).block, (ad390.add ((t389).toNat * 2)).off + 1, none⟩ = some (.slice A390_1 ((rd_T53 l0_0 t389).f1).length c390_1)) (ds := []) #[false, false, false, false, false, false, false, false, false, false, false, false, false, false, false, false, false, false, false, false, false, false, false, false, false, false, false, false, false] (by kernel_rfl) rfl rfl (and5 BK387 (and2 BK388 ⟨((HB.out.cell (World.block_lt_of_cell? w _ hw390_0)).trans hw390_0), ((HB.out.cell (World.block_lt_of_cell? w _ hw390_1)).trans hw390_1)⟩)) (fun hHeld => ?_); refine with_tabW marginaliaref11_Attr.tab2 marginaliaref11_Attr.bits2 (fun HT_ HW_ => ?_)
     generalize w24.drew = w25 at BK387 BK388 HB HR390_1 hx390_0 hx390_1 hHeld ⊢
     refine pureS 0 11 (bl 29 1) ?_
     refine pureS 1 12 (bl 29 3) ?_
     refine pureS 2 13 (bl 29 7) ?_
     refine pureS 3 14 (bl 29 15) ?_
     refine pureS 5 16 (bl 29 47) ?_
     refine pureS 9 20 (bl 29 559) ?_
     refine take_ (i := 4) (N := some 15) (v := ?_) (a' := ?_) (bl 29 575) rfl rfl (take_ofW HT_.out HW_.out (by kernel_rfl)) (fun _ _ _ h => h) (Or.inl ⟨by rfl, ?_⟩) hHeld ?_ ?_
     rotate_left
     ·rintro w' ⟨s0, s1, s2, s3, s4, s5, s6, s7, s8⟩
      go_simp
      with_reducible rfl
     rotate_left
     ·simp only [Act.put, List.setIfInBounds_toArray, List.set_cons_zero, List.set_cons_succ, i64_w, i32_w]
      rfl
     refine pureS 6 17 (bl 29 639) ?_
     refine pureS 7 18 (bl 29 767) ?_
     refine take_ (i := 8) (N := some 19) (v := ?_) (a' := ?_) (bl 29 1023) rfl rfl (take_ofW HT_.out HW_.out (by kernel_rfl)) (fun _ _ _ h => h) (Or.inl ⟨by rfl, ?_⟩) hHeld ?_ ?_
     rotate_left
     ·rintro w' ⟨s0, s1, s2, s3, s4, s5, s6, s7, s8⟩
      go_simp
      with_reducible rfl
     rotate_left
     ·simp only [Act.put, List.setIfInBounds_toArray, List.set_cons_zero, List.set_cons_succ, i64_w, i32_w]
      rfl
     refine take_ (i := 10) (N := some 21) (v := ?_) (a' := ?_) (bl 29 2047) rfl rfl (take_ofW HT_.out HW_.out (by kernel_rfl)) (fun _ _ _ h => h) (Or.inl ⟨by rfl, ?_⟩) hHeld ?_ ?_
     rotate_left
     ·rintro w' ⟨s0, s1, s2, s3, s4, s5, s6, s7, s8⟩
      go_simp
      with_reducible rfl
     rotate_left
     ·simp only [Act.put, List.setIfInBounds_toArray, List.set_cons_zero, List.set_cons_succ, i64_w, i32_w]
      rfl
     refine one_ (i := 11) (N := some 22) (bl 29 4095) rfl rfl (one_of HT_.out (by kernel_rfl)) (by decide) (fun K hK => ?_)
     refine goG Tryd.func35 #[.slice A390_1 ((rd_T53 l0_0 t389).f1).length c390_1, .string a2_0] ?_
     with_reducible refine (marginaliaref11_in.calls k _ _ ((rd_T53 l0_0 t389).f1) a2_0 true _ (Cs HR390_1) HC390_1.out A8.out).mono ?_
     rintro e w' ⟨rfl, ⟨nd, rfl⟩⟩
     refine ⟨_, rfl, ?_⟩
     refine hK.out _ _ (and5 BK387 (and2 BK388 ⟨((HB.out.cell (World.block_lt_of_cell? w _ hw390_0)).trans hw390_0), ((HB.out.cell (World.block_lt_of_cell? w _ hw390_1)).trans hw390_1)⟩)) (fun hHeld => ?_)
     clear hK K
     refine norm_ (a' := ?_) ?_ ?_
     rotate_left
     ·show Act.put _ (some 22) _ = _
      simp only [Act.put, List.setIfInBounds_toArray, List.set_cons_zero, List.set_cons_succ, i64_w, i32_w]
      rfl
     refine pureS 12 23 (bl 29 8191) ?_
     refine pureS 13 24 (bl 29 16383) ?_
     refine pureS 14 25 (bl 29 32767) ?_
     refine pureS 16 27 (bl 29 98303) ?_
     refine take_ (i := 15) (N := some 26) (v := ?_) (a' := ?_) (bl 29 131071) rfl rfl (take_ofW HT_.out HW_.out (by kernel_rfl)) (fun _ _ _ h => h) (Or.inl ⟨by rfl, ?_⟩) hHeld ?_ ?_
     rotate_left
     ·rintro w' ⟨s0, s1, s2, s3, s4, s5, s6, s7, s8⟩
      go_simp
      with_reducible rfl
     rotate_left
     ·simp only [Act.put, List.setIfInBounds_toArray, List.set_cons_zero, List.set_cons_succ, i64_w, i32_w]
      rfl
     refine take_ (i := 17) (N := some 28) (v := ?_) (a' := ?_) (bl 29 262143) rfl rfl (take_ofW HT_.out HW_.out (by kernel_rfl)) (fun _ _ _ h => h) (Or.inl ⟨by rfl, ?_⟩) hHeld ?_ ?_
     rotate_left
     ·rintro w' ⟨s0, s1, s2, s3, s4, s5, s6, s7, s8⟩
      go_simp
      with_reducible rfl
     rotate_left
     ·simp only [Act.put, List.setIfInBounds_toArray, List.set_cons_zero, List.set_cons_succ, i64_w, i32_w]
      rfl
     refine one_ (i := 18) (N := some 29) (bl 29 524287) rfl rfl (one_of HT_.out (by kernel_rfl)) (by decide) (fun K hK => ?_)
     refine goG Tryd.func35 #[.slice A0_1 l0_1.length c0_1, .string a2_0] ?_
     with_reducible refine (marginaliaref11_in.calls k _ _ l0_1 a2_0 false _ ?side1 HC0_1.out A10.out).mono ?_
     (case side1 => repeat (first | exact (Kd.C_below HR0_1.out Bw) | (with_reducible refine Kd.C_alloc ?_ _) | (with_reducible refine Kd.C_drewN ?_ _) | (with_reducible refine Kd.C_drew ?_)))
     rintro e w' ⟨rfl, ⟨nd, rfl⟩⟩
     refine ⟨_, rfl, ?_⟩
     refine hK.out _ _ (and5 BK387 (and2 BK388 ⟨((HB.out.cell (World.block_lt_of_cell? w _ hw390_0)).trans hw390_0), ((HB.out.cell (World.block_lt_of_cell? w _ hw390_1)).trans hw390_1)⟩)) (fun hHeld => ?_)
     clear hK K
     refine norm_ (a' := ?_) ?_ ?_
     rotate_left
     ·show Act.put _ (some 29) _ = _
      simp only [Act.put, List.setIfInBounds_toArray, List.set_cons_zero, List.set_cons_succ, i64_w, i32_w]
      rfl
     refine pureS 19 30 (bl 29 1048575) ?_
     refine pureS 20 31 (bl 29 2097151) ?_
     refine pureU 21 32 (bl 29 4194303) ?_
     refine pureU 22 33 (bl 29 8388607) ?_
     refine pureU 23 34 (bl 29 16777215) ?_
     refine pureU 24 35 (bl 29 33554431) ?_
     refine pureU 25 36 (bl 29 67108863) ?_
     refine pureS 26 37 (bl 29 134217727) ?_
     refine pureS 27 38 (bl 29 268435455) ?_
     refine pureS 28 6 (bl 29 536870911) ?_
     refine done_ (done_of HT_.out (by kernel_rfl)) ?_
     try go_wp2
     go_ret
     exact ⟨Re, Bw⟩
    replace c9 := Bool.eq_false_iff.mpr c9
    subst c9
    rw [if_neg (show ¬ (false = true) by decide)] at H
    obtain rfl := Option.some.inj H
    go_enter Tryd.func19, Tryd.ntmps19
    try go_wp2_with (first | ((with_reducible refine gate_dst (N := 3) rfl ?_); refine box5 25 3 (cs := #[.slice A0_0 l0_0.length c0_0, .slice A0_1 l0_1.length c0_1, .slice A0_2 l0_2.length c0_2, .slice A0_3 l0_3.length c0_3, .int .i64 a0_4]) ?_; clear HB; intro gb387 w26 HB BK387 GE387) | ((with_reducible refine gate_dst (N := 5) rfl ?_); refine box_event ?hg (N := 5) ?hd (cs := #[.string a2_0, .string a2_1]) (t := 35) ?hr ?_; (case hd => rfl); (case hg => rfl); (case hr => first | (go_simp; done) | (go_simp; rfl)); intro gb388 hg w27 hbox hb; have n0_ := Bb BK387 hb; have n1_ := Bs hb; have n2_ := Aside0.mk (hbox); have n3_ := Aside0.mk (Gg hg); have n4_ := Aside0.mk (Gg hg); have n5_ := Aside0.mk ((by rw [hg]; exact Nat.ne_of_lt (blk_lt (g := gb387) (o := .cells #[.slice A0_0 l0_0.length c0_0, .slice A0_1 l0_1.length c0_1, .slice A0_2 l0_2.length c0_2, .slice A0_3 l0_3.length c0_3, .int .i64 a0_4] 25 (0, 0)) (Bk BK387)) : gb387 ≠ gb388)); have n6_ := Aside0.mk ((by rw [hg]; exact Nat.ne_of_gt (blk_lt (g := gb387) (o := .cells #[.slice A0_0 l0_0.length c0_0, .slice A0_1 l0_1.length c0_1, .slice A0_2 l0_2.length c0_2, .slice A0_3 l0_3.length c0_3, .int .i64 a0_4] 25 (0, 0)) (Bk BK387)) : gb388 ≠ gb387)); clear BK387; clear HB; have BK387 := n0_; have HB := n1_; have BK388 := n2_; have GW388 := n3_; have GE388 := n4_; have NB387_388 := n5_; have NB388_387 := n6_; clear n0_ n1_ n2_ n3_ n4_ n5_ n6_; clear hb hbox hg; have hnb28 := NB387_388.out; have hnc28 := NB388_387.out; obtain ⟨hcz29_0, hcz29_1, hcz29_2, hcz29_3, hcz29_4, hfz29_0, hfz29_1, hfz29_2, hfz29_3, hfz29_4⟩ := cells5 BK387) | ((with_reducible refine gate_callee (f := 41) rfl ?_); refine goL (some 10) Tryd.func41 #[.agg #[.slice A0_0 l0_0.length c0_0, .slice A0_1 l0_1.length c0_1, .slice A0_2 l0_2.length c0_2, .slice A0_3 l0_3.length c0_3, .int .i64 a0_4], .string a1] ?_; (with_reducible refine (marginaliaref11_find.calls k _ _ l0_0 _ _ l0_1 _ _ l0_2 _ _ l0_3 a0_4 a1 t389 _ (Cs HR0_0) HC0_0.out (Cs HR0_1) HC0_1.out (Cs HR0_2) HC0_2.out (Cs HR0_3) HC0_3.out A4.out).mono ?_); rintro e w30 ⟨rfl, hb⟩; refine ⟨_, rfl, ?_⟩; replace BK387 := Bb BK387 hb; replace BK388 := Bb BK388 hb; replace HB := Bs hb; clear hb))
    replace BK387 := Aside0.mk (blk_drew BK387.out)
    replace BK388 := Aside0.mk (blk_drew BK388.out)
    replace HB := Aside0.mk (below_drew1 HB.out)
    have p390 : 0 ≤ (t389 : Int) := of_decide_eq_true Dt
    have q390 : t389 < (l0_0.length : Int) := of_decide_eq_true Dt
    obtain ⟨ad390, A390_1, c390_1, e390, hx390_0, hx390_1, hl390_1, hi390_1⟩ := at_T53 HR0_0.out t389 p390 q390
    have hw390_1 := hx390_1
    have hw390_0 := hx390_0
    cases e390
    replace hx390_0 := Hx hx390_0
    replace hx390_1 := Hx hx390_1
    have HR390_1 := Aside0.mk hi390_1
    have HC390_1 := Aside0.mk hl390_1
    clear hi390_1 hl390_1
    replace p390 := eq_true p390
    replace q390 := eq_true q390
    refine start_ (n := 29) (S := fun w' => w'.cell? ⟨gb387, 0, none⟩ = some (.slice (some ad390) l0_0.length c0_0) ∧ w'.cell? ⟨gb387, 1, none⟩ = some (.slice A0_1 l0_1.length c0_1) ∧ w'.cell? ⟨gb387, 2, none⟩ = some (.slice A0_2 l0_2.length c0_2) ∧ w'.cell? ⟨gb387, 3, none⟩ = some (.slice A0_3 l0_3.length c0_3) ∧ w'.cell? ⟨gb387, 4, none⟩ = some (.int .i64 a0_4) ∧ w'.cell? ⟨gb388, 0, none⟩ = some (.string a2_0) ∧ w'.cell? ⟨gb388, 1, none⟩ = some (.string a2_1) ∧ w'.cell? (ad390.add ((t389).toNat * 2)) = some (.string ((rd_T53 l0_0 t389).f0)) ∧ w'.cell? ⟨(ad390.add ((t389).toNat * 2)).block, (ad390.add ((t389).toNat * 2)).off + 1, none⟩ = some (.slice A390_1 ((rd_T53 l0_0 t389).f1).length c390_1)) (ds := []) #[false, false, false, false, false, false, false, false, false, false, false, false, false, false, false, false, false, false, false, false, false, false, false, false, false, false, false, false, false] (by kernel_rfl) rfl rfl (and5 BK387 (and2 BK388 ⟨((HB.out.cell (World.block_lt_of_cell? w _ hw390_0)).trans hw390_0), ((HB.out.cell (World.block_lt_of_cell? w _ hw390_1)).trans hw390_1)⟩)) (fun hHeld => ?_); refine with_tabW marginaliaref11_Attr.tab2 marginaliaref11_Attr.bits2 (fun HT_ HW_ => ?_)
    generalize w30.drew = w31 at BK387 BK388 HB HR390_1 hx390_0 hx390_1 hHeld ⊢
    refine pureS 0 11 (bl 29 1) ?_
    refine pureS 1 12 (bl 29 3) ?_
    refine pureS 2 13 (bl 29 7) ?_
    refine pureS 3 14 (bl 29 15) ?_
    refine pureS 5 16 (bl 29 47) ?_
    refine pureS 9 20 (bl 29 559) ?_
    refine take_ (i := 4) (N := some 15) (v := ?_) (a' := ?_) (bl 29 575) rfl rfl (take_ofW HT_.out HW_.out (by kernel_rfl)) (fun _ _ _ h => h) (Or.inl ⟨by rfl, ?_⟩) hHeld ?_ ?_
    rotate_left
    ·rintro w' ⟨s0, s1, s2, s3, s4, s5, s6, s7, s8⟩
     go_simp
     with_reducible rfl
    rotate_left
    ·simp only [Act.put, List.setIfInBounds_toArray, List.set_cons_zero, List.set_cons_succ, i64_w, i32_w]
     rfl
    refine pureS 6 17 (bl 29 639) ?_
    refine pureS 7 18 (bl 29 767) ?_
    refine take_ (i := 8) (N := some 19) (v := ?_) (a' := ?_) (bl 29 1023) rfl rfl (take_ofW HT_.out HW_.out (by kernel_rfl)) (fun _ _ _ h => h) (Or.inl ⟨by rfl, ?_⟩) hHeld ?_ ?_
    rotate_left
    ·rintro w' ⟨s0, s1, s2, s3, s4, s5, s6, s7, s8⟩
     go_simp
     with_reducible rfl
    rotate_left
    ·simp only [Act.put, List.setIfInBounds_toArray, List.set_cons_zero, List.set_cons_succ, i64_w, i32_w]
     rfl
    refine take_ (i := 10) (N := some 21) (v := ?_) (a' := ?_) (bl 29 2047) rfl rfl (take_ofW HT_.out HW_.out (by kernel_rfl)) (fun _ _ _ h => h) (Or.inl ⟨by rfl, ?_⟩) hHeld ?_ ?_
    rotate_left
    ·rintro w' ⟨s0, s1, s2, s3, s4, s5, s6, s7, s8⟩
     go_simp
     with_reducible rfl
    rotate_left
    ·simp only [Act.put, List.setIfInBounds_toArray, List.set_cons_zero, List.set_cons_succ, i64_w, i32_w]
     rfl
    refine one_ (i := 11) (N := some 22) (bl 29 4095) rfl rfl (one_of HT_.out (by kernel_rfl)) (by decide) (fun K hK => ?_)
    refine goG Tryd.func35 #[.slice A390_1 ((rd_T53 l0_0 t389).f1).length c390_1, .string a2_0] ?_
    with_reducible refine (marginaliaref11_in.calls k _ _ ((rd_T53 l0_0 t389).f1) a2_0 false _ (Cs HR390_1) HC390_1.out A8.out).mono ?_
    rintro e w' ⟨rfl, ⟨nd, rfl⟩⟩
    refine ⟨_, rfl, ?_⟩
    refine hK.out _ _ (and5 BK387 (and2 BK388 ⟨((HB.out.cell (World.block_lt_of_cell? w _ hw390_0)).trans hw390_0), ((HB.out.cell (World.block_lt_of_cell? w _ hw390_1)).trans hw390_1)⟩)) (fun hHeld => ?_)
    clear hK K
    refine norm_ (a' := ?_) ?_ ?_
    rotate_left
    ·show Act.put _ (some 22) _ = _
     simp only [Act.put, List.setIfInBounds_toArray, List.set_cons_zero, List.set_cons_succ, i64_w, i32_w]
     rfl
    refine pureS 12 23 (bl 29 8191) ?_
    refine pureS 13 24 (bl 29 16383) ?_
    refine pureU 14 25 (bl 29 32767) ?_
    refine pureU 15 26 (bl 29 65535) ?_
    refine pureU 16 27 (bl 29 131071) ?_
    refine pureU 17 28 (bl 29 262143) ?_
    refine pureU 18 29 (bl 29 524287) ?_
    refine pureU 19 30 (bl 29 1048575) ?_
    refine pureU 20 31 (bl 29 2097151) ?_
    refine pureU 21 32 (bl 29 4194303) ?_
    refine pureU 22 33 (bl 29 8388607) ?_
    refine pureU 23 34 (bl 29 16777215) ?_
    refine pureU 24 35 (bl 29 33554431) ?_
    refine pureU 25 36 (bl 29 67108863) ?_
    refine pureU 26 37 (bl 29 134217727) ?_
    refine pureS 27 38 (bl 29 268435455) ?_
    refine pureS 28 6 (bl 29 536870911) ?_
    refine done_ (done_of HT_.out (by kernel_rfl)) ?_
    try go_wp2
    go_ret
    exact ⟨Re, Bw⟩
   rw [if_neg c7] at H
   exact absurd H (by simp)
  rw [if_neg c6] at H
  exact absurd H (by simp)
 rw [if_neg c5] at H
 have c5b0 : decide (0 ≤ t389) = false := decide_eq_false c5
 clear c5
 obtain rfl := Option.some.inj H
 go_enter Tryd.func19, Tryd.ntmps19
 try go_wp2_with (first | ((with_reducible refine gate_dst (N := 3) rfl ?_); refine box5 25 3 (cs := #[.slice A0_0 l0_0.length c0_0, .slice A0_1 l0_1.length c0_1, .slice A0_2 l0_2.length c0_2, .slice A0_3 l0_3.length c0_3, .int .i64 a0_4]) ?_; clear HB; intro gb387 w32 HB BK387 GE387) | ((with_reducible refine gate_dst (N := 5) rfl ?_); refine box_event ?hg (N := 5) ?hd (cs := #[.string a2_0, .string a2_1]) (t := 35) ?hr ?_; (case hd => rfl); (case hg => rfl); (case hr => first | (go_simp; done) | (go_simp; rfl)); intro gb388 hg w33 hbox hb; have n0_ := Bb BK387 hb; have n1_ := Bs hb; have n2_ := Aside0.mk (hbox); have n3_ := Aside0.mk (Gg hg); have n4_ := Aside0.mk (Gg hg); have n5_ := Aside0.mk ((by rw [hg]; exact Nat.ne_of_lt (blk_lt (g := gb387) (o := .cells #[.slice A0_0 l0_0.length c0_0, .slice A0_1 l0_1.length c0_1, .slice A0_2 l0_2.length c0_2, .slice A0_3 l0_3.length c0_3, .int .i64 a0_4] 25 (0, 0)) (Bk BK387)) : gb387 ≠ gb388)); have n6_ := Aside0.mk ((by rw [hg]; exact Nat.ne_of_gt (blk_lt (g := gb387) (o := .cells #[.slice A0_0 l0_0.length c0_0, .slice A0_1 l0_1.length c0_1, .slice A0_2 l0_2.length c0_2, .slice A0_3 l0_3.length c0_3, .int .i64 a0_4] 25 (0, 0)) (Bk BK387)) : gb388 ≠ gb387)); clear BK387; clear HB; have BK387 := n0_; have HB := n1_; have BK388 := n2_; have GW388 := n3_; have GE388 := n4_; have NB387_388 := n5_; have NB388_387 := n6_; clear n0_ n1_ n2_ n3_ n4_ n5_ n6_; clear hb hbox hg; have hnb34 := NB387_388.out; have hnc34 := NB388_387.out; obtain ⟨hcz35_0, hcz35_1, hcz35_2, hcz35_3, hcz35_4, hfz35_0, hfz35_1, hfz35_2, hfz35_3, hfz35_4⟩ := cells5 BK387) | ((with_reducible refine gate_callee (f := 41) rfl ?_); refine goL (some 10) Tryd.func41 #[.agg #[.slice A0_0 l0_0.length c0_0, .slice A0_1 l0_1.length c0_1, .slice A0_2 l0_2.length c0_2, .slice A0_3 l0_3.length c0_3, .int .i64 a0_4], .string a1] ?_; (with_reducible refine (marginaliaref11_find.calls k _ _ l0_0 _ _ l0_1 _ _ l0_2 _ _ l0_3 a0_4 a1 t389 _ (Cs HR0_0) HC0_0.out (Cs HR0_1) HC0_1.out (Cs HR0_2) HC0_2.out (Cs HR0_3) HC0_3.out A4.out).mono ?_); rintro e w36 ⟨rfl, hb⟩; refine ⟨_, rfl, ?_⟩; replace BK387 := Bb BK387 hb; replace BK388 := Bb BK388 hb; replace HB := Bs hb; clear hb))
 replace BK387 := Aside0.mk (blk_drew BK387.out)
 replace BK388 := Aside0.mk (blk_drew BK388.out)
 replace HB := Aside0.mk (below_drew1 HB.out)
 refine start_ (n := 29) (S := fun w' => True) (ds := []) #[false, false, false, false, false, false, false, false, false, false, false, false, false, false, false, false, false, false, false, false, false, false, false, false, false, false, false, false, false] (by kernel_rfl) rfl rfl trivial (fun hHeld => ?_); refine with_tabW marginaliaref11_Attr.tab2 marginaliaref11_Attr.bits2 (fun HT_ HW_ => ?_)
 generalize w36.drew = w37 at BK387 BK388 HB hHeld ⊢
 refine pureS 0 11 (bl 29 1) ?_
 refine pureS 1 12 (bl 29 3) ?_
 refine pureS 2 13 (bl 29 7) ?_
 refine pureU 3 14 (bl 29 15) ?_
 refine pureU 4 15 (bl 29 31) ?_
 refine pureU 5 16 (bl 29 63) ?_
 refine pureU 6 17 (bl 29 127) ?_
 refine pureU 7 18 (bl 29 255) ?_
 refine pureU 8 19 (bl 29 511) ?_
 refine pureU 9 20 (bl 29 1023) ?_
 refine pureU 10 21 (bl 29 2047) ?_
 refine pureU 11 22 (bl 29 4095) ?_
 refine pureS 12 23 (bl 29 8191) ?_
 refine pureS 13 24 (bl 29 16383) ?_
 refine pureU 14 25 (bl 29 32767) ?_
 refine pureU 15 26 (bl 29 65535) ?_
 refine pureU 16 27 (bl 29 131071) ?_
 refine pureU 17 28 (bl 29 262143) ?_
 refine pureU 18 29 (bl 29 524287) ?_
 refine pureU 19 30 (bl 29 1048575) ?_
 refine pureU 20 31 (bl 29 2097151) ?_
 refine pureU 21 32 (bl 29 4194303) ?_
 refine pureU 22 33 (bl 29 8388607) ?_
 refine pureU 23 34 (bl 29 16777215) ?_
 refine pureU 24 35 (bl 29 33554431) ?_
 refine pureU 25 36 (bl 29 67108863) ?_
 refine pureU 26 37 (bl 29 134217727) ?_
 refine pureS 27 38 (bl 29 268435455) ?_
 refine pureS 28 6 (bl 29 536870911) ?_
 refine done_ (done_of HT_.out (by kernel_rfl)) ?_
 try go_wp2
 go_ret
 exact ⟨Re, Bw⟩

noncomputable def marginalialaw11_PolicyLets.j0 : Nat → ByteArray → Bool → List (S53) → List ByteArray → List ByteArray → List ByteArray → Int → ByteArray → ByteArray → Option (Bool)
  | 0, _, _, _, _, _, _, _, _, _ => none
  | k + 1, x1, x26, x395000, x395001, x395002, x395003, x395004, x396000, x396001 => if x26 = true then ((marginalialaw11_alive.f k).bind fun t397 => (some t397)) else ((marginalialaw11_alive.f k).bind fun t398 => (if t398 = true then ((policy_Element.f k x395000 x395001 x395002 x395003 x395004 x1).bind fun t399 => ((marginaliaref11_Element.f k x395000 x395001 x395002 x395003 x395004 x1).bind fun t400 => (if (t399 == t400) = true then ((policy_Attr.f k x395000 x395001 x395002 x395003 x395004 x1 x396000 x396001).bind fun t401 => ((marginaliaref11_Attr.f k x395000 x395001 x395002 x395003 x395004 x1 x396000 x396001).bind fun t402 => (some (t401 == t402)))) else (some false)))) else (some false)))
noncomputable def marginalialaw11_PolicyLets.f (k : Nat) (l0_0 : List (S53)) (l0_1 : List ByteArray) (l0_2 : List ByteArray) (l0_3 : List ByteArray) (a0_4 : Int) (a1 : ByteArray) (a2_0 : ByteArray) (a2_1 : ByteArray) : Option (Bool) := (marginaliaref11_Small.f k l0_0 l0_1 l0_2 l0_3 a0_4).bind fun t396 => (if t396 = true then (if (a1.size : Int) > 1000 then (marginalialaw11_PolicyLets.j0 k a1 true l0_0 l0_1 l0_2 l0_3 a0_4 a2_0 a2_1) else (if (a2_0.size : Int) > 1000 then (marginalialaw11_PolicyLets.j0 k a1 true l0_0 l0_1 l0_2 l0_3 a0_4 a2_0 a2_1) else (marginalialaw11_PolicyLets.j0 k a1 (decide ((a2_1.size : Int) > 1000)) l0_0 l0_1 l0_2 l0_3 a0_4 a2_0 a2_1))) else (marginalialaw11_PolicyLets.j0 k a1 true l0_0 l0_1 l0_2 l0_3 a0_4 a2_0 a2_1))
noncomputable def marginalialaw11_PolicyLets.T3 : Bool × List (List Nat × List Nat) := (true, [([], []), ([0, 0], [0]), ([1], [1]), ([1], [1]), ([2, 3, 1, 1], [1, 2, 3]), ([1], [1]), ([1], [1]), ([5, 6, 4, 1], [1, 5, 6]), ([4, 7, 1], [1, 4, 7]), ([1, 8], [1, 8]), ([9, 7], [9]), ([10], [10]), ([10], [10]), ([10], [10]), ([11, 12, 13, 10, 10], [10, 11, 12, 13]), ([10], [10]), ([10], [10]), ([10], [10]), ([15, 16, 17, 14, 10], [10, 15, 16, 17]), ([14, 18, 10], [10, 14, 18]), ([10, 19], [10, 19]), ([20, 18, 0, 1, 2, 3, 4, 5, 6, 7, 8, 9, 10, 11, 12, 13, 14, 15, 16, 17, 18, 19, 20], [20])])
noncomputable def marginalialaw11_PolicyLets.B3 : List Nat := [0, 1, 3, 3, 15, 3, 3, 127, 255, 511, 1023, 2047, 2047, 2047, 16383, 2047, 2047, 2047, 262143, 524287, 1048575, 2097151]
theorem marginalialaw11_PolicyLets.tab3 : rtab .any (opsOf Tryd.f5 3) = marginalialaw11_PolicyLets.T3 := by kernel_rfl
theorem marginalialaw11_PolicyLets.bits3 : waitsOk marginalialaw11_PolicyLets.T3.2 marginalialaw11_PolicyLets.B3 = true := by kernel_rfl
set_option maxHeartbeats 8000000 in
set_option maxRecDepth 100000 in
theorem marginalialaw11_PolicyLets.calls (k : Nat) (A0_0 : Option Addr) (c0_0 : Nat) (l0_0 : List (S53)) (A0_1 : Option Addr) (c0_1 : Nat) (l0_1 : List ByteArray) (A0_2 : Option Addr) (c0_2 : Nat) (l0_2 : List ByteArray) (A0_3 : Option Addr) (c0_3 : Nat) (l0_3 : List ByteArray) (a0_4 : Int) (a1 : ByteArray) (a2_0 : ByteArray) (a2_1 : ByteArray) (r : Bool) (w : World) (hr0_0 : Kd.C k53 w A0_0 l0_0.length l0_0) (hc0_0 : l0_0.length ≤ c0_0) (hr0_1 : Kd.C Kd.string w A0_1 l0_1.length l0_1) (hc0_1 : l0_1.length ≤ c0_1) (hr0_2 : Kd.C Kd.string w A0_2 l0_2.length l0_2) (hc0_2 : l0_2.length ≤ c0_2) (hr0_3 : Kd.C Kd.string w A0_3 l0_3.length l0_3) (hc0_3 : l0_3.length ≤ c0_3) (m_ : Int) (hm_ : w.cell? ⟨0, 0, none⟩ = some (.int .i64 m_)) (h : marginalialaw11_PolicyLets.f k l0_0 l0_1 l0_2 l0_3 a0_4 a1 a2_0 a2_1 = some r) :
  Calls Tryd.prog 5 #[.agg #[.slice A0_0 l0_0.length c0_0, .slice A0_1 l0_1.length c0_1, .slice A0_2 l0_2.length c0_2, .slice A0_3 l0_3.length c0_3, .int .i64 a0_4], .string a1, .agg #[.string a2_0, .string a2_1]] w fun e w' => e = .returned (.bool r) ∧ Below w.heap.size w w' := by
 have HM := Aside0.mk hm_
 clear hm_
 have hu25 := Tryd.underlying25
 have hu35 := Tryd.underlying35
 have HR0_0 := Aside0.mk hr0_0
 have HC0_0 := Aside0.mk hc0_0
 clear hr0_0 hc0_0
 have HR0_1 := Aside0.mk hr0_1
 have HC0_1 := Aside0.mk hc0_1
 clear hr0_1 hc0_1
 have HR0_2 := Aside0.mk hr0_2
 have HC0_2 := Aside0.mk hc0_2
 clear hr0_2 hc0_2
 have HR0_3 := Aside0.mk hr0_3
 have HC0_3 := Aside0.mk hc0_3
 clear hr0_3 hc0_3
 have HB := Aside0.mk (Below.refl w.heap.size w)
 have H := h
 clear h
 unfold marginalialaw11_PolicyLets.f at H
 have HC4 := Aside0.mk H
 clear H
 go_enter Tryd.func5, Tryd.ntmps5
 go_upto_region 1 with (first | ((with_reducible refine gate_dst (N := 3) rfl ?_); (try (refine gate_guard (by rfl) ?_; dsimp only)); refine box5 25 3 (cs := #[.slice A0_0 l0_0.length c0_0, .slice A0_1 l0_1.length c0_1, .slice A0_2 l0_2.length c0_2, .slice A0_3 l0_3.length c0_3, .int .i64 a0_4]) ?_; clear HB; intro gb394 w5 HB BK394 GE394) | ((with_reducible refine gate_dst (N := 5) rfl ?_); (try (refine gate_guard (by rfl) ?_; dsimp only)); refine box_event ?hg (N := 5) ?hd (cs := #[.string a2_0, .string a2_1]) (t := 35) ?hr ?_; (case hd => rfl); (case hg => rfl); (case hr => first | (go_simp; done) | (go_simp; rfl)); intro gb395 hg w6 hbox hb; have n0_ := Bb BK394 hb; have n1_ := Bs hb; have n2_ := Aside0.mk (hbox); have n3_ := Aside0.mk (Gg hg); have n4_ := Aside0.mk (Gg hg); have n5_ := Aside0.mk ((by rw [hg]; exact Nat.ne_of_lt (blk_lt (g := gb394) (o := .cells #[.slice A0_0 l0_0.length c0_0, .slice A0_1 l0_1.length c0_1, .slice A0_2 l0_2.length c0_2, .slice A0_3 l0_3.length c0_3, .int .i64 a0_4] 25 (0, 0)) (Bk BK394)) : gb394 ≠ gb395)); have n6_ := Aside0.mk ((by rw [hg]; exact Nat.ne_of_gt (blk_lt (g := gb394) (o := .cells #[.slice A0_0 l0_0.length c0_0, .slice A0_1 l0_1.length c0_1, .slice A0_2 l0_2.length c0_2, .slice A0_3 l0_3.length c0_3, .int .i64 a0_4] 25 (0, 0)) (Bk BK394)) : gb395 ≠ gb394)); clear BK394; clear HB; have BK394 := n0_; have HB := n1_; have BK395 := n2_; have GW395 := n3_; have GE395 := n4_; have NB394_395 := n5_; have NB395_394 := n6_; clear n0_ n1_ n2_ n3_ n4_ n5_ n6_; clear hb hbox hg))
 (try simp only [Act.put, List.setIfInBounds_toArray, List.set_cons_zero, List.set_cons_succ])
 go_cut [26] (fun v26 wc => ∃ (kq : Nat) (x26_3 : Bool), v26 = .bool x26_3 ∧ Aside0 (marginalialaw11_PolicyLets.j0 kq a1 x26_3 l0_0 l0_1 l0_2 l0_3 a0_4 a2_0 a2_1 = some r) ∧ Aside0 (kq ≤ k) ∧ Aside0 (wc.heap[gb394]? = some (.cells #[(.slice A0_0 l0_0.length c0_0), (.slice A0_1 l0_1.length c0_1), (.slice A0_2 l0_2.length c0_2), (.slice A0_3 l0_3.length c0_3), .int .i64 a0_4] 25 (0, 0))) ∧ Aside0 (wc.heap[gb395]? = some (.cells #[.string a2_0, .string a2_1] 35 (0, 0))) ∧ Aside0 (Below w.heap.size w wc))
 case first =>
  have H := HC4.out
  clear HC4
  replace H := Option.bind_eq_some_iff.mp H
  obtain ⟨t396, A70, H⟩ := H
  try dsimp -simprocs only at H
  have A7 := Aside0.mk A70
  clear A70
  by_cases c8 : t396 = true
  ·subst c8
   rw [if_pos rfl] at H
   by_cases c9 : (a1.size : Int) > 1000
   ·rw [if_pos c9] at H
    have c9b0 : decide (1000 < (a1.size : Int)) = true := decide_eq_true c9
    have c9b1 : decide (1000 < a1.size) = true := decide_eq_true (by omega)
    clear c9
    (first | rw [c9b0] | (simp only [i64_w, i32_w]; rw [c9b0]) | skip)
    have H' := Aside0.mk H
    clear H
    have hnb10 := NB394_395.out
    have hnc10 := NB395_394.out
    obtain ⟨hcz11_0, hcz11_1, hcz11_2, hcz11_3, hcz11_4, hfz11_0, hfz11_1, hfz11_2, hfz11_3, hfz11_4⟩ := cells5 BK394
    go_wp2_with (first | ((with_reducible refine gate_callee (f := 9) rfl ?_); refine goL (some 8) Tryd.func9 #[.agg #[.slice A0_0 l0_0.length c0_0, .slice A0_1 l0_1.length c0_1, .slice A0_2 l0_2.length c0_2, .slice A0_3 l0_3.length c0_3, .int .i64 a0_4]] ?_; (with_reducible refine (marginaliaref11_Small.calls k _ _ l0_0 _ _ l0_1 _ _ l0_2 _ _ l0_3 a0_4 true _ (Cs HR0_0) HC0_0.out (Cs HR0_1) HC0_1.out (Cs HR0_2) HC0_2.out (Cs HR0_3) HC0_3.out A7.out).mono ?_); rintro e w12 ⟨rfl, hb⟩; refine ⟨_, rfl, ?_⟩; replace BK394 := Bb BK394 hb; replace BK395 := Bb BK395 hb; replace HB := Bs hb; clear hb))
    go_meet
    case rel => exact ⟨_, (true), Rs, H', ⟨On⟩, ⟨(Bk BK394)⟩, ⟨(Bk BK395)⟩, ⟨Bw⟩⟩
   rw [if_neg c9] at H
   have c9b0 : decide (1000 < (a1.size : Int)) = false := decide_eq_false c9
   have c9b1 : decide (1000 < a1.size) = false := decide_eq_false (by omega)
   clear c9
   (first | rw [c9b0] | (simp only [i64_w, i32_w]; rw [c9b0]) | skip)
   by_cases c13 : (a2_0.size : Int) > 1000
   ·rw [if_pos c13] at H
    have c13b0 : decide (1000 < (a2_0.size : Int)) = true := decide_eq_true c13
    have c13b1 : decide (1000 < a2_0.size) = true := decide_eq_true (by omega)
    clear c13
    have H' := Aside0.mk H
    clear H
    have hnb14 := NB394_395.out
    have hnc14 := NB395_394.out
    obtain ⟨hcz15_0, hcz15_1, hcz15_2, hcz15_3, hcz15_4, hfz15_0, hfz15_1, hfz15_2, hfz15_3, hfz15_4⟩ := cells5 BK394
    go_wp2_with (first | ((with_reducible refine gate_callee (f := 9) rfl ?_); refine goL (some 8) Tryd.func9 #[.agg #[.slice A0_0 l0_0.length c0_0, .slice A0_1 l0_1.length c0_1, .slice A0_2 l0_2.length c0_2, .slice A0_3 l0_3.length c0_3, .int .i64 a0_4]] ?_; (with_reducible refine (marginaliaref11_Small.calls k _ _ l0_0 _ _ l0_1 _ _ l0_2 _ _ l0_3 a0_4 true _ (Cs HR0_0) HC0_0.out (Cs HR0_1) HC0_1.out (Cs HR0_2) HC0_2.out (Cs HR0_3) HC0_3.out A7.out).mono ?_); rintro e w16 ⟨rfl, hb⟩; refine ⟨_, rfl, ?_⟩; replace BK394 := Bb BK394 hb; replace BK395 := Bb BK395 hb; replace HB := Bs hb; clear hb; obtain ⟨hcz17_0, hcz17_1, hfz17_0, hfz17_1⟩ := cells2 BK395))
    go_meet
    case rel => exact ⟨_, (true), Rs, H', ⟨On⟩, ⟨(Bk BK394)⟩, ⟨(Bk BK395)⟩, ⟨Bw⟩⟩
   rw [if_neg c13] at H
   have c13b0 : decide (1000 < (a2_0.size : Int)) = false := decide_eq_false c13
   have c13b1 : decide (1000 < a2_0.size) = false := decide_eq_false (by omega)
   clear c13
   have H' := Aside0.mk H
   clear H
   have hnb18 := NB394_395.out
   have hnc18 := NB395_394.out
   obtain ⟨hcz19_0, hcz19_1, hcz19_2, hcz19_3, hcz19_4, hfz19_0, hfz19_1, hfz19_2, hfz19_3, hfz19_4⟩ := cells5 BK394
   go_wp2_with (first | ((with_reducible refine gate_callee (f := 9) rfl ?_); refine goL (some 8) Tryd.func9 #[.agg #[.slice A0_0 l0_0.length c0_0, .slice A0_1 l0_1.length c0_1, .slice A0_2 l0_2.length c0_2, .slice A0_3 l0_3.length c0_3, .int .i64 a0_4]] ?_; (with_reducible refine (marginaliaref11_Small.calls k _ _ l0_0 _ _ l0_1 _ _ l0_2 _ _ l0_3 a0_4 true _ (Cs HR0_0) HC0_0.out (Cs HR0_1) HC0_1.out (Cs HR0_2) HC0_2.out (Cs HR0_3) HC0_3.out A7.out).mono ?_); rintro e w20 ⟨rfl, hb⟩; refine ⟨_, rfl, ?_⟩; replace BK394 := Bb BK394 hb; replace BK395 := Bb BK395 hb; replace HB := Bs hb; clear hb; obtain ⟨hcz21_0, hcz21_1, hfz21_0, hfz21_1⟩ := cells2 BK395))
   go_meet
   case rel => exact ⟨_, (decide ((a2_1.size : Int) > 1000)), Rs, H', ⟨On⟩, ⟨(Bk BK394)⟩, ⟨(Bk BK395)⟩, ⟨Bw⟩⟩
  replace c8 := Bool.eq_false_iff.mpr c8
  subst c8
  rw [if_neg (show ¬ (false = true) by decide)] at H
  have H' := Aside0.mk H
  clear H
  have hnb22 := NB394_395.out
  have hnc22 := NB395_394.out
  obtain ⟨hcz23_0, hcz23_1, hcz23_2, hcz23_3, hcz23_4, hfz23_0, hfz23_1, hfz23_2, hfz23_3, hfz23_4⟩ := cells5 BK394
  go_wp2_with (first | ((with_reducible refine gate_callee (f := 9) rfl ?_); refine goL (some 8) Tryd.func9 #[.agg #[.slice A0_0 l0_0.length c0_0, .slice A0_1 l0_1.length c0_1, .slice A0_2 l0_2.length c0_2, .slice A0_3 l0_3.length c0_3, .int .i64 a0_4]] ?_; (with_reducible refine (marginaliaref11_Small.calls k _ _ l0_0 _ _ l0_1 _ _ l0_2 _ _ l0_3 a0_4 false _ (Cs HR0_0) HC0_0.out (Cs HR0_1) HC0_1.out (Cs HR0_2) HC0_2.out (Cs HR0_3) HC0_3.out A7.out).mono ?_); rintro e w24 ⟨rfl, hb⟩; refine ⟨_, rfl, ?_⟩; replace BK394 := Bb BK394 hb; replace BK395 := Bb BK395 hb; replace HB := Bs hb; clear hb))
  go_meet
  case rel => exact ⟨_, (true), Rs, H', ⟨On⟩, ⟨(Bk BK394)⟩, ⟨(Bk BK395)⟩, ⟨Bw⟩⟩
 case rest =>
  clear HC4
  try clear c1
  try clear c2
  try clear p2
  try clear c5
  try clear c8
  try clear c9
  try clear c9b0
  try clear c9b1
  try clear c10
  try clear c13
  try clear c13b0
  try clear c13b1
  try clear c14
  try clear c18
  try clear c22
  try clear hcz11_0 hcz11_1 hcz11_2 hcz11_3 hcz11_4
  try clear hcz15_0 hcz15_1 hcz15_2 hcz15_3 hcz15_4
  try clear hcz17_0 hcz17_1
  try clear hcz19_0 hcz19_1 hcz19_2 hcz19_3 hcz19_4
  try clear hcz21_0 hcz21_1
  try clear hcz23_0 hcz23_1 hcz23_2 hcz23_3 hcz23_4
  try clear hfz11_0 hfz11_1 hfz11_2 hfz11_3 hfz11_4
  try clear hfz15_0 hfz15_1 hfz15_2 hfz15_3 hfz15_4
  try clear hfz17_0 hfz17_1
  try clear hfz19_0 hfz19_1 hfz19_2 hfz19_3 hfz19_4
  try clear hfz21_0 hfz21_1
  try clear hfz23_0 hfz23_1 hfz23_2 hfz23_3 hfz23_4
  obtain ⟨kq, x26_3, rfl, HA, HJ3, BK394, BK395, HB⟩ := hcut
  cases kq with
  | zero => exact absurd HA.out (by simp [marginalialaw11_PolicyLets.j0])
  | succ kj3 =>
   have H := HA.out
   clear HA
   simp only [marginalialaw11_PolicyLets.j0] at H
   by_cases c25 : x26_3 = true
   ·subst c25
    rw [if_pos rfl] at H
    replace H := Option.bind_eq_some_iff.mp H
    obtain ⟨t397, A260, H⟩ := H
    replace H : (some t397) = some r := H
    have A26 := Aside0.mk A260
    clear A260
    obtain rfl := Option.some.inj H
    go_wp2_with (first | ((with_reducible refine gate_callee (f := 10) rfl ?_); refine goL (some 27) Tryd.func10 #[] ?_; (with_reducible refine (marginalialaw11_alive.calls kj3  t397 _ m_ ?hmS A26.out).mono ?_); (case hmS => exact (pw_cell_below Bw HM.out)); rintro e w27 ⟨rfl, hb⟩; refine ⟨_, rfl, ?_⟩; replace BK394 := Bb BK394 hb; replace BK395 := Bb BK395 hb; replace HB := Bs hb; clear hb))
    go_ret
    exact ⟨Re, Bw⟩
   replace c25 := Bool.eq_false_iff.mpr c25
   subst c25
   rw [if_neg (show ¬ (false = true) by decide)] at H
   replace H := Option.bind_eq_some_iff.mp H
   obtain ⟨t398, A280, H⟩ := H
   try dsimp -simprocs only at H
   have A28 := Aside0.mk A280
   clear A280
   by_cases c29 : t398 = true
   ·subst c29
    rw [if_pos rfl] at H
    replace H := Option.bind_eq_some_iff.mp H
    obtain ⟨t399, A300, H⟩ := H
    try dsimp -simprocs only at H
    have A30 := Aside0.mk A300
    clear A300
    replace H := Option.bind_eq_some_iff.mp H
    obtain ⟨t400, A310, H⟩ := H
    try dsimp -simprocs only at H
    have A31 := Aside0.mk A310
    clear A310
    by_cases c32 : (t399 == t400) = true
    ·rw [if_pos c32] at H
     have c32b0 : (t399 == t400) = true := c32
     (try (have c32b1 : decide (t399 = t400) = true := by simpa using c32))
     (try (have c32b2 : (t399 == t400) = true := by simpa using c32))
     clear c32
     replace H := Option.bind_eq_some_iff.mp H
     obtain ⟨t401, A330, H⟩ := H
     try dsimp -simprocs only at H
     have A33 := Aside0.mk A330
     clear A330
     replace H := Option.bind_eq_some_iff.mp H
     obtain ⟨t402, A340, H⟩ := H
     replace H : (some (t401 == t402)) = some r := H
     have A34 := Aside0.mk A340
     clear A340
     obtain rfl := Option.some.inj H
     try go_wp2
     replace BK394 := Aside0.mk (blk_drew BK394.out)
     replace BK395 := Aside0.mk (blk_drew BK395.out)
     replace HB := Aside0.mk (below_drew1 HB.out)
     refine start_ (n := 22) (S := fun w' => w'.cell? ⟨gb394, 0, none⟩ = some (.slice A0_0 l0_0.length c0_0) ∧ w'.cell? ⟨gb394, 1, none⟩ = some (.slice A0_1 l0_1.length c0_1) ∧ w'.cell? ⟨gb394, 2, none⟩ = some (.slice A0_2 l0_2.length c0_2) ∧ w'.cell? ⟨gb394, 3, none⟩ = some (.slice A0_3 l0_3.length c0_3) ∧ w'.cell? ⟨gb394, 4, none⟩ = some (.int .i64 a0_4) ∧ w'.cell? ⟨gb395, 0, none⟩ = some (.string a2_0) ∧ w'.cell? ⟨gb395, 1, none⟩ = some (.string a2_1)) (ds := []) #[false, false, false, false, false, false, false, false, false, false, false, false, false, false, false, false, false, false, false, false, false, false] (by kernel_rfl) rfl rfl (and5 BK394 ⟨(blk_cell BK395.out 0).trans rfl, (blk_cell BK395.out 1).trans rfl⟩) (fun hHeld => ?_); refine with_tabW marginalialaw11_PolicyLets.tab3 marginalialaw11_PolicyLets.bits3 (fun HT_ HW_ => ?_)
     generalize wc.drew = w35 at BK394 BK395 HB hHeld ⊢
     refine one_ (i := 0) (N := some 28) (bl 22 1) rfl rfl (one_of HT_.out (by kernel_rfl)) (by decide) (fun K hK => ?_)
     refine goG Tryd.func10 #[] ?_
     with_reducible refine (marginalialaw11_alive.calls kj3  true _ m_ ?hmS A28.out).mono ?_
     case hmS => exact (pw_cell_below Bw HM.out)
     rintro e w36 ⟨rfl, hb⟩
     refine ⟨_, rfl, ?_⟩
     replace BK394 := Bb BK394 hb
     replace BK395 := Bb BK395 hb
     replace HB := Bs hb
     (try clear hb)
     (try clear hb2)
     (try clear hk)
     (try clear hi)
     refine hK.out _ _ (and5 BK394 ⟨(blk_cell BK395.out 0).trans rfl, (blk_cell BK395.out 1).trans rfl⟩) (fun hHeld => ?_)
     clear hK K
     refine norm_ (a' := ?_) ?_ ?_
     rotate_left
     ·show Act.put _ (some 28) _ = _
      simp only [Act.put, List.setIfInBounds_toArray, List.set_cons_zero, List.set_cons_succ, i64_w, i32_w]
      rfl
     refine pureS 1 29 (bl 22 3) ?_
     refine pureS 3 31 (bl 22 11) ?_
     refine pureS 6 34 (bl 22 75) ?_
     refine take_ (i := 2) (N := some 30) (v := ?_) (a' := ?_) (bl 22 79) rfl rfl (take_ofW HT_.out HW_.out (by kernel_rfl)) (fun _ _ _ h => h) (Or.inl ⟨by rfl, ?_⟩) hHeld ?_ ?_
     rotate_left
     ·rintro w' ⟨s0, s1, s2, s3, s4, s5, s6⟩
      go_simp
      with_reducible rfl
     rotate_left
     ·simp only [Act.put, List.setIfInBounds_toArray, List.set_cons_zero, List.set_cons_succ, i64_w, i32_w]
      rfl
     refine take_ (i := 5) (N := some 33) (v := ?_) (a' := ?_) (bl 22 111) rfl rfl (take_ofW HT_.out HW_.out (by kernel_rfl)) (fun _ _ _ h => h) (Or.inl ⟨by rfl, ?_⟩) hHeld ?_ ?_
     rotate_left
     ·rintro w' ⟨s0, s1, s2, s3, s4, s5, s6⟩
      go_simp
      with_reducible rfl
     rotate_left
     ·simp only [Act.put, List.setIfInBounds_toArray, List.set_cons_zero, List.set_cons_succ, i64_w, i32_w]
      rfl
     refine one_ (i := 4) (N := some 32) (bl 22 127) rfl rfl (one_of HT_.out (by kernel_rfl)) (by decide) (fun K hK => ?_)
     refine goG Tryd.func16 #[.agg #[.slice A0_0 l0_0.length c0_0, .slice A0_1 l0_1.length c0_1, .slice A0_2 l0_2.length c0_2, .slice A0_3 l0_3.length c0_3, .int .i64 a0_4], .string a1] ?_
     with_reducible refine (policy_Element.calls kj3 _ _ l0_0 _ _ l0_1 _ _ l0_2 _ _ l0_3 a0_4 a1 t399 _ (Cs HR0_0) HC0_0.out (Cs HR0_1) HC0_1.out (Cs HR0_2) HC0_2.out (Cs HR0_3) HC0_3.out A30.out).mono ?_
     rintro e w37 ⟨rfl, hb⟩
     refine ⟨_, rfl, ?_⟩
     replace BK394 := Bb BK394 hb
     replace BK395 := Bb BK395 hb
     replace HB := Bs hb
     (try clear hb)
     (try clear hb2)
     (try clear hk)
     (try clear hi)
     refine hK.out _ _ (and5 BK394 ⟨(blk_cell BK395.out 0).trans rfl, (blk_cell BK395.out 1).trans rfl⟩) (fun hHeld => ?_)
     clear hK K
     refine norm_ (a' := ?_) ?_ ?_
     rotate_left
     ·show Act.put _ (some 32) _ = _
      simp only [Act.put, List.setIfInBounds_toArray, List.set_cons_zero, List.set_cons_succ, i64_w, i32_w]
      rfl
     refine one_ (i := 7) (N := some 35) (bl 22 255) rfl rfl (one_of HT_.out (by kernel_rfl)) (by decide) (fun K hK => ?_)
     refine goG Tryd.func17 #[.agg #[.slice A0_0 l0_0.length c0_0, .slice A0_1 l0_1.length c0_1, .slice A0_2 l0_2.length c0_2, .slice A0_3 l0_3.length c0_3, .int .i64 a0_4], .string a1] ?_
     with_reducible refine (marginaliaref11_Element.calls kj3 _ _ l0_0 _ _ l0_1 _ _ l0_2 _ _ l0_3 a0_4 a1 t400 _ (Cs HR0_0) HC0_0.out (Cs HR0_1) HC0_1.out (Cs HR0_2) HC0_2.out (Cs HR0_3) HC0_3.out A31.out).mono ?_
     rintro e w38 ⟨rfl, hb⟩
     refine ⟨_, rfl, ?_⟩
     replace BK394 := Bb BK394 hb
     replace BK395 := Bb BK395 hb
     replace HB := Bs hb
     (try clear hb)
     (try clear hb2)
     (try clear hk)
     (try clear hi)
     refine hK.out _ _ (and5 BK394 ⟨(blk_cell BK395.out 0).trans rfl, (blk_cell BK395.out 1).trans rfl⟩) (fun hHeld => ?_)
     clear hK K
     refine norm_ (a' := ?_) ?_ ?_
     rotate_left
     ·show Act.put _ (some 35) _ = _
      simp only [Act.put, List.setIfInBounds_toArray, List.set_cons_zero, List.set_cons_succ, i64_w, i32_w]
      rfl
     refine pureS 8 36 (bl 22 511) ?_
     refine pureS 9 37 (bl 22 1023) ?_
     refine pureS 10 38 (bl 22 2047) ?_
     refine pureS 12 40 (bl 22 6143) ?_
     refine pureS 16 44 (bl 22 71679) ?_
     refine take_ (i := 11) (N := some 39) (v := ?_) (a' := ?_) (bl 22 73727) rfl rfl (take_ofW HT_.out HW_.out (by kernel_rfl)) (fun _ _ _ h => h) (Or.inl ⟨by rfl, ?_⟩) hHeld ?_ ?_
     rotate_left
     ·rintro w' ⟨s0, s1, s2, s3, s4, s5, s6⟩
      go_simp
      with_reducible rfl
     rotate_left
     ·simp only [Act.put, List.setIfInBounds_toArray, List.set_cons_zero, List.set_cons_succ, i64_w, i32_w]
      rfl
     refine take_ (i := 13) (N := some 41) (v := ?_) (a' := ?_) (bl 22 81919) rfl rfl (take_ofW HT_.out HW_.out (by kernel_rfl)) (fun _ _ _ h => h) (Or.inl ⟨by rfl, ?_⟩) hHeld ?_ ?_
     rotate_left
     ·rintro w' ⟨s0, s1, s2, s3, s4, s5, s6⟩
      go_simp
      with_reducible rfl
     rotate_left
     ·simp only [Act.put, List.setIfInBounds_toArray, List.set_cons_zero, List.set_cons_succ, i64_w, i32_w]
      rfl
     refine take_ (i := 15) (N := some 43) (v := ?_) (a' := ?_) (bl 22 114687) rfl rfl (take_ofW HT_.out HW_.out (by kernel_rfl)) (fun _ _ _ h => h) (Or.inl ⟨by rfl, ?_⟩) hHeld ?_ ?_
     rotate_left
     ·rintro w' ⟨s0, s1, s2, s3, s4, s5, s6⟩
      go_simp
      with_reducible rfl
     rotate_left
     ·simp only [Act.put, List.setIfInBounds_toArray, List.set_cons_zero, List.set_cons_succ, i64_w, i32_w]
      rfl
     refine take_ (i := 17) (N := some 45) (v := ?_) (a' := ?_) (bl 22 245759) rfl rfl (take_ofW HT_.out HW_.out (by kernel_rfl)) (fun _ _ _ h => h) (Or.inl ⟨by rfl, ?_⟩) hHeld ?_ ?_
     rotate_left
     ·rintro w' ⟨s0, s1, s2, s3, s4, s5, s6⟩
      go_simp
      with_reducible rfl
     rotate_left
     ·simp only [Act.put, List.setIfInBounds_toArray, List.set_cons_zero, List.set_cons_succ, i64_w, i32_w]
      rfl
     refine one_ (i := 14) (N := some 42) (bl 22 262143) rfl rfl (one_of HT_.out (by kernel_rfl)) (by decide) (fun K hK => ?_)
     refine goG Tryd.func18 #[.agg #[.slice A0_0 l0_0.length c0_0, .slice A0_1 l0_1.length c0_1, .slice A0_2 l0_2.length c0_2, .slice A0_3 l0_3.length c0_3, .int .i64 a0_4], .string a1, .agg #[.string a2_0, .string a2_1]] ?_
     with_reducible refine (policy_Attr.calls kj3 _ _ l0_0 _ _ l0_1 _ _ l0_2 _ _ l0_3 a0_4 a1 a2_0 a2_1 t401 _ (Cs HR0_0) HC0_0.out (Cs HR0_1) HC0_1.out (Cs HR0_2) HC0_2.out (Cs HR0_3) HC0_3.out A33.out).mono ?_
     rintro e w39 ⟨rfl, hb⟩
     refine ⟨_, rfl, ?_⟩
     replace BK394 := Bb BK394 hb
     replace BK395 := Bb BK395 hb
     replace HB := Bs hb
     (try clear hb)
     (try clear hb2)
     (try clear hk)
     (try clear hi)
     refine hK.out _ _ (and5 BK394 ⟨(blk_cell BK395.out 0).trans rfl, (blk_cell BK395.out 1).trans rfl⟩) (fun hHeld => ?_)
     clear hK K
     refine norm_ (a' := ?_) ?_ ?_
     rotate_left
     ·show Act.put _ (some 42) _ = _
      simp only [Act.put, List.setIfInBounds_toArray, List.set_cons_zero, List.set_cons_succ, i64_w, i32_w]
      rfl
     refine one_ (i := 18) (N := some 46) (bl 22 524287) rfl rfl (one_of HT_.out (by kernel_rfl)) (by decide) (fun K hK => ?_)
     refine goG Tryd.func19 #[.agg #[.slice A0_0 l0_0.length c0_0, .slice A0_1 l0_1.length c0_1, .slice A0_2 l0_2.length c0_2, .slice A0_3 l0_3.length c0_3, .int .i64 a0_4], .string a1, .agg #[.string a2_0, .string a2_1]] ?_
     with_reducible refine (marginaliaref11_Attr.calls kj3 _ _ l0_0 _ _ l0_1 _ _ l0_2 _ _ l0_3 a0_4 a1 a2_0 a2_1 t402 _ (Cs HR0_0) HC0_0.out (Cs HR0_1) HC0_1.out (Cs HR0_2) HC0_2.out (Cs HR0_3) HC0_3.out A34.out).mono ?_
     rintro e w40 ⟨rfl, hb⟩
     refine ⟨_, rfl, ?_⟩
     replace BK394 := Bb BK394 hb
     replace BK395 := Bb BK395 hb
     replace HB := Bs hb
     (try clear hb)
     (try clear hb2)
     (try clear hk)
     (try clear hi)
     refine hK.out _ _ (and5 BK394 ⟨(blk_cell BK395.out 0).trans rfl, (blk_cell BK395.out 1).trans rfl⟩) (fun hHeld => ?_)
     clear hK K
     refine norm_ (a' := ?_) ?_ ?_
     rotate_left
     ·show Act.put _ (some 46) _ = _
      simp only [Act.put, List.setIfInBounds_toArray, List.set_cons_zero, List.set_cons_succ, i64_w, i32_w]
      rfl
     refine pureS 19 47 (bl 22 1048575) ?_
     refine pureS 20 48 (bl 22 2097151) ?_
     refine pureS 21 6 (bl 22 4194303) ?_
     refine done_ (done_of HT_.out (by kernel_rfl)) ?_
     try go_wp2
     go_ret
     exact ⟨Re, Bw⟩
    rw [if_neg c32] at H
    have c32b0 : (t399 == t400) = false := by simpa using c32
    (try (have c32b1 : decide (t399 = t400) = false := by simpa using c32))
    (try (have c32b2 : (t399 == t400) = false := by simpa using c32))
    (try (have c32b3 : ¬ (t399 = t400) := by simpa using c32))
    clear c32
    obtain rfl := Option.some.inj H
    try go_wp2
    replace BK394 := Aside0.mk (blk_drew BK394.out)
    replace BK395 := Aside0.mk (blk_drew BK395.out)
    replace HB := Aside0.mk (below_drew1 HB.out)
    refine start_ (n := 22) (S := fun w' => w'.cell? ⟨gb394, 0, none⟩ = some (.slice A0_0 l0_0.length c0_0) ∧ w'.cell? ⟨gb394, 1, none⟩ = some (.slice A0_1 l0_1.length c0_1) ∧ w'.cell? ⟨gb394, 2, none⟩ = some (.slice A0_2 l0_2.length c0_2) ∧ w'.cell? ⟨gb394, 3, none⟩ = some (.slice A0_3 l0_3.length c0_3) ∧ w'.cell? ⟨gb394, 4, none⟩ = some (.int .i64 a0_4)) (ds := []) #[false, false, false, false, false, false, false, false, false, false, false, false, false, false, false, false, false, false, false, false, false, false] (by kernel_rfl) rfl rfl ⟨(blk_cell BK394.out 0).trans rfl, (blk_cell BK394.out 1).trans rfl, (blk_cell BK394.out 2).trans rfl, (blk_cell BK394.out 3).trans rfl, (blk_cell BK394.out 4).trans rfl⟩ (fun hHeld => ?_); refine with_tabW marginalialaw11_PolicyLets.tab3 marginalialaw11_PolicyLets.bits3 (fun HT_ HW_ => ?_)
    generalize wc.drew = w41 at BK394 BK395 HB hHeld ⊢
    refine one_ (i := 0) (N := some 28) (bl 22 1) rfl rfl (one_of HT_.out (by kernel_rfl)) (by decide) (fun K hK => ?_)
    refine goG Tryd.func10 #[] ?_
    with_reducible refine (marginalialaw11_alive.calls kj3  true _ m_ ?hmS A28.out).mono ?_
    case hmS => exact (pw_cell_below Bw HM.out)
    rintro e w42 ⟨rfl, hb⟩
    refine ⟨_, rfl, ?_⟩
    replace BK394 := Bb BK394 hb
    replace BK395 := Bb BK395 hb
    replace HB := Bs hb
    (try clear hb)
    (try clear hb2)
    (try clear hk)
    (try clear hi)
    refine hK.out _ _ ⟨(blk_cell BK394.out 0).trans rfl, (blk_cell BK394.out 1).trans rfl, (blk_cell BK394.out 2).trans rfl, (blk_cell BK394.out 3).trans rfl, (blk_cell BK394.out 4).trans rfl⟩ (fun hHeld => ?_)
    clear hK K
    refine norm_ (a' := ?_) ?_ ?_
    rotate_left
    ·show Act.put _ (some 28) _ = _
     simp only [Act.put, List.setIfInBounds_toArray, List.set_cons_zero, List.set_cons_succ, i64_w, i32_w]
     rfl
    refine pureS 1 29 (bl 22 3) ?_
    refine pureS 3 31 (bl 22 11) ?_
    refine pureS 6 34 (bl 22 75) ?_
    refine take_ (i := 2) (N := some 30) (v := ?_) (a' := ?_) (bl 22 79) rfl rfl (take_ofW HT_.out HW_.out (by kernel_rfl)) (fun _ _ _ h => h) (Or.inl ⟨by rfl, ?_⟩) hHeld ?_ ?_
    rotate_left
    ·rintro w' ⟨s0, s1, s2, s3, s4⟩
     go_simp
     with_reducible rfl
    rotate_left
    ·simp only [Act.put, List.setIfInBounds_toArray, List.set_cons_zero, List.set_cons_succ, i64_w, i32_w]
     rfl
    refine take_ (i := 5) (N := some 33) (v := ?_) (a' := ?_) (bl 22 111) rfl rfl (take_ofW HT_.out HW_.out (by kernel_rfl)) (fun _ _ _ h => h) (Or.inl ⟨by rfl, ?_⟩) hHeld ?_ ?_
    rotate_left
    ·rintro w' ⟨s0, s1, s2, s3, s4⟩
     go_simp
     with_reducible rfl
    rotate_left
    ·simp only [Act.put, List.setIfInBounds_toArray, List.set_cons_zero, List.set_cons_succ, i64_w, i32_w]
     rfl
    refine one_ (i := 4) (N := some 32) (bl 22 127) rfl rfl (one_of HT_.out (by kernel_rfl)) (by decide) (fun K hK => ?_)
    refine goG Tryd.func16 #[.agg #[.slice A0_0 l0_0.length c0_0, .slice A0_1 l0_1.length c0_1, .slice A0_2 l0_2.length c0_2, .slice A0_3 l0_3.length c0_3, .int .i64 a0_4], .string a1] ?_
    with_reducible refine (policy_Element.calls kj3 _ _ l0_0 _ _ l0_1 _ _ l0_2 _ _ l0_3 a0_4 a1 t399 _ (Cs HR0_0) HC0_0.out (Cs HR0_1) HC0_1.out (Cs HR0_2) HC0_2.out (Cs HR0_3) HC0_3.out A30.out).mono ?_
    rintro e w43 ⟨rfl, hb⟩
    refine ⟨_, rfl, ?_⟩
    replace BK394 := Bb BK394 hb
    replace BK395 := Bb BK395 hb
    replace HB := Bs hb
    (try clear hb)
    (try clear hb2)
    (try clear hk)
    (try clear hi)
    refine hK.out _ _ ⟨(blk_cell BK394.out 0).trans rfl, (blk_cell BK394.out 1).trans rfl, (blk_cell BK394.out 2).trans rfl, (blk_cell BK394.out 3).trans rfl, (blk_cell BK394.out 4).trans rfl⟩ (fun hHeld => ?_)
    clear hK K
    refine norm_ (a' := ?_) ?_ ?_
    rotate_left
    ·show Act.put _ (some 32) _ = _
     simp only [Act.put, List.setIfInBounds_toArray, List.set_cons_zero, List.set_cons_succ, i64_w, i32_w]
     rfl
    refine one_ (i := 7) (N := some 35) (bl 22 255) rfl rfl (one_of HT_.out (by kernel_rfl)) (by decide) (fun K hK => ?_)
    refine goG Tryd.func17 #[.agg #[.slice A0_0 l0_0.length c0_0, .slice A0_1 l0_1.length c0_1, .slice A0_2 l0_2.length c0_2, .slice A0_3 l0_3.length c0_3, .int .i64 a0_4], .string a1] ?_
    with_reducible refine (marginaliaref11_Element.calls kj3 _ _ l0_0 _ _ l0_1 _ _ l0_2 _ _ l0_3 a0_4 a1 t400 _ (Cs HR0_0) HC0_0.out (Cs HR0_1) HC0_1.out (Cs HR0_2) HC0_2.out (Cs HR0_3) HC0_3.out A31.out).mono ?_
    rintro e w44 ⟨rfl, hb⟩
    refine ⟨_, rfl, ?_⟩
    replace BK394 := Bb BK394 hb
    replace BK395 := Bb BK395 hb
    replace HB := Bs hb
    (try clear hb)
    (try clear hb2)
    (try clear hk)
    (try clear hi)
    refine hK.out _ _ ⟨(blk_cell BK394.out 0).trans rfl, (blk_cell BK394.out 1).trans rfl, (blk_cell BK394.out 2).trans rfl, (blk_cell BK394.out 3).trans rfl, (blk_cell BK394.out 4).trans rfl⟩ (fun hHeld => ?_)
    clear hK K
    refine norm_ (a' := ?_) ?_ ?_
    rotate_left
    ·show Act.put _ (some 35) _ = _
     simp only [Act.put, List.setIfInBounds_toArray, List.set_cons_zero, List.set_cons_succ, i64_w, i32_w]
     rfl
    refine pureS 8 36 (bl 22 511) ?_
    refine pureS 9 37 (bl 22 1023) ?_
    refine pureS 10 38 (bl 22 2047) ?_
    refine pureU 11 39 (bl 22 4095) ?_
    refine pureU 12 40 (bl 22 8191) ?_
    refine pureU 13 41 (bl 22 16383) ?_
    refine pureU 14 42 (bl 22 32767) ?_
    refine pureU 15 43 (bl 22 65535) ?_
    refine pureU 16 44 (bl 22 131071) ?_
    refine pureU 17 45 (bl 22 262143) ?_
    refine pureU 18 46 (bl 22 524287) ?_
    refine pureU 19 47 (bl 22 1048575) ?_
    refine pureS 20 48 (bl 22 2097151) ?_
    refine pureS 21 6 (bl 22 4194303) ?_
    refine done_ (done_of HT_.out (by kernel_rfl)) ?_
    try go_wp2
    go_ret
    exact ⟨Re, Bw⟩
   replace c29 := Bool.eq_false_iff.mpr c29
   subst c29
   rw [if_neg (show ¬ (false = true) by decide)] at H
   obtain rfl := Option.some.inj H
   try go_wp2
   replace BK394 := Aside0.mk (blk_drew BK394.out)
   replace BK395 := Aside0.mk (blk_drew BK395.out)
   replace HB := Aside0.mk (below_drew1 HB.out)
   refine start_ (n := 22) (S := fun w' => True) (ds := []) #[false, false, false, false, false, false, false, false, false, false, false, false, false, false, false, false, false, false, false, false, false, false] (by kernel_rfl) rfl rfl trivial (fun hHeld => ?_); refine with_tabW marginalialaw11_PolicyLets.tab3 marginalialaw11_PolicyLets.bits3 (fun HT_ HW_ => ?_)
   generalize wc.drew = w45 at BK394 BK395 HB hHeld ⊢
   refine one_ (i := 0) (N := some 28) (bl 22 1) rfl rfl (one_of HT_.out (by kernel_rfl)) (by decide) (fun K hK => ?_)
   refine goG Tryd.func10 #[] ?_
   with_reducible refine (marginalialaw11_alive.calls kj3  false _ m_ ?hmS A28.out).mono ?_
   case hmS => exact (pw_cell_below Bw HM.out)
   rintro e w46 ⟨rfl, hb⟩
   refine ⟨_, rfl, ?_⟩
   replace BK394 := Bb BK394 hb
   replace BK395 := Bb BK395 hb
   replace HB := Bs hb
   (try clear hb)
   (try clear hb2)
   (try clear hk)
   (try clear hi)
   refine hK.out _ _ trivial (fun hHeld => ?_)
   clear hK K
   refine norm_ (a' := ?_) ?_ ?_
   rotate_left
   ·show Act.put _ (some 28) _ = _
    simp only [Act.put, List.setIfInBounds_toArray, List.set_cons_zero, List.set_cons_succ, i64_w, i32_w]
    rfl
   refine pureS 1 29 (bl 22 3) ?_
   refine pureU 2 30 (bl 22 7) ?_
   refine pureU 3 31 (bl 22 15) ?_
   refine pureU 4 32 (bl 22 31) ?_
   refine pureU 5 33 (bl 22 63) ?_
   refine pureU 6 34 (bl 22 127) ?_
   refine pureU 7 35 (bl 22 255) ?_
   refine pureU 8 36 (bl 22 511) ?_
   refine pureS 9 37 (bl 22 1023) ?_
   refine pureS 10 38 (bl 22 2047) ?_
   refine pureU 11 39 (bl 22 4095) ?_
   refine pureU 12 40 (bl 22 8191) ?_
   refine pureU 13 41 (bl 22 16383) ?_
   refine pureU 14 42 (bl 22 32767) ?_
   refine pureU 15 43 (bl 22 65535) ?_
   refine pureU 16 44 (bl 22 131071) ?_
   refine pureU 17 45 (bl 22 262143) ?_
   refine pureU 18 46 (bl 22 524287) ?_
   refine pureU 19 47 (bl 22 1048575) ?_
   refine pureS 20 48 (bl 22 2097151) ?_
   refine pureS 21 6 (bl 22 4194303) ?_
   refine done_ (done_of HT_.out (by kernel_rfl)) ?_
   try go_wp2
   go_ret
   exact ⟨Re, Bw⟩

end Go.Proofs.YtnbghhddmlohoaaDoor.PAll

end

section
namespace Go.Proofs.YtnbghhddmlohoaaDoor.RowOpen
open Go.RowKit Go.Proofs.YtnbghhddmlohoaaDoorW.PrintWords

section
variable {P : Program}
def Opens (P : Program) {α : Type} (t : TypeId) (d : Kd α) (g : α → Prop) : Prop :=
  ∀ (H : Type) (enc : TypeId × Value → H) (fuel : Nat) (w : World) (cs : List Value) (x : DataW H × List MemPlace), DataW.trod enc P w 0 (fun _ => true) true fuel t cs = some x → ∃ a, d.K w a cs ∧ g a
theorem Opens.imp {α : Type} {t : TypeId} {d : Kd α} {g g' : α → Prop} (h : Opens P t d g) (hg : ∀ a, g a → g' a) : Opens P t d g' := fun H enc fuel w cs x hx => by
  obtain ⟨a, hK, ha⟩ := h H enc fuel w cs x hx
  exact ⟨a, hK, hg a ha⟩
theorem opens_int {t : TypeId} {k : IntKind} (hu : P.underlying t = some (.int k)) : Opens P t (Kd.int k) (fun n => (Lit.int k n).wf = true) := fun H enc fuel w cs x hx => by
  cases fuel with
  | zero => simp [DataW.trod] at hx
  | succ m =>
    unfold DataW.trod at hx
    rw [hu] at hx
    split at hx <;> simp_all
    obtain ⟨⟨rfl, hw⟩, _⟩ := hx
    exact ⟨_, rfl, hw⟩
theorem opens_string {t : TypeId} (hu : P.underlying t = some .string) : Opens P t Kd.string (fun s => s.size ≤ maxLen) := fun H enc fuel w cs x hx => by
  cases fuel with
  | zero => simp [DataW.trod] at hx
  | succ m =>
    unfold DataW.trod at hx
    rw [hu] at hx
    split at hx <;> simp_all
    exact ⟨_, rfl, hx.1⟩
theorem cells_get {w : World} {a : Addr} {n : Nat} {cs : List Value} (h : w.cells? 0 a n = some cs) : cs.length = n ∧ ∀ j u, cs[j]? = some u → w.cell? (a.add j) = some u := by
  unfold World.cells? at h
  rw [if_pos (Nat.zero_le _)] at h
  have hl := mapM_some_length h
  rw [List.length_range] at hl
  refine ⟨hl, fun j u hj => ?_⟩
  have hlt : j < cs.length := (List.getElem?_eq_some_iff.1 hj).1
  have := mapM_some_get h j j (by rw [List.getElem?_range (by omega)])
  rw [this, hj]
theorem list_of {α : Type} {p : Nat → α → Prop} : ∀ n : Nat, (∀ i, i < n → ∃ a, p i a) → ∃ xs : List α, xs.length = n ∧ ∀ i a, xs[i]? = some a → p i a
  | 0, _ => ⟨[], rfl, fun i a h => by simp at h⟩
  | n + 1, h => by
    obtain ⟨xs, hl, hx⟩ := list_of n (fun i hi => h i (by omega))
    obtain ⟨a, ha⟩ := h n (by omega)
    refine ⟨xs ++ [a], by simp [hl], fun i b hb => ?_⟩
    rcases Nat.lt_trichotomy i n with hi | hi | hi
    · rw [List.getElem?_append_left (by omega)] at hb
      exact hx i b hb
    · subst hi
      rw [List.getElem?_append_right (by omega), hl, Nat.sub_self] at hb
      simp at hb
      subst hb
      exact ha
    · rw [List.getElem?_eq_none (by simp; omega)] at hb
      cases hb
theorem opens_slice {α : Type} {t e : TypeId} {d : Kd α} {g : α → Prop} (hu : P.underlying t = some (.slice e)) (hsz : P.cellsOf e = d.sz) (h : Opens P e d g) :
    Opens P t (Kd.slice e d) (fun xs => xs.length ≤ maxLen ∧ ∀ x ∈ xs, g x) := fun H enc fuel w cs x hx => by
  rcases Go.Deep.open_slice hu hx with ⟨rfl, _⟩ | ⟨a, len, cap, m, n, D, Pl, rfl, _, hl, hm, hmm, _, hel⟩
  · exact ⟨[], ⟨none, 0, rfl, Nat.le_refl _, rfl, by simp, fun h => absurd h (by simp)⟩, by simp, by simp⟩
  · rw [if_pos rfl] at hmm
    subst hmm
    obtain ⟨xs, hxl, hxs⟩ := list_of (p := fun i y => ∃ c, w.cells? 0 (a.add (i * d.sz)) d.sz = some c ∧ d.K w y c ∧ g y) len (fun i hi => by
      obtain ⟨c, hc, ht⟩ := hel i (by omega)
      rw [hsz] at hc
      obtain ⟨y, hK, hg⟩ := h H enc n w c _ ht
      exact ⟨y, c, hc, hK, hg⟩)
    subst hxl
    refine ⟨xs, ⟨some a, m, rfl, hl, rfl, ?_, fun _ => ⟨a, rfl, fun j p hp => ?_⟩⟩, by omega, fun y hy => ?_⟩
    · unfold maxLen at hm; omega
    · obtain ⟨c, hc, hK, _⟩ := hxs j p hp
      obtain ⟨hcl, hcg⟩ := cells_get hc
      exact ⟨c, hcl, hK, fun i u hu' => by rw [← Addr.add_add]; exact hcg i u hu'⟩
    · obtain ⟨j, hj⟩ := List.getElem?_of_mem hy
      obtain ⟨c, _, _, hg⟩ := hxs j y hj
      exact hg
def OpensF (P : Program) {α : Type} (fs : List Field) (d : Kd α) (g : α → Prop) (off : Nat) : Prop :=
  ∀ (H : Type) (enc : TypeId × Value → H) (fuel : Nat) (w : World) (cs : List Value) (xs : List (DataW H × List MemPlace)), cs.length = off + d.sz →
    (∀ (i : Nat) (f : Field), fs[i]? = some f → DataW.trod enc P w 0 (fun _ => true) true fuel f.type ((cs.drop f.offset).take (P.cellsOf f.type)) = xs[i]?) → xs.length = fs.length → ∃ a, d.K w a (cs.drop off) ∧ g a
theorem opensF_one {α : Type} {f : Field} {d : Kd α} {g : α → Prop} {off : Nat} (ho : f.offset = off) (hsz : P.cellsOf f.type = d.sz) (h : Opens P f.type d g) : OpensF P [f] d g off := fun H enc fuel w cs xs hl hx hn => by
  have h0 := hx 0 f rfl
  match xs, hn with
  | [x], _ =>
    rw [ho, hsz, List.take_of_length_le (by rw [List.length_drop]; omega)] at h0
    exact h H enc fuel w _ x h0
theorem opensF_cons {α β : Type} {f : Field} {fs : List Field} {d : Kd α} {d' : Kd β} {g : α → Prop} {g' : β → Prop} {off : Nat} (ho : f.offset = off) (hsz : P.cellsOf f.type = d.sz) (h : Opens P f.type d g) (hf : OpensF P fs d' g' (off + d.sz)) :
    OpensF P (f :: fs) (Kd.pair d d') (fun x => g x.1 ∧ g' x.2) off := fun H enc fuel w cs xs hl hx hn => by
  match xs, hn with
  | x :: xs, hn =>
    have h0 := hx 0 f rfl
    rw [ho, hsz] at h0
    obtain ⟨a, hK, hg⟩ := h H enc fuel w _ x h0
    have hl' : cs.length = off + (d.sz + d'.sz) := hl
    obtain ⟨b, hK', hg'⟩ := hf H enc fuel w cs xs (by omega) (fun i q hq => hx (i + 1) q hq) (by simpa using hn)
    refine ⟨(a, b), ⟨(cs.drop off).take d.sz, cs.drop (off + d.sz), ?_, hK, hK'⟩, hg, hg'⟩
    rw [← List.drop_drop, List.take_append_drop]
theorem opens_struct {α : Type} {t : TypeId} {fs : Array Field} {d : Kd α} {g : α → Prop} (hu : P.underlying t = some (.struct fs)) (hsz : P.cellsOf t = d.sz) (hf : OpensF P fs.toList d g 0) : Opens P t d g := fun H enc fuel w cs x hx => by
  obtain ⟨xs, m, rfl, _, hl, hlen, hel⟩ := DataW.trod_struct hu hx
  obtain ⟨a, hK, hg⟩ := hf H enc m w cs xs (by omega) (fun i f hi => hel i f (by rw [← Array.getElem?_toList]; exact hi)) (by simpa using hlen)
  exact ⟨a, hK, hg⟩
theorem opens_iso {α β : Type} {t : TypeId} {d : Kd α} {g : α → Prop} {f : β → α} (inv : α → β) (hi : ∀ x, f (inv x) = x) (h : Opens P t d g) : Opens P t (Kd.iso d f) (fun y => g (f y)) := fun H enc fuel w cs x hx => by
  obtain ⟨a, hK, hg⟩ := h H enc fuel w cs x hx
  refine ⟨inv a, ?_, by show g (f (inv a)); rw [hi]; exact hg⟩
  show d.K w (f (inv a)) cs
  rw [hi]
  exact hK
end
end Go.Proofs.YtnbghhddmlohoaaDoor.RowOpen

end

section
namespace Go.Proofs.YtnbghhddmlohoaaDoor.policyLetsOp
open Go.RowKit Go.Proofs.YtnbghhddmlohoaaDoor.PAll Go.Proofs.YtnbghhddmlohoaaDoorW.PrintWords Go.Proofs.YtnbghhddmlohoaaDoor.RowOpen
def G53 (y : S53) : Prop := y.f0.size ≤ maxLen ∧ (y.f1.length ≤ maxLen ∧ ∀ y4 ∈ y.f1, y4.size ≤ maxLen)
theorem o53 : Opens Tryd.prog 53 k53 G53 := Opens.imp (opens_iso (f := fun x : S53 => (x.f0, x.f1)) (fun x => (⟨x.1, x.2⟩ : S53)) (fun _ => rfl) (opens_struct Tryd.underlying53 (by kernel_rfl) (opensF_cons rfl (by kernel_rfl) (opens_string Tryd.underlying9) (opensF_one rfl (by kernel_rfl) (opens_slice Tryd.underlying23 (by kernel_rfl) (opens_string Tryd.underlying9)))))) (fun y h => h)
def G25 (y : S25) : Prop := (y.f0.length ≤ maxLen ∧ ∀ y4 ∈ y.f0, G53 y4) ∧ (y.f1.length ≤ maxLen ∧ ∀ y4 ∈ y.f1, y4.size ≤ maxLen) ∧ (y.f2.length ≤ maxLen ∧ ∀ y4 ∈ y.f2, y4.size ≤ maxLen) ∧ (y.f3.length ≤ maxLen ∧ ∀ y4 ∈ y.f3, y4.size ≤ maxLen) ∧ (Lit.int .i64 y.f4).wf = true
theorem o25 : Opens Tryd.prog 25 k25 G25 := Opens.imp (opens_iso (f := fun x : S25 => (x.f0, x.f1, x.f2, x.f3, x.f4)) (fun x => (⟨x.1, x.2.1, x.2.2.1, x.2.2.2.1, x.2.2.2.2⟩ : S25)) (fun _ => rfl) (opens_struct Tryd.underlying25 (by kernel_rfl) (opensF_cons rfl (by kernel_rfl) (opens_slice Tryd.underlying22 (by kernel_rfl) o53) (opensF_cons rfl (by kernel_rfl) (opens_slice Tryd.underlying23 (by kernel_rfl) (opens_string Tryd.underlying9)) (opensF_cons rfl (by kernel_rfl) (opens_slice Tryd.underlying23 (by kernel_rfl) (opens_string Tryd.underlying9)) (opensF_cons rfl (by kernel_rfl) (opens_slice Tryd.underlying23 (by kernel_rfl) (opens_string Tryd.underlying9)) (opensF_one rfl (by kernel_rfl) (opens_int Tryd.underlying3)))))))) (fun y h => h)
def G35 (y : S35) : Prop := y.f0.size ≤ maxLen ∧ y.f1.size ≤ maxLen
theorem o35 : Opens Tryd.prog 35 k35 G35 := Opens.imp (opens_iso (f := fun x : S35 => (x.f0, x.f1)) (fun x => (⟨x.1, x.2⟩ : S35)) (fun _ => rfl) (opens_struct Tryd.underlying35 (by kernel_rfl) (opensF_cons rfl (by kernel_rfl) (opens_string Tryd.underlying9) (opensF_one rfl (by kernel_rfl) (opens_string Tryd.underlying9))))) (fun y h => h)
def Plain : Prop := ∀ (x0 : S25) (a1 : ByteArray) (x2 : S35), G25 x0 → a1.size ≤ maxLen → G35 x2 → ∃ k, marginalialaw11_PolicyLets.f k x0.f0 x0.f1 x0.f2 x0.f3 x0.f4 a1 x2.f0 x2.f1 = some true
end Go.Proofs.YtnbghhddmlohoaaDoor.policyLetsOp

end

section
namespace Go.Proofs.YtnbghhddmlohoaaDoor.Pure
open Go.RowKit Go.Proofs.YtnbghhddmlohoaaDoor.PAll Go.Proofs.YtnbghhddmlohoaaDoorW.PrintWords Go.Proofs.YtnbghhddmlohoaaDoorW.PrintLast

theorem wrap_next {i : Nat} (h : i < 9223372036854775807) : wrap64 ((i : Int) + 1) = ((i + 1 : Nat) : Int) := by
  unfold wrap64
  omega
theorem bytes_data (s : ByteArray) : s.toList = s.data.toList := ByteArray.toList_eq s
theorem data_len (s : ByteArray) : s.data.toList.length = s.size := by simp
theorem bt_get (s : ByteArray) (i : Nat) (c : UInt8) (h : s.data.toList[i]? = some c) : bt s (i : Int) = (c.toNat : Int) := by
  obtain ⟨h1, h2⟩ := List.getElem?_eq_some_iff.1 h
  have h3 : i < s.size := by simpa using h1
  unfold bt
  rw [dif_pos (by omega), ← h2]
  rfl
theorem ext_take (s : ByteArray) (a b : Nat) : (s.extract a b).data.toList = (s.data.toList.drop a).take (b - a) := by
  have e : (s.extract a b).data = s.data.extract a b := by simp
  rw [e, Array.toList_extract, List.extract_eq_take_drop]
theorem ba_ext {a b : ByteArray} (h : a.data.toList = b.data.toList) : a = b := by
  obtain ⟨⟨a⟩⟩ := a
  obtain ⟨⟨b⟩⟩ := b
  simp at h
  rw [h]
def sLet (c : UInt8) : Bool := decide (65 ≤ c.toNat ∧ c.toNat ≤ 90) || decide (97 ≤ c.toNat ∧ c.toNat ≤ 122)
def sFig (c : UInt8) : Bool := decide (48 ≤ c.toNat ∧ c.toNat ≤ 57)
def sPart (c : UInt8) : Bool := sLet c || (sFig c || (c == 43 || (c == 45 || c == 46)))
theorem u8_all {p : UInt8 → Prop} (h : ∀ n, n < 256 → p (UInt8.ofNat n)) (c : UInt8) : p c := by
  have := h c.toNat c.toNat_lt
  simpa using this
theorem letter_f (c : UInt8) : kind_Letter.f (c.toNat : Int) = some (sLet c) := by
  revert c
  apply u8_all
  decide +kernel
theorem part_f (c : UInt8) : scheme_part.f (c.toNat : Int) = some (sPart c) := by
  revert c
  apply u8_all
  decide +kernel
theorem rletter_f (c : UInt8) : marginaliaref02_Letter.f (c.toNat : Int) = some (sLet c) := by
  revert c
  apply u8_all
  decide +kernel
theorem rfigure_f (c : UInt8) : marginaliaref02_Figure.f (c.toNat : Int) = some (sFig c) := by
  revert c
  apply u8_all
  decide +kernel
def schN : List UInt8 → Option (List UInt8)
  | [] => none
  | c :: r => if sLet c = true ∧ (c :: r).all sPart = true then some ((c :: r).map lowB) else none
def schL (t : List UInt8) : Option (List UInt8) :=
  if (58 : UInt8) ∈ t then schN (t.takeWhile (· != 58)) else none
def ofS (s : ByteArray) : Option (List UInt8) := schL (tidyL s.data.toList)
def ofR (o : Option (List UInt8)) : ByteArray × Bool := match o with
  | none => (⟨#[]⟩, false)
  | some l => (⟨l.toArray⟩, true)
theorem idx_none (t : List UInt8) (h : (58 : UInt8) ∉ t) : Lib.indexByte t 58 = -1 := by
  induction t with
  | nil => rfl
  | cons c r ih =>
    simp at h
    unfold Lib.indexByte
    rw [if_neg (by simp; exact fun e => h.1 e.symm), ih h.2]
    rfl
theorem idx_some (t : List UInt8) (h : (58 : UInt8) ∈ t) : Lib.indexByte t 58 = ((t.takeWhile (· != 58)).length : Int) := by
  induction t with
  | nil => simp at h
  | cons c r ih =>
    unfold Lib.indexByte
    by_cases e : c = 58
    · subst e; simp
    · have h' : (58 : UInt8) ∈ r := by
        rcases List.mem_cons.1 h with h | h
        · exact absurd h.symm e
        · exact h
      have he : ¬ ((c == 58) = true) := by rw [beq_iff_eq]; exact e
      rw [if_neg he, ih h', List.takeWhile_cons_of_pos (by simpa using e)]
      have hn : ¬ ((((List.takeWhile (· != 58) r).length : Int) == -1) = true) := by rw [beq_iff_eq]; omega
      rw [if_neg hn]
      simp only [List.length_cons]
      omega
theorem take_eq (t : List UInt8) : t.take (t.takeWhile (· != 58)).length = t.takeWhile (· != 58) := (List.prefix_iff_eq_take.1 (List.takeWhile_prefix _)).symm
theorem cut_none (t : ByteArray) (h : (58 : UInt8) ∉ t.data.toList) : strings_Cut.f t ⟨#[58]⟩ = some (t, ⟨#[]⟩, false) := by
  unfold strings_Cut.f stringslite_Cut.f stringslite_Index.f
  rw [if_pos (show (⟨#[58]⟩ : ByteArray).data.size = 1 from rfl)]
  simp only [List.headD_cons, Option.bind_some, idx_none _ h]
  rfl
theorem cut_some (t : ByteArray) (hs : t.size ≤ 1000000) (h : (58 : UInt8) ∈ t.data.toList) : ∃ x, strings_Cut.f t ⟨#[58]⟩ = some (⟨(t.data.toList.takeWhile (· != 58)).toArray⟩, x, true) := by
  have hl := (List.takeWhile_prefix (p := fun c : UInt8 => c != 58) (l := t.data.toList)).length_le
  rw [data_len] at hl
  have hlt : (t.data.toList.takeWhile (· != 58)).length < t.size := by
    have h2 := idx_some _ h
    have : (t.data.toList.takeWhile (· != 58)) ≠ t.data.toList := by
      intro e
      rw [← e] at h
      have := List.all_eq_true.1 (List.all_takeWhile (p := fun c : UInt8 => c != 58) (l := t.data.toList)) 58 h
      simp at this
    rcases Nat.lt_or_ge (t.data.toList.takeWhile (· != 58)).length t.size with h3 | h3
    · exact h3
    · refine absurd ?_ this
      rw [← take_eq]
      exact List.take_of_length_le (by rw [data_len]; exact h3)
  unfold strings_Cut.f stringslite_Cut.f stringslite_Index.f
  rw [if_pos (show (⟨#[58]⟩ : ByteArray).data.size = 1 from rfl)]
  simp only [List.headD_cons, Option.bind_some, idx_some _ h]
  have e1 : ((⟨#[58]⟩ : ByteArray).size : Int) = 1 := rfl
  rw [e1, wrap_next (by omega)]
  rw [if_pos (by omega), if_pos (by omega), if_pos (by omega), if_pos (by omega), if_pos (by omega)]
  refine ⟨t.extract (((t.data.toList.takeWhile (· != 58)).length + 1 : Nat) : Int).toNat t.size, ?_⟩
  simp only [Option.bind_some]
  congr 1
  congr 1
  apply ba_ext
  rw [ext_take]
  simp only [List.drop_zero, Int.toNat_natCast, Nat.sub_zero]
  exact take_eq _
theorem of_l0 (x : ByteArray) (hs : x.size ≤ 1000000) : ∀ (d i : Nat), i + d = x.size →
    Ev (fun k => scheme_Of.l0 k x (x.size : Int) (i : Int)) (if (x.data.toList.drop i).all sPart = true then (⟨(x.data.toList.map lowB).toArray⟩, true) else (⟨#[]⟩, false)) := by
  intro d
  induction d with
  | zero =>
    intro i hi
    refine Ev.step (f := fun _ => some (⟨(x.data.toList.map lowB).toArray⟩, true)) (fun k => ?_) ?_
    · simp only [scheme_Of.l0, kind_Lower.f]
      rw [if_neg (by omega), if_pos (by omega)]
      simp only [Option.bind_some, lowS]
      congr 2
      apply ba_ext
      simp
    · rw [List.drop_of_length_le (by rw [data_len]; omega)]
      exact Ev.now _
  | succ d ih =>
    intro i hi
    have hg : x.data.toList[i]? = some (x.data.toList[i]'(by rw [data_len]; omega)) := List.getElem?_eq_getElem _
    generalize hc : x.data.toList[i]'(by rw [data_len]; omega) = c at hg
    have hd : x.data.toList.drop i = c :: x.data.toList.drop (i + 1) := by
      rw [List.drop_eq_getElem_cons (by rw [data_len]; omega), hc]
    by_cases hp : sPart c = true
    · refine Ev.step (f := fun k => scheme_Of.l0 k x (x.size : Int) ((i + 1 : Nat) : Int)) (fun k => ?_) ?_
      · simp only [scheme_Of.l0]
        rw [if_pos (by omega), if_pos (by omega), if_pos (by omega), bt_get x i c hg, part_f, hp, wrap_next (by omega)]
        simp
      · rw [hd, List.all_cons, hp, Bool.true_and]
        exact ih (i + 1) (by omega)
    · replace hp := Bool.eq_false_iff.mpr hp
      refine Ev.step (f := fun k => some (⟨#[]⟩, false)) (fun k => ?_) ?_
      · simp only [scheme_Of.l0]
        rw [if_pos (by omega), if_pos (by omega), if_pos (by omega), bt_get x i c hg, part_f, hp]
        simp
      · rw [hd, List.all_cons, hp, Bool.false_and]
        exact Ev.now _
theorem tidyL_len (l : List UInt8) : (tidyL l).length ≤ l.length :=
  Nat.le_trans (List.length_filter_le _ _) (List.dropWhile_suffix _).length_le
theorem of_ev (s : ByteArray) (hs : s.size ≤ 1000000) : Ev (fun k => scheme_Of.f k s) (ofR (ofS s)) := by
  have ht : scheme_tidy.f s = some ⟨(tidyL s.data.toList).toArray⟩ := by
    unfold scheme_tidy.f
    rw [if_pos (by omega)]
  unfold ofS
  have hlen := tidyL_len s.data.toList
  rw [data_len] at hlen
  generalize tidyL s.data.toList = t at ht hlen
  unfold scheme_Of.f
  rw [ht]
  simp only [Option.bind_some]
  have hT : (⟨t.toArray⟩ : ByteArray).data.toList = t := rfl
  have hsz : (⟨t.toArray⟩ : ByteArray).size = t.length := rfl
  by_cases h : (58 : UInt8) ∈ t
  · obtain ⟨x, hx⟩ := cut_some ⟨t.toArray⟩ (by rw [hsz]; omega) h
    rw [hx]
    simp only [Option.bind_some, if_true]
    unfold schL
    rw [if_pos h]
    have hl := (List.takeWhile_prefix (p := fun c : UInt8 => c != 58) (l := t)).length_le
    generalize List.takeWhile (· != 58) t = nm at hl
    have hN : (⟨nm.toArray⟩ : ByteArray).data.toList = nm := rfl
    have hNs : (⟨nm.toArray⟩ : ByteArray).size = nm.length := rfl
    rw [bytes_data, hN]
    cases nm with
    | nil =>
      refine Ev.step (f := fun _ => some (⟨#[]⟩, false)) (fun k => ?_) (Ev.now _)
      rw [if_pos rfl]
      rfl
    | cons c r =>
      have hb : bt ⟨(c :: r).toArray⟩ 0 = (c.toNat : Int) := bt_get ⟨(c :: r).toArray⟩ 0 c rfl
      refine Ev.congr (f := fun k => scheme_Of.j0 k ⟨(c :: r).toArray⟩ (!sLet c)) (fun k => ?_) ?_
      · rw [if_neg (by simp), if_pos (by rw [hNs, List.length_cons]; omega), hb, letter_f]
        rfl
      · by_cases hl1 : sLet c = true
        · rw [hl1]
          refine Ev.step (f := fun k => scheme_Of.l0 k ⟨(c :: r).toArray⟩ ((⟨(c :: r).toArray⟩ : ByteArray).size : Int) ((0 : Nat) : Int)) (fun k => ?_) ?_
          · simp [scheme_Of.j0]
          · have := of_l0 ⟨(c :: r).toArray⟩ (by rw [hNs]; omega) (⟨(c :: r).toArray⟩ : ByteArray).size 0 (by omega)
            rw [List.drop_zero, hN] at this
            by_cases ha : (c :: r).all sPart = true
            · rw [if_pos ha] at this; rw [schN, if_pos ⟨hl1, ha⟩]; exact this
            · rw [if_neg ha] at this; rw [schN, if_neg (fun e => ha e.2)]; exact this
        · replace hl1 := Bool.eq_false_iff.mpr hl1
          rw [hl1]
          refine Ev.step (f := fun k => some (⟨#[]⟩, false)) (fun k => ?_) ?_
          · simp [scheme_Of.j0]
          · rw [schN, if_neg (by rw [hl1]; simp)]
            exact Ev.now _
  · rw [cut_none ⟨t.toArray⟩ h]
    simp only [Option.bind_some]
    unfold schL
    rw [if_neg h]
    refine Ev.step (f := fun _ => some (⟨#[]⟩, false)) (fun k => ?_) (Ev.now _)
    rfl
theorem drop_get (s : ByteArray) (i : Nat) (h : i < s.size) : ∃ c, s.data.toList[i]? = some c ∧ s.data.toList.drop i = c :: s.data.toList.drop (i + 1) := by
  have h' : i < s.data.toList.length := by rw [data_len]; exact h
  exact ⟨s.data.toList[i], List.getElem?_eq_getElem h', List.drop_eq_getElem_cons h'⟩
theorem append_data (a b : ByteArray) : (a ++ b).data.toList = a.data.toList ++ b.data.toList := by simp
theorem rtidy_l1 (x : ByteArray) (hs : x.size ≤ 1000000) : ∀ (d i : Nat) (acc : ByteArray), i + d = x.size → acc.size ≤ i →
    Ev (fun k => marginaliaref10_tidy.l1 k x acc (i : Int)) ⟨(acc.data.toList ++ (x.data.toList.drop i).filter keepC).toArray⟩ := by
  intro d
  induction d with
  | zero =>
    intro i acc hi ha
    refine Ev.step (f := fun _ => some acc) (fun k => ?_) ?_
    · simp only [marginaliaref10_tidy.l1]
      rw [if_neg (by omega)]
    · rw [List.drop_of_length_le (by rw [data_len]; omega)]
      have : (⟨(acc.data.toList ++ List.filter keepC []).toArray⟩ : ByteArray) = acc := ba_ext (by simp)
      rw [this]
      exact Ev.now _
  | succ d ih =>
    intro i acc hi ha
    obtain ⟨c, hc, hd⟩ := drop_get x i (by omega)
    have hb := bt_get x i c hc
    rw [hd, List.filter_cons]
    by_cases h9 : (c.toNat : Int) = 9
    · refine Ev.step (f := fun k => marginaliaref10_tidy.l1 k x acc ((i + 1 : Nat) : Int)) (fun k => ?_) ?_
      · simp only [marginaliaref10_tidy.l1]
        rw [if_pos (by omega), if_pos (by omega), hb, if_pos h9, wrap_next (by omega)]
      · rw [if_neg (by simp [keepC]; omega)]
        exact ih (i + 1) acc (by omega) (by omega)
    by_cases h10 : (c.toNat : Int) = 10
    · refine Ev.step (f := fun k => marginaliaref10_tidy.l1 k x acc ((i + 1 : Nat) : Int)) (fun k => ?_) ?_
      · simp only [marginaliaref10_tidy.l1]
        rw [if_pos (by omega), if_pos (by omega), hb, if_neg h9, if_pos h10, wrap_next (by omega)]
      · rw [if_neg (by simp [keepC]; omega)]
        exact ih (i + 1) acc (by omega) (by omega)
    by_cases h13 : (c.toNat : Int) = 13
    · refine Ev.step (f := fun k => marginaliaref10_tidy.l1 k x acc ((i + 1 : Nat) : Int)) (fun k => ?_) ?_
      · simp only [marginaliaref10_tidy.l1]
        rw [if_pos (by omega), if_pos (by omega), hb, if_neg h9, if_neg h10, if_pos h13, wrap_next (by omega)]
      · rw [if_neg (by simp [keepC]; omega)]
        exact ih (i + 1) acc (by omega) (by omega)
    have he : (x.extract (i : Int).toNat ((i + 1 : Nat) : Int).toNat).data.toList = [c] := by
      rw [ext_take, Int.toNat_natCast, Int.toNat_natCast, hd, show i + 1 - i = 1 by omega]
      rfl
    have hes : (x.extract (i : Int).toNat ((i + 1 : Nat) : Int).toNat).size = 1 := by
      rw [← data_len, he]; rfl
    refine Ev.step (f := fun k => marginaliaref10_tidy.l1 k x (acc ++ x.extract (i : Int).toNat ((i + 1 : Nat) : Int).toNat) ((i + 1 : Nat) : Int)) (fun k => ?_) ?_
    · simp only [marginaliaref10_tidy.l1]
      rw [if_pos (by omega), if_pos (by omega), hb, if_neg h9, if_neg h10, if_neg h13, wrap_next (by omega)]
      rw [if_pos (by omega), if_pos (by omega), if_pos (by rw [hes]; omega)]
    · rw [if_pos (by simp [keepC]; omega)]
      have h := ih (i + 1) (acc ++ x.extract (i : Int).toNat ((i + 1 : Nat) : Int).toNat) (by omega) (by rw [ByteArray.size_append, hes]; omega)
      rw [append_data, he, List.append_assoc] at h
      exact h
theorem rtidy_l0 : ∀ (d : Nat) (x : ByteArray), x.size = d → d ≤ 1000000 → Ev (fun k => marginaliaref10_tidy.l0 k x) ⟨(tidyL x.data.toList).toArray⟩ := by
  have hend : ∀ (x : ByteArray), x.size ≤ 1000000 → Ev (fun k => marginaliaref10_tidy.j1 k x) ⟨(x.data.toList.filter keepC).toArray⟩ := by
    intro x hx
    refine Ev.step (f := fun k => marginaliaref10_tidy.l1 k x ⟨#[]⟩ ((0 : Nat) : Int)) (fun k => by simp only [marginaliaref10_tidy.j1]; rfl) ?_
    have := rtidy_l1 x hx x.size 0 ⟨#[]⟩ (by omega) (Nat.le_refl _)
    exact this
  intro d
  induction d with
  | zero =>
    intro x hx hd
    have hn : x.data.toList = [] := List.eq_nil_of_length_eq_zero (by rw [data_len]; exact hx)
    refine Ev.step (f := fun k => marginaliaref10_tidy.j1 k x) (fun k => ?_) ?_
    · simp only [marginaliaref10_tidy.l0]
      rw [if_pos (by rw [bytes_data, hn])]
    · have := hend x (by omega)
      rw [hn] at this ⊢
      exact this
  | succ d ih =>
    intro x hx hd
    obtain ⟨c, hc, hdr⟩ := drop_get x 0 (by omega)
    rw [List.drop_zero] at hdr
    have hb : bt x 0 = (c.toNat : Int) := bt_get x 0 c hc
    by_cases hl : (c.toNat : Int) ≤ 32
    · refine Ev.step (f := fun k => marginaliaref10_tidy.l0 k (x.extract 1 x.size)) (fun k => ?_) ?_
      · simp only [marginaliaref10_tidy.l0]
        rw [if_neg (by rw [bytes_data, hdr]; simp), if_pos (by omega), hb, if_pos hl, if_pos (by omega)]
      · have he : (x.extract 1 x.size).data.toList = x.data.toList.drop 1 := Lib.extract_to_end x 1
        have h := ih (x.extract 1 x.size) (by rw [← data_len, he, List.length_drop, data_len]; omega) (by omega)
        rw [he] at h
        have e2 : tidyL x.data.toList = tidyL (x.data.toList.drop 1) := by
          unfold tidyL
          rw [hdr, List.dropWhile_cons_of_pos (by simp [lowC]; omega)]
          rfl
        rw [e2]
        exact h
    · refine Ev.step (f := fun k => marginaliaref10_tidy.j1 k x) (fun k => ?_) ?_
      · simp only [marginaliaref10_tidy.l0]
        rw [if_neg (by rw [bytes_data, hdr]; simp), if_pos (by omega), hb, if_neg hl]
      · have e2 : tidyL x.data.toList = x.data.toList.filter keepC := by
          unfold tidyL
          rw [hdr, List.dropWhile_cons_of_neg (by simp [lowC]; omega)]
        rw [e2]
        exact hend x (by omega)
theorem low_num (c : UInt8) : (65 ≤ (c.toNat : Int) → (c.toNat : Int) ≤ 90 → ((lowB c).toNat : Int) = ((c.toNat : Int) + 32) % 256) ∧ (¬ (65 ≤ (c.toNat : Int) ∧ (c.toNat : Int) ≤ 90) → lowB c = c) := by
  revert c
  apply u8_all
  decide +kernel
def numsOf (l : List UInt8) : List Int := l.map fun c => (c.toNat : Int)
theorem strOf_nums (l : List UInt8) : strOfNums (numsOf l) = ⟨l.toArray⟩ := by
  unfold strOfNums numsOf
  congr 1
  rw [List.map_map]
  congr 1
  conv => rhs; rw [← List.map_id l]
  apply List.map_congr_left
  intro c _
  simp
theorem rlower_l0 (x : ByteArray) (hs : x.size ≤ 1000000) : ∀ (d i : Nat), i + d = x.size →
    Ev (fun k => marginaliaref02_Lower.l0 k x (numsOf ((x.data.toList.take i).map lowB)) (i : Int)) ⟨(x.data.toList.map lowB).toArray⟩ := by
  intro d
  induction d with
  | zero =>
    intro i hi
    refine Ev.step (f := fun _ => some ⟨(x.data.toList.map lowB).toArray⟩) (fun k => ?_) (Ev.now _)
    simp only [marginaliaref02_Lower.l0]
    rw [if_neg (by omega), strOf_nums, List.take_of_length_le (by rw [data_len]; omega)]
  | succ d ih =>
    intro i hi
    obtain ⟨c, hc, hd⟩ := drop_get x i (by omega)
    have hb := bt_get x i c hc
    have hlen : (numsOf ((x.data.toList.take i).map lowB)).length ≤ i := by
      unfold numsOf
      rw [List.length_map, List.length_map, List.length_take]
      omega
    have hsn : ∀ n : Int, ((lowB c).toNat : Int) = n → numsOf ((x.data.toList.take i).map lowB) ++ [n] = numsOf ((x.data.toList.take (i + 1)).map lowB) := by
      intro n hn
      rw [List.take_add_one, hc]
      simp [numsOf, hn]
    have hl := low_num c
    refine Ev.step (f := fun k => marginaliaref02_Lower.l0 k x (numsOf ((x.data.toList.take (i + 1)).map lowB)) ((i + 1 : Nat) : Int)) (fun k => ?_) (ih (i + 1) (by omega))
    simp only [marginaliaref02_Lower.l0]
    rw [if_pos (by omega), if_pos (by omega), hb, wrap_next (by omega)]
    by_cases h1 : (c.toNat : Int) ≥ 65
    · by_cases h2 : (c.toNat : Int) ≤ 90
      · rw [if_pos h1, if_pos h2, if_pos (by omega), hsn _ (hl.1 h1 h2)]
      · rw [if_pos h1, if_neg h2, if_pos (by omega), hsn _ (by rw [hl.2 (fun e => h2 e.2)])]
    · rw [if_neg h1, if_pos (by omega), hsn _ (by rw [hl.2 (fun e => h1 e.1)])]
theorem rlower_ev (x : ByteArray) (hs : x.size ≤ 1000000) : Ev (fun k => marginaliaref02_Lower.f k x) ⟨(x.data.toList.map lowB).toArray⟩ := by
  have := rlower_l0 x hs x.size 0 (by omega)
  rw [List.take_zero] at this
  exact this
def refN : List UInt8 → List UInt8 → Option (List UInt8)
  | _, [] => none
  | p, c :: r => if c = 58 then some (p.map lowB) else if sPart c = true then refN (p ++ [c]) r else none
theorem refN_eq (r : List UInt8) : ∀ p, refN p r = if (58 : UInt8) ∈ r ∧ (r.takeWhile (· != 58)).all sPart = true then some ((p ++ r.takeWhile (· != 58)).map lowB) else none := by
  induction r with
  | nil => intro p; simp [refN]
  | cons c r ih =>
    intro p
    rw [refN]
    by_cases h : c = 58
    · subst h; simp
    · rw [if_neg h, List.takeWhile_cons_of_pos (by simpa using h), List.all_cons]
      by_cases hp : sPart c = true
      · rw [if_pos hp, ih, hp, Bool.true_and]
        have e : (58 : UInt8) ∈ c :: r ↔ (58 : UInt8) ∈ r := by
          rw [List.mem_cons]; exact ⟨fun o => o.resolve_left (fun e => h e.symm), Or.inr⟩
        simp only [e, List.append_assoc, List.cons_append, List.nil_append]
      · rw [if_neg hp, if_neg]
        rintro ⟨_, h2⟩
        rw [Bool.and_eq_true] at h2
        exact hp h2.1
theorem schL_cons (c : UInt8) (r : List UInt8) : schL (c :: r) = if sLet c = true then refN [] (c :: r) else none := by
  unfold schL
  rw [refN_eq, List.nil_append]
  by_cases h : c = 58
  · subst h
    rw [if_pos (by simp), if_neg (by decide)]
    simp [schN]
  · rw [List.takeWhile_cons_of_pos (by simpa using h), schN]
    by_cases h1 : (58 : UInt8) ∈ c :: r
    · by_cases h2 : sLet c = true
      · rw [if_pos h1, if_pos h2]
        by_cases h3 : (c :: r.takeWhile (· != 58)).all sPart = true
        · rw [if_pos ⟨h2, h3⟩, if_pos ⟨h1, h3⟩]
        · rw [if_neg (fun e => h3 e.2), if_neg (fun e => h3 e.2)]
      · rw [if_pos h1, if_neg h2, if_neg (fun e => h2 e.1)]
    · rw [if_neg h1]
      split
      · rw [if_neg (fun e => h1 e.1)]
      · rfl
theorem rof_l0 (x : ByteArray) (hs : x.size ≤ 1000000) : ∀ (d i : Nat), i + d = x.size →
    Ev (fun k => marginaliaref10_Of.l0 k x (i : Int)) (ofR (refN (x.data.toList.take i) (x.data.toList.drop i))) := by
  intro d
  induction d with
  | zero =>
    intro i hi
    refine Ev.step (f := fun _ => some (⟨#[]⟩, false)) (fun k => ?_) ?_
    · simp only [marginaliaref10_Of.l0]
      rw [if_neg (by omega)]
    · rw [List.drop_of_length_le (by rw [data_len]; omega)]
      exact Ev.now _
  | succ d ih =>
    intro i hi
    obtain ⟨c, hc, hd⟩ := drop_get x i (by omega)
    have hb := bt_get x i c hc
    rw [hd, refN]
    by_cases h : c = 58
    · rw [if_pos h]
      refine Ev.step (f := fun k => (marginaliaref02_Lower.f k (x.extract 0 (i : Int).toNat)).bind fun t => some (t, true)) (fun k => ?_) ?_
      · simp only [marginaliaref10_Of.l0]
        rw [if_pos (by omega), if_pos (by omega), hb, if_pos (by rw [h]; rfl), if_pos (by omega)]
      · have he : (x.extract 0 (i : Int).toNat).data.toList = x.data.toList.take i := by
          rw [ext_take]; simp
        have hl := rlower_ev (x.extract 0 (i : Int).toNat) (by rw [← data_len, he, List.length_take, data_len]; omega)
        rw [he] at hl
        exact Ev.bind (f := fun _ t => some (t, true)) hl (Ev.now _)
    · have hn : ¬ (c.toNat : Int) = 58 := by
        intro e
        exact h (UInt8.toNat.inj (by rw [show (58 : UInt8).toNat = 58 from rfl]; omega))
      rw [if_neg h]
      have htk : x.data.toList.take i ++ [c] = x.data.toList.take (i + 1) := by rw [List.take_add_one, hc]; rfl
      rw [htk]
      by_cases hp : sPart c = true
      · rw [if_pos hp]
        refine Ev.step (f := fun k => marginaliaref10_Of.l0 k x ((i + 1 : Nat) : Int)) (fun k => ?_) (ih (i + 1) (by omega))
        simp only [marginaliaref10_Of.l0]
        rw [if_pos (by omega), if_pos (by omega), hb, if_neg hn, rletter_f, rfigure_f, wrap_next (by omega)]
        unfold sPart at hp
        simp only [Option.bind_some]
        by_cases q1 : sLet c = true
        · rw [if_pos q1]
        by_cases q2 : sFig c = true
        · rw [if_neg q1, if_pos q2]
        rw [if_neg q1, if_neg q2]
        simp [q1, q2] at hp
        rcases hp with rfl | rfl | rfl
        · rw [if_pos (by decide)]
        · rw [if_neg (by decide), if_pos (by decide)]
        · rw [if_neg (by decide), if_neg (by decide), if_pos (by decide)]
      · rw [if_neg hp]
        refine Ev.step (f := fun k => some (⟨#[]⟩, false)) (fun k => ?_) (Ev.now _)
        simp only [marginaliaref10_Of.l0]
        rw [if_pos (by omega), if_pos (by omega), hb, if_neg hn, rletter_f, rfigure_f]
        unfold sPart at hp
        simp at hp
        obtain ⟨p1, p2, p3, p4, p5⟩ := hp
        have u : ∀ (a : UInt8) (n : Nat), a.toNat = n → c ≠ a → ¬ (c.toNat : Int) = (n : Int) := fun a n ha hne e => hne (UInt8.toNat.inj (by omega))
        simp only [Option.bind_some]
        rw [if_neg (by rw [p1]; simp), if_neg (by rw [p2]; simp), if_neg (show ¬ (c.toNat : Int) = 43 from u 43 43 rfl p3), if_neg (show ¬ (c.toNat : Int) = 45 from u 45 45 rfl p4), if_neg (show ¬ (c.toNat : Int) = 46 from u 46 46 rfl p5)]
theorem rof_ev (s : ByteArray) (hs : s.size ≤ 1000000) : Ev (fun k => marginaliaref10_Of.f k s) (ofR (ofS s)) := by
  have ht : Ev (fun k => marginaliaref10_tidy.f k s) ⟨(tidyL s.data.toList).toArray⟩ := rtidy_l0 s.size s rfl hs
  have hlen := tidyL_len s.data.toList
  rw [data_len] at hlen
  unfold ofS
  generalize tidyL s.data.toList = t at ht hlen
  have hT : (⟨t.toArray⟩ : ByteArray).data.toList = t := rfl
  have hsz : (⟨t.toArray⟩ : ByteArray).size = t.length := rfl
  unfold marginaliaref10_Of.f
  refine Ev.bind (f := fun k t131 => if t131.toList = ([] : List UInt8) then marginaliaref10_Of.j0 k t131 true else if 0 < (t131.size : Int) then ((marginaliaref02_Letter.f (bt t131 0)).bind fun t132 => marginaliaref10_Of.j0 k t131 (!t132)) else none) ht ?_
  rw [bytes_data, hT]
  cases t with
  | nil =>
    refine Ev.step (f := fun _ => some (⟨#[]⟩, false)) (fun k => ?_) (Ev.now _)
    rw [if_pos rfl]
    rfl
  | cons c r =>
    have hb : bt ⟨(c :: r).toArray⟩ 0 = (c.toNat : Int) := bt_get ⟨(c :: r).toArray⟩ 0 c rfl
    refine Ev.congr (f := fun k => marginaliaref10_Of.j0 k ⟨(c :: r).toArray⟩ (!sLet c)) (fun k => ?_) ?_
    · rw [if_neg (by simp), if_pos (by rw [hsz, List.length_cons]; omega), hb, rletter_f]
      rfl
    · rw [schL_cons]
      by_cases hl1 : sLet c = true
      · rw [hl1, if_pos rfl]
        refine Ev.step (f := fun k => marginaliaref10_Of.l0 k ⟨(c :: r).toArray⟩ ((0 : Nat) : Int)) (fun k => ?_) ?_
        · simp [marginaliaref10_Of.j0]
        · exact rof_l0 ⟨(c :: r).toArray⟩ (by rw [hsz]; omega) (⟨(c :: r).toArray⟩ : ByteArray).size 0 (by omega)
      · rw [if_neg hl1]
        replace hl1 := Bool.eq_false_iff.mpr hl1
        rw [hl1]
        refine Ev.step (f := fun k => some (⟨#[]⟩, false)) (fun k => ?_) (Ev.now _)
        simp [marginaliaref10_Of.j0]
def safeS (s : ByteArray) (l : List ByteArray) : Bool := match ofS s with
  | none => true
  | some t => l.any fun x => x.data.toList == t
theorem rd_at (l : List ByteArray) (i : Nat) (h : i < l.length) : rdOf ByteArray.empty l (i : Int) = l[i] := by
  simp [rdOf, List.getD_eq_getElem?_getD, h]
theorem index_l0 (l : List ByteArray) (x : ByteArray) (hl : l.length ≤ 1000000) : ∀ (d i : Nat), i + d = l.length →
    ∃ n : Int, Ev (fun k => slices_Index_string_string.l0 k l x (l.length : Int) (i : Int)) n ∧ decide (n ≥ 0) = (l.drop i).any (fun y => y.data.toList == x.data.toList) := by
  intro d
  induction d with
  | zero =>
    intro i hi
    refine ⟨-1, Ev.step (f := fun _ => some (-1)) (fun k => ?_) (Ev.now _), ?_⟩
    · simp only [slices_Index_string_string.l0]
      rw [if_neg (by omega)]
    · rw [List.drop_of_length_le (by omega)]; rfl
  | succ d ih =>
    intro i hi
    have hlt : i < l.length := by omega
    rw [List.drop_eq_getElem_cons hlt, List.any_cons]
    by_cases h : l[i].data.toList = x.data.toList
    · refine ⟨(i : Int), Ev.step (f := fun _ => some (i : Int)) (fun k => ?_) (Ev.now _), ?_⟩
      · simp only [slices_Index_string_string.l0]
        rw [if_pos (by omega), if_pos (by omega), if_pos (by omega), rd_at l i hlt, bytes_data, bytes_data, if_pos h.symm]
      · rw [h, beq_self_eq_true, Bool.true_or, decide_eq_true (by omega)]
    · obtain ⟨n, h1, h2⟩ := ih (i + 1) (by omega)
      refine ⟨n, Ev.step (f := fun k => slices_Index_string_string.l0 k l x (l.length : Int) ((i + 1 : Nat) : Int)) (fun k => ?_) h1, ?_⟩
      · simp only [slices_Index_string_string.l0]
        rw [if_pos (by omega), if_pos (by omega), if_pos (by omega), rd_at l i hlt, bytes_data, bytes_data, if_neg (fun e => h e.symm), wrap_next (by omega)]
      · have e : (l[i].data.toList == x.data.toList) = false := beq_eq_false_iff_ne.mpr h
        rw [h2, e, Bool.false_or]
theorem contains_ev (l : List ByteArray) (x : ByteArray) (hl : l.length ≤ 1000000) : Ev (fun k => slices_Contains_string_string.f k l x) (l.any fun y => y.data.toList == x.data.toList) := by
  obtain ⟨n, h1, h2⟩ := index_l0 l x hl l.length 0 (by omega)
  rw [List.drop_zero] at h2
  rw [← h2]
  unfold slices_Contains_string_string.f
  exact Ev.bind (f := fun _ t => some (decide (t ≥ 0))) h1 (Ev.now _)
theorem safe_ev (s : ByteArray) (l : List ByteArray) (hs : s.size ≤ 1000000) (hl : l.length ≤ 1000000) : Ev (fun k => scheme_Safe.f k s l) (safeS s l) := by
  unfold scheme_Safe.f safeS
  have h := of_ev s hs
  cases ho : ofS s with
  | none =>
    rw [ho] at h
    refine Ev.bind (f := fun k bt => if bt.2 = true then ((slices_Contains_string_string.f k l bt.1).bind fun t118 => some t118) else some true) h ?_
    exact Ev.congr (f := fun _ => some true) (fun k => rfl) (Ev.now _)
  | some t =>
    rw [ho] at h
    refine Ev.bind (f := fun k bt => if bt.2 = true then ((slices_Contains_string_string.f k l bt.1).bind fun t118 => some t118) else some true) h ?_
    exact Ev.bind (f := fun _ t => some t) (contains_ev l ⟨t.toArray⟩ hl) (Ev.now _)
theorem rsafe_l0 (l : List ByteArray) (x : ByteArray) (hl : l.length ≤ 1000000) : ∀ (d i : Nat), i + d = l.length →
    Ev (fun k => marginaliaref10_Safe.l0 k l x (i : Int)) ((l.drop i).any (fun y => y.data.toList == x.data.toList)) := by
  intro d
  induction d with
  | zero =>
    intro i hi
    refine Ev.step (f := fun _ => some false) (fun k => ?_) ?_
    · simp only [marginaliaref10_Safe.l0]
      rw [if_neg (by omega)]
    · rw [List.drop_of_length_le (by omega)]; exact Ev.now _
  | succ d ih =>
    intro i hi
    have hlt : i < l.length := by omega
    rw [List.drop_eq_getElem_cons hlt, List.any_cons]
    by_cases h : l[i].data.toList = x.data.toList
    · refine Ev.step (f := fun _ => some true) (fun k => ?_) ?_
      · simp only [marginaliaref10_Safe.l0]
        rw [if_pos (by omega), if_pos (by omega), rd_at l i hlt, bytes_data, bytes_data, if_pos h]
      · rw [h, beq_self_eq_true, Bool.true_or]; exact Ev.now _
    · refine Ev.step (f := fun k => marginaliaref10_Safe.l0 k l x ((i + 1 : Nat) : Int)) (fun k => ?_) ?_
      · simp only [marginaliaref10_Safe.l0]
        rw [if_pos (by omega), if_pos (by omega), rd_at l i hlt, bytes_data, bytes_data, if_neg h, wrap_next (by omega)]
      · have e : (l[i].data.toList == x.data.toList) = false := beq_eq_false_iff_ne.mpr h
        rw [e, Bool.false_or]
        exact ih (i + 1) (by omega)
theorem rsafe_ev (s : ByteArray) (l : List ByteArray) (hs : s.size ≤ 1000000) (hl : l.length ≤ 1000000) : Ev (fun k => marginaliaref10_Safe.f k s l) (safeS s l) := by
  unfold marginaliaref10_Safe.f safeS
  have h := rof_ev s hs
  cases ho : ofS s with
  | none =>
    rw [ho] at h
    refine Ev.bind (f := fun k bt => if bt.2 = true then marginaliaref10_Safe.l0 k l bt.1 0 else some true) h ?_
    exact Ev.congr (f := fun _ => some true) (fun k => rfl) (Ev.now _)
  | some t =>
    rw [ho] at h
    refine Ev.bind (f := fun k bt => if bt.2 = true then marginaliaref10_Safe.l0 k l bt.1 0 else some true) h ?_
    have := rsafe_l0 l ⟨t.toArray⟩ hl l.length 0 (by omega)
    rw [List.drop_zero] at this
    exact this
def w_raw : List (List UInt8) := [[105, 102, 114, 97, 109, 101], [110, 111, 101, 109, 98, 101, 100], [110, 111, 102, 114, 97, 109, 101, 115], [115, 99, 114, 105, 112, 116], [115, 116, 121, 108, 101], [120, 109, 112]]
def w_rcdata : List (List UInt8) := [[116, 101, 120, 116, 97, 114, 101, 97], [116, 105, 116, 108, 101]]
def w_table : List (List UInt8) := [[99, 97, 112, 116, 105, 111, 110], [99, 111, 108], [99, 111, 108, 103, 114, 111, 117, 112], [116, 98, 111, 100, 121], [116, 100], [116, 102, 111, 111, 116], [116, 104], [116, 104, 101, 97, 100], [116, 114]]
def w_skip : List (List UInt8) := [[98, 111, 100, 121], [102, 114, 97, 109, 101], [102, 114, 97, 109, 101, 115, 101, 116], [104, 101, 97, 100], [104, 116, 109, 108]]

def setK (k : Int) : List (List UInt8) :=
  if k = 2 then w_raw else if k = 3 then w_rcdata else if k = 12 then w_table ++ w_skip else []
def inK (k : Int) (name : ByteArray) : Bool := (setK k).contains name.data.toList

theorem size_toList (s : ByteArray) : s.toList.length = s.size := by rw [bytes_data]; simp
theorem bt_nat (s : ByteArray) (i : Nat) (h : i < s.size) : bt s (i : Int) = ((s.toList.getD i 0).toNat : Int) := by
  have h' : i < s.data.size := h
  rw [bytes_data]
  simp [bt, h, List.getD_eq_getElem?_getD]
  rfl
theorem among_l0 (a0 : ByteArray) (xs : List ByteArray) (hx : xs.length ≤ 1000000) : ∀ (d i k : Nat), i + d = xs.length → d < k →
    kind_among.l0 k a0 xs (xs.length : Int) (i : Int) = some ((xs.drop i).any fun s => s.toList == a0.toList) := by
  intro d
  induction d with
  | zero =>
    intro i k hi hk
    obtain ⟨k, rfl⟩ : ∃ m, k = m + 1 := ⟨k - 1, by omega⟩
    simp only [kind_among.l0]
    rw [if_neg (by omega), List.drop_of_length_le (by omega)]
    rfl
  | succ d ih =>
    intro i k hi hk
    obtain ⟨k, rfl⟩ : ∃ m, k = m + 1 := ⟨k - 1, by omega⟩
    have hlt : i < xs.length := by omega
    simp only [kind_among.l0]
    rw [if_pos (by omega), if_pos (by omega), if_pos (by omega), wrap_next (by omega), ih (i + 1) k (by omega) (by omega)]
    have e : rdOf ByteArray.empty xs (i : Int) = xs[i] := by simp [rdOf, List.getD_eq_getElem?_getD, hlt]
    rw [e, List.drop_eq_getElem_cons hlt, List.any_cons]
    by_cases h : xs[i].toList = a0.toList
    · rw [if_pos h]; simp [h]
    · rw [if_neg h]; simp [h]
theorem among_ev (a0 : ByteArray) (xs : List ByteArray) (hx : xs.length ≤ 1000000) : Ev (fun k => kind_among.f k a0 xs) ((xs.map fun s => s.data.toList).contains a0.data.toList) := by
  refine ⟨xs.length + 1, fun k hk => ?_⟩
  have h := among_l0 a0 xs hx xs.length 0 k (by omega) (by omega)
  unfold kind_among.f
  rw [List.drop_zero] at h
  refine Eq.trans h ?_
  congr 1
  rw [List.contains_eq_any_beq, List.any_map]
  apply congrArg (fun p => List.any xs p)
  funext s
  rw [bytes_data, bytes_data]
  exact Bool.beq_comm
theorem raw_ev (a0 : ByteArray) : Ev (fun k => kind_raw.f k a0) (w_raw.contains a0.data.toList) := by
  unfold kind_raw.f
  refine Ev.bind (among_ev a0 _ (by decide)) ?_
  exact ⟨0, fun _ _ => rfl⟩
theorem rcdata_ev (a0 : ByteArray) : Ev (fun k => kind_rcdata.f k a0) (w_rcdata.contains a0.data.toList) := by
  unfold kind_rcdata.f
  refine Ev.bind (among_ev a0 _ (by decide)) ?_
  exact ⟨0, fun _ _ => rfl⟩
theorem table_ev (a0 : ByteArray) : Ev (fun k => kind_table.f k a0) (w_table.contains a0.data.toList) := by
  unfold kind_table.f
  refine Ev.bind (among_ev a0 _ (by decide)) ?_
  exact ⟨0, fun _ _ => rfl⟩
theorem Ev.or {g : Nat → Option Bool} {f : Nat → Option Bool} {b c : Bool} (h : Ev g b) (h' : Ev f c) : Ev (fun n => (g n).bind fun t => if t = true then some true else f n) (b || c) := by
  refine Ev.bind h ?_
  cases b with
  | true => exact ⟨0, fun _ _ => rfl⟩
  | false => exact Ev.congr (fun _ => rfl) h'
theorem Ev.pass {g : Nat → Option Bool} {b : Bool} (h : Ev g b) : Ev (fun n => (g n).bind fun t => some t) b := by
  refine Ev.bind h ?_
  exact ⟨0, fun _ _ => rfl⟩
theorem contains_append (a b : List (List UInt8)) (x : List UInt8) : (a ++ b).contains x = (a.contains x || b.contains x) := by
  simp
theorem is_ev (k0 : Int) (a1 : ByteArray) (h : k0 = 2 ∨ k0 = 3 ∨ k0 = 12 := by decide) : Ev (fun k => kind_Is.f k k0 a1) (inK k0 a1) := by
  unfold inK
  rcases h with rfl | rfl | rfl
  · exact Ev.congr (fun _ => rfl) (Ev.pass (raw_ev a1))
  · exact Ev.congr (fun _ => rfl) (Ev.pass (rcdata_ev a1))
  · have e : setK 12 = w_table ++ w_skip := rfl
    rw [e, contains_append]
    exact Ev.congr (fun _ => rfl) (Ev.or (table_ev a1) (Ev.pass (among_ev a1 _ (by decide))))
def splitG : List UInt8 → List UInt8 → List (List UInt8)
  | cur, [] => [cur]
  | cur, c :: r => if c = 32 then cur :: splitG [] r else splitG (cur ++ [c]) r
def splitB (s : ByteArray) : List (List UInt8) := splitG [] s.data.toList

theorem extract_take (s : ByteArray) (a b : Nat) : (s.extract a b).toList = (s.data.toList.drop a).take (b - a) := by
  rw [bytes_data]
  have e : (s.extract a b).data = s.data.extract a b := by simp
  rw [e, Array.toList_extract, List.extract_eq_take_drop]
theorem bt_data (s : ByteArray) (i : Nat) (h : i < s.size) (h' : i < s.data.toList.length) : bt s (i : Int) = (s.data.toList[i].toNat : Int) := by
  rw [bt_nat s i h, bytes_data, List.getD_eq_getElem?_getD, List.getElem?_eq_getElem h']
  rfl
theorem in_l0 (x0 x1 : ByteArray) (hs : x0.size ≤ 1000000) : ∀ (d b i k : Nat), i + d = x0.size → b ≤ i → 2 * d + 2 < k →
    marginaliaref02_In.l0 k x0 x1 (b : Int) (i : Int) = some ((splitG ((x0.data.toList.drop b).take (i - b)) (x0.data.toList.drop i)).contains x1.data.toList) := by
  have hlen : x0.data.toList.length = x0.size := by simp
  intro d
  induction d with
  | zero =>
    intro b i k hi hb hk
    obtain ⟨k, rfl⟩ : ∃ m, k = m + 3 := ⟨k - 3, by omega⟩
    simp only [marginaliaref02_In.l0, marginaliaref02_In.j1]
    rw [if_pos (by omega), if_pos (by omega), if_pos trivial, if_pos (by omega), if_pos (by omega), if_pos (by omega)]
    rw [List.drop_of_length_le (show x0.data.toList.length ≤ i by omega)]
    rw [Int.toNat_natCast, Int.toNat_natCast, extract_take x0 b i, bytes_data]
    simp only [splitG]
    by_cases e : (x0.data.toList.drop b).take (i - b) = x1.data.toList
    · rw [if_pos e]; simp [e]
    · rw [if_neg e, wrap_next (by omega), if_neg (by omega)]
      simp [Ne.symm e]
  | succ d ih =>
    intro b i k hi hb hk
    obtain ⟨k, rfl⟩ : ∃ m, k = m + 2 := ⟨k - 2, by omega⟩
    have hlt : i < x0.size := by omega
    have hlt' : i < x0.data.toList.length := by omega
    simp only [marginaliaref02_In.l0, marginaliaref02_In.j1]
    rw [if_pos (by omega), if_neg (by omega), if_pos (by omega), if_pos (by omega)]
    rw [bt_data x0 i hlt hlt', wrap_next (by omega)]
    rw [List.drop_eq_getElem_cons hlt']
    simp only [splitG]
    by_cases e : x0.data.toList[i] = 32
    · have e' : (((x0.data.toList[i]).toNat : Int) == 32) = true := by rw [e]; rfl
      rw [e', if_pos rfl, if_pos e, if_pos (by omega), if_pos (by omega), if_pos (by omega), ih (i + 1) (i + 1) k (by omega) (by omega) (by omega)]
      rw [Int.toNat_natCast, Int.toNat_natCast, extract_take x0 b i, bytes_data x1]
      rw [Nat.sub_self, List.take_zero]
      by_cases q : (x0.data.toList.drop b).take (i - b) = x1.data.toList
      · rw [if_pos q]; simp [q]
      · rw [if_neg q]; simp [Ne.symm q]
    · have e' : (((x0.data.toList[i]).toNat : Int) == 32) = false := by
        rw [beq_eq_false_iff_ne]
        intro q
        exact e (UInt8.toNat.inj (show _ = 32 by omega))
      rw [e', if_neg (by simp), if_neg e, ih b (i + 1) k (by omega) (by omega) (by omega)]
      rw [show i + 1 - b = (i - b) + 1 by omega, List.take_add_one, List.getElem?_drop, show b + (i - b) = i by omega, List.getElem?_eq_getElem hlt']
      rfl
theorem in_ev (a0 a1 : ByteArray) (hs : a0.size ≤ 1000000) : Ev (fun k => marginaliaref02_In.f k a0 a1) ((splitB a0).contains a1.data.toList) := by
  refine ⟨2 * a0.size + 3, fun k hk => ?_⟩
  have h := in_l0 a0 a1 hs a0.size 0 0 k (by omega) (by omega) (by omega)
  rw [List.drop_zero, Nat.sub_zero, List.take_zero] at h
  exact h
def anyIn (xs : List ByteArray) (x : List UInt8) : Bool := xs.any fun s => (splitB s).contains x
theorem refIs_l0 (x1 : ByteArray) (xs : List ByteArray) (hx : xs.length ≤ 1000000) (hs : ∀ s ∈ xs, s.size ≤ 1000000) : ∀ (d i : Nat), i + d = xs.length →
    Ev (fun k => marginaliaref02_Is.l0 k x1 xs (i : Int)) (anyIn (xs.drop i) x1.data.toList) := by
  intro d
  induction d with
  | zero =>
    intro i hi
    refine Ev.step (f := fun _ => some false) (fun k => ?_) ?_
    · simp only [marginaliaref02_Is.l0]; rw [if_neg (by omega)]
    · rw [List.drop_of_length_le (by omega)]; exact ⟨0, fun _ _ => rfl⟩
  | succ d ih =>
    intro i hi
    have hlt : i < xs.length := by omega
    refine Ev.step (f := fun k => (marginaliaref02_In.f k xs[i] x1).bind fun t => if t = true then some true else marginaliaref02_Is.l0 k x1 xs ((i + 1 : Nat) : Int)) (fun k => ?_) ?_
    · simp only [marginaliaref02_Is.l0]
      have e : rdOf ByteArray.empty xs (i : Int) = xs[i] := by simp [rdOf, List.getD_eq_getElem?_getD, hlt]
      rw [if_pos (by omega), if_pos (by omega), e, wrap_next (by omega)]
    · rw [List.drop_eq_getElem_cons hlt]
      exact Ev.or (in_ev xs[i] x1 (hs _ (List.getElem_mem hlt))) (ih (i + 1) (by omega))
theorem refIs_of {k0 : Int} {xs : List ByteArray} (h : marginaliaref02_names.f k0 = some xs) (x1 : ByteArray) (hx : xs.length ≤ 1000000) (hs : ∀ s ∈ xs, s.size ≤ 1000000) :
    Ev (fun k => marginaliaref02_Is.f k k0 x1) (anyIn xs x1.data.toList) := by
  have h0 := refIs_l0 x1 xs hx hs xs.length 0 (by omega)
  rw [List.drop_zero] at h0
  unfold marginaliaref02_Is.f
  exact Ev.bind ⟨0, fun _ _ => h⟩ h0
theorem anyIn_eq {xs : List ByteArray} {S : List (List UInt8)} (h1 : ∀ y ∈ S, y ∈ xs.flatMap splitB) (h2 : ∀ y ∈ xs.flatMap splitB, y ∈ S) (x : List UInt8) : anyIn xs x = S.contains x := by
  rw [Bool.eq_iff_iff, List.contains_iff_mem]
  unfold anyIn
  rw [List.any_eq_true]
  constructor
  · rintro ⟨s, hs, hc⟩
    exact h2 x (List.mem_flatMap.2 ⟨s, hs, List.contains_iff_mem.1 hc⟩)
  · intro h
    obtain ⟨s, hs, hc⟩ := List.mem_flatMap.1 (h1 x h)
    exact ⟨s, hs, List.contains_iff_mem.2 hc⟩
theorem refIs_set (k0 : Int) (xs : List ByteArray) (h : marginaliaref02_names.f k0 = some xs) (x1 : ByteArray) (hx : xs.length ≤ 1000000) (hs : ∀ s ∈ xs, s.size ≤ 1000000)
    (h1 : ∀ y ∈ setK k0, y ∈ xs.flatMap splitB) (h2 : ∀ y ∈ xs.flatMap splitB, y ∈ setK k0) : Ev (fun k => marginaliaref02_Is.f k k0 x1) (inK k0 x1) := by
  unfold inK
  rw [← anyIn_eq h1 h2]
  exact refIs_of h x1 hx hs
theorem refIs_ev (k0 : Int) (x1 : ByteArray) (h : k0 = 2 ∨ k0 = 3 ∨ k0 = 12 := by decide) : Ev (fun k => marginaliaref02_Is.f k k0 x1) (inK k0 x1) := by
  rcases h with rfl | rfl | rfl
  · exact refIs_set 2 _ rfl x1 (by decide +kernel) (by decide +kernel) (by decide +kernel) (by decide +kernel)
  · exact refIs_set 3 _ rfl x1 (by decide +kernel) (by decide +kernel) (by decide +kernel) (by decide +kernel)
  · exact refIs_set 12 _ rfl x1 (by decide +kernel) (by decide +kernel) (by decide +kernel) (by decide +kernel)
theorem Ev.way {α : Type} {g : Nat → Option Bool} {b : Bool} {X Y : Nat → Option α} {r : α} (h : Ev g b) (hx : b = true → Ev X r) (hy : b = false → Ev Y r) :
    Ev (fun n => (g n).bind fun t => if t = true then X n else Y n) r := by
  cases b with
  | true => exact Ev.bind (f := fun n t => if t = true then X n else Y n) h (Ev.congr (fun k => if_pos rfl) (hx rfl))
  | false => exact Ev.bind (f := fun n t => if t = true then X n else Y n) h (Ev.congr (fun k => if_neg (by decide)) (hy rfl))
def memB (l : List ByteArray) (x : ByteArray) : Bool := l.any fun y => y.data.toList == x.data.toList
def nmGo : List ByteArray → List ByteArray → Bool
  | _, [] => true
  | pre, x :: r => nameB x && (!memB pre x && nmGo (pre ++ [x]) r)
def namesS (l : List ByteArray) : Bool := nmGo [] l
theorem take_next (l : List ByteArray) (i : Nat) (h : i < l.length) : l.take i ++ [l[i]] = l.take (i + 1) := by
  rw [List.take_add_one, List.getElem?_eq_getElem h]; rfl
theorem areNames_l0 (l : List ByteArray) (hl : l.length ≤ 1000000) : ∀ (d i : Nat), i + d = l.length → Ev (fun k => policy_areNames.l0 k l l (l.length : Int) (i : Int)) (nmGo (l.take i) (l.drop i)) := by
  intro d
  induction d with
  | zero =>
    intro i hi
    refine Ev.step (f := fun _ => some true) (fun k => ?_) ?_
    · simp only [policy_areNames.l0]
      rw [if_neg (by omega)]
    · rw [List.drop_of_length_le (by omega)]; exact Ev.now _
  | succ d ih =>
    intro i hi
    have hlt : i < l.length := by omega
    rw [List.drop_eq_getElem_cons hlt]
    refine Ev.step (f := fun k => (policy_isName.f l[i]).bind fun t => if t = true then ((slices_Contains_string_string.f k (l.take i) l[i]).bind fun t2 => if t2 = true then some false else policy_areNames.l0 k l l (l.length : Int) ((i + 1 : Nat) : Int)) else some false) (fun k => ?_) ?_
    · simp only [policy_areNames.l0]
      rw [if_pos (by omega), if_pos (by omega), if_pos (by omega), rd_at l i hlt, wrap_next (by omega), if_pos (show (i : Int) ≤ (l.length : Int) by omega)]
      rfl
    · unfold nmGo
      refine Ev.way (g := fun _ => policy_isName.f l[i]) (b := nameB l[i]) ⟨0, fun _ _ => rfl⟩ (fun hn => ?_) (fun hn => ?_)
      · refine Ev.way (contains_ev (l.take i) l[i] (by rw [List.length_take]; omega)) (fun hm => ?_) (fun hm => ?_)
        · rw [hn, show memB (l.take i) l[i] = true from hm]; exact Ev.now _
        · rw [hn, show memB (l.take i) l[i] = false from hm, take_next l i hlt]; exact ih (i + 1) (by omega)
      · rw [hn]; exact Ev.now _
theorem areNames_ev (l : List ByteArray) (hl : l.length ≤ 1000000) : Ev (fun k => policy_areNames.f k l) (namesS l) := by
  have h := areNames_l0 l hl l.length 0 (by omega)
  rw [List.take_zero, List.drop_zero] at h
  exact h
theorem refin_l0 (l : List ByteArray) (x : ByteArray) (hl : l.length ≤ 1000000) : ∀ (d i : Nat), i + d = l.length → Ev (fun k => marginaliaref11_in.l0 k l x (i : Int)) (memB (l.drop i) x) := by
  intro d
  induction d with
  | zero =>
    intro i hi
    refine Ev.step (f := fun _ => some false) (fun k => ?_) ?_
    · simp only [marginaliaref11_in.l0]
      rw [if_neg (by omega)]
    · rw [List.drop_of_length_le (by omega)]; exact Ev.now _
  | succ d ih =>
    intro i hi
    have hlt : i < l.length := by omega
    rw [List.drop_eq_getElem_cons hlt]
    unfold memB
    rw [List.any_cons]
    by_cases h : l[i].data.toList = x.data.toList
    · refine Ev.step (f := fun _ => some true) (fun k => ?_) ?_
      · simp only [marginaliaref11_in.l0]
        rw [if_pos (by omega), if_pos (by omega), rd_at l i hlt, bytes_data, bytes_data, if_pos h]
      · rw [h, beq_self_eq_true, Bool.true_or]; exact Ev.now _
    · refine Ev.step (f := fun k => marginaliaref11_in.l0 k l x ((i + 1 : Nat) : Int)) (fun k => ?_) ?_
      · simp only [marginaliaref11_in.l0]
        rw [if_pos (by omega), if_pos (by omega), rd_at l i hlt, bytes_data, bytes_data, if_neg h, wrap_next (by omega)]
      · have e : (l[i].data.toList == x.data.toList) = false := beq_eq_false_iff_ne.mpr h
        rw [e, Bool.false_or]
        exact ih (i + 1) (by omega)
theorem refin_ev (l : List ByteArray) (x : ByteArray) (hl : l.length ≤ 1000000) : Ev (fun k => marginaliaref11_in.f k l x) (memB l x) := by
  have h := refin_l0 l x hl l.length 0 (by omega)
  rw [List.drop_zero] at h
  exact h
theorem nmC_ref (c : UInt8) : nmC (c.toNat : Int) = (decide ((c.toNat : Int) ≥ 97 ∧ (c.toNat : Int) ≤ 122) || (sFig c || decide ((c.toNat : Int) = 45))) := by
  revert c
  apply u8_all
  decide +kernel
theorem refName_l0 (s : ByteArray) (hs : s.size ≤ 1000000) : ∀ (d i : Nat), i + d = s.size → Ev (fun k => marginaliaref11_Name.l0 k s (i : Int)) ((s.data.toList.drop i).all (fun c => nmC (c.toNat : Int))) := by
  intro d
  induction d with
  | zero =>
    intro i hi
    refine Ev.step (f := fun _ => some true) (fun k => ?_) ?_
    · simp only [marginaliaref11_Name.l0]
      rw [if_neg (by omega)]
    · rw [List.drop_of_length_le (by rw [data_len]; omega)]; exact Ev.now _
  | succ d ih =>
    intro i hi
    have hlt : i < s.size := by omega
    obtain ⟨c, hc, hd⟩ := drop_get s i hlt
    have hb := bt_get s i c hc
    rw [hd, List.all_cons, nmC_ref]
    refine Ev.step (f := fun k => if (c.toNat : Int) ≥ 97 then (if (c.toNat : Int) ≤ 122 then marginaliaref11_Name.l0 k s ((i + 1 : Nat) : Int) else ((some (sFig c)).bind fun t => if t = true then marginaliaref11_Name.l0 k s ((i + 1 : Nat) : Int) else (if (c.toNat : Int) = 45 then marginaliaref11_Name.l0 k s ((i + 1 : Nat) : Int) else some false))) else ((some (sFig c)).bind fun t => if t = true then marginaliaref11_Name.l0 k s ((i + 1 : Nat) : Int) else (if (c.toNat : Int) = 45 then marginaliaref11_Name.l0 k s ((i + 1 : Nat) : Int) else some false))) (fun k => ?_) ?_
    · simp only [marginaliaref11_Name.l0]
      rw [if_pos (by omega), if_pos (by omega), hb, rfigure_f, wrap_next (by omega)]
    · have hrest : Ev (fun k => (some (sFig c)).bind fun t => if t = true then marginaliaref11_Name.l0 k s ((i + 1 : Nat) : Int) else (if (c.toNat : Int) = 45 then marginaliaref11_Name.l0 k s ((i + 1 : Nat) : Int) else some false)) ((sFig c || decide ((c.toNat : Int) = 45)) && (s.data.toList.drop (i + 1)).all (fun c => nmC (c.toNat : Int))) := by
        refine Ev.way (g := fun _ => some (sFig c)) (Ev.now _) (fun h => ?_) (fun h => ?_)
        · rw [h]; exact ih (i + 1) (by omega)
        · rw [h]
          by_cases h45 : (c.toNat : Int) = 45
          · rw [decide_eq_true h45]
            exact Ev.congr (fun k => if_pos h45) (ih (i + 1) (by omega))
          · rw [decide_eq_false h45]
            exact Ev.congr (fun k => if_neg h45) (Ev.now _)
      by_cases h97 : (c.toNat : Int) ≥ 97
      · by_cases h122 : (c.toNat : Int) ≤ 122
        · rw [decide_eq_true (show (c.toNat : Int) ≥ 97 ∧ (c.toNat : Int) ≤ 122 from ⟨h97, h122⟩)]
          exact Ev.congr (fun k => by rw [if_pos h97, if_pos h122]) (ih (i + 1) (by omega))
        · rw [decide_eq_false (show ¬ ((c.toNat : Int) ≥ 97 ∧ (c.toNat : Int) ≤ 122) from fun h => h122 h.2)]
          exact Ev.congr (fun k => by rw [if_pos h97, if_neg h122]) hrest
      · rw [decide_eq_false (show ¬ ((c.toNat : Int) ≥ 97 ∧ (c.toNat : Int) ≤ 122) from fun h => h97 h.1)]
        exact Ev.congr (fun k => by rw [if_neg h97]) hrest
theorem refName_ev (s : ByteArray) : Ev (fun k => marginaliaref11_Name.f k s) (nameB s) := by
  have hj : ∀ b : Bool, Ev (fun k => marginaliaref11_Name.j0 k s b) (if b = true then false else if s.size ≤ 20 then s.data.toList.all (fun c => nmC (c.toNat : Int)) else false) ∨ ¬ s.size ≤ 20 := by
    intro b
    by_cases hs : s.size ≤ 20
    · left
      have h := refName_l0 s (by omega) s.size 0 (by omega)
      rw [List.drop_zero] at h
      refine Ev.step (f := fun k => if b = true then some false else marginaliaref11_Name.l0 k s 0) (fun k => ?_) ?_
      · simp only [marginaliaref11_Name.j0]
      · cases b with
        | true => exact Ev.congr (fun k => if_pos rfl) (Ev.now _)
        | false => rw [if_neg (by decide), if_pos hs]; exact Ev.congr (fun k => if_neg (by decide)) h
    · exact .inr hs
  have hjt : Ev (fun k => marginaliaref11_Name.j0 k s true) false := Ev.step (f := fun _ => some false) (fun k => by simp only [marginaliaref11_Name.j0]; rfl) (Ev.now _)
  unfold marginaliaref11_Name.f nameB
  by_cases h1 : (s.size : Int) < 1
  · rw [decide_eq_false (show ¬ (1 ≤ s.size ∧ s.size ≤ 20) by omega)]
    exact Ev.congr (fun k => if_pos h1) hjt
  · by_cases h20 : (s.size : Int) > 20
    · rw [decide_eq_false (show ¬ (1 ≤ s.size ∧ s.size ≤ 20) by omega)]
      exact Ev.congr (fun k => by rw [if_neg h1, if_pos h20]) hjt
    · rw [decide_eq_true (show 1 ≤ s.size ∧ s.size ≤ 20 by omega), Bool.true_and]
      by_cases ha : bt s 0 < 97
      · rw [decide_eq_false (show ¬ (97 ≤ bt s 0 ∧ bt s 0 ≤ 122) by omega), Bool.false_and]
        exact Ev.congr (fun k => by rw [if_neg h1, if_neg h20, if_pos (by omega), if_pos ha]) hjt
      · by_cases hb : bt s 0 > 122
        · rw [decide_eq_false (show ¬ (97 ≤ bt s 0 ∧ bt s 0 ≤ 122) by omega), Bool.false_and]
          exact Ev.congr (fun k => by rw [if_neg h1, if_neg h20, if_pos (by omega), if_neg ha, decide_eq_true hb]) hjt
        · rw [decide_eq_true (show 97 ≤ bt s 0 ∧ bt s 0 ≤ 122 by omega), Bool.true_and]
          have h := (hj false).resolve_right (by omega)
          rw [if_neg (by decide), if_pos (by omega)] at h
          exact Ev.congr (fun k => by rw [if_neg h1, if_neg h20, if_pos (by omega), if_neg ha, decide_eq_false hb]) h
theorem refnames_l0 (l : List ByteArray) (hl : l.length ≤ 1000000) : ∀ (d i : Nat), i + d = l.length → Ev (fun k => marginaliaref11_names.l0 k l (i : Int)) (nmGo (l.take i) (l.drop i)) := by
  intro d
  induction d with
  | zero =>
    intro i hi
    refine Ev.step (f := fun _ => some true) (fun k => ?_) ?_
    · simp only [marginaliaref11_names.l0]
      rw [if_neg (by omega)]
    · rw [List.drop_of_length_le (by omega)]; exact Ev.now _
  | succ d ih =>
    intro i hi
    have hlt : i < l.length := by omega
    rw [List.drop_eq_getElem_cons hlt]
    refine Ev.step (f := fun k => (marginaliaref11_Name.f k l[i]).bind fun t => if t = true then ((marginaliaref11_in.f k (l.take i) l[i]).bind fun t2 => if t2 = true then some false else marginaliaref11_names.l0 k l ((i + 1 : Nat) : Int)) else some false) (fun k => ?_) ?_
    · simp only [marginaliaref11_names.l0]
      rw [if_pos (by omega), if_pos (by omega), rd_at l i hlt, wrap_next (by omega), if_pos (show (i : Int) ≤ (l.length : Int) by omega)]
      rfl
    · unfold nmGo
      refine Ev.way (refName_ev l[i]) (fun hn => ?_) (fun hn => ?_)
      · refine Ev.way (refin_ev (l.take i) l[i] (by rw [List.length_take]; omega)) (fun hm => ?_) (fun hm => ?_)
        · rw [hn, hm]; exact Ev.now _
        · rw [hn, hm, take_next l i hlt]; exact ih (i + 1) (by omega)
      · rw [hn]; exact Ev.now _
theorem refnames_ev (l : List ByteArray) (hl : l.length ≤ 1000000) : Ev (fun k => marginaliaref11_names.f k l) (namesS l) := by
  have h := refnames_l0 l hl l.length 0 (by omega)
  rw [List.take_zero, List.drop_zero] at h
  exact h
def hardN : List (List UInt8) := [[109, 97, 116, 104], [110, 111, 115, 99, 114, 105, 112, 116], [112, 108, 97, 105, 110, 116, 101, 120, 116], [115, 118, 103], [116, 101, 109, 112, 108, 97, 116, 101]]
def neverS (s : ByteArray) : Bool := hardN.contains s.data.toList || (inK 2 s || (inK 3 s || inK 12 s))
theorem never_j0 (s : ByteArray) (b : Bool) : Ev (fun k => policy_never.j0 k s b) (b || (inK 2 s || (inK 3 s || inK 12 s))) := by
  refine Ev.step (f := fun k => if b = true then some true else ((kind_Is.f k 2 s).bind fun t => if t = true then some true else ((kind_Is.f k 3 s).bind fun t => if t = true then some true else ((kind_Is.f k 12 s).bind fun t => some t)))) (fun k => by simp only [policy_never.j0]) ?_
  cases b with
  | true => exact Ev.congr (fun k => if_pos rfl) (Ev.now _)
  | false =>
    refine Ev.congr (fun k => if_neg (by decide)) ?_
    rw [Bool.false_or]
    exact Ev.or (is_ev 2 s) (Ev.or (is_ev 3 s) (Ev.pass (is_ev 12 s)))
theorem never_ev (s : ByteArray) : Ev (fun k => policy_never.f k s) (neverS s) := by
  have hc : ∀ L : List UInt8, (s.data.toList == L) = (s.toList == L) := fun L => by rw [bytes_data]
  have e : neverS s = (s.toList == [109, 97, 116, 104] || (s.toList == [110, 111, 115, 99, 114, 105, 112, 116] || (s.toList == [112, 108, 97, 105, 110, 116, 101, 120, 116] || (s.toList == [115, 118, 103] || (s.toList == [116, 101, 109, 112, 108, 97, 116, 101]))))
      || (inK 2 s || (inK 3 s || inK 12 s))) := by
    unfold neverS hardN
    simp only [List.contains_cons, List.contains_nil, Bool.or_false, hc]
  rw [e]
  unfold policy_never.f
  by_cases h1 : s.toList = ([109, 97, 116, 104] : List UInt8)
  · rw [h1]
    exact Ev.congr (fun k => if_pos rfl) (never_j0 s true)
  · rw [beq_eq_false_iff_ne.mpr h1, Bool.false_or]
    refine Ev.congr (fun k => if_neg h1) ?_
    by_cases h2 : s.toList = ([110, 111, 115, 99, 114, 105, 112, 116] : List UInt8)
    · rw [h2]
      exact Ev.congr (fun k => if_pos rfl) (never_j0 s true)
    · rw [beq_eq_false_iff_ne.mpr h2, Bool.false_or]
      refine Ev.congr (fun k => if_neg h2) ?_
      by_cases h3 : s.toList = ([112, 108, 97, 105, 110, 116, 101, 120, 116] : List UInt8)
      · rw [h3]
        exact Ev.congr (fun k => if_pos rfl) (never_j0 s true)
      · rw [beq_eq_false_iff_ne.mpr h3, Bool.false_or]
        refine Ev.congr (fun k => if_neg h3) ?_
        by_cases h4 : s.toList = ([115, 118, 103] : List UInt8)
        · rw [h4]
          exact Ev.congr (fun k => if_pos rfl) (never_j0 s true)
        · rw [beq_eq_false_iff_ne.mpr h4, Bool.false_or]
          exact Ev.congr (fun k => if_neg h4) (never_j0 s _)
def restB (dr : List ByteArray) (x : S53) : Bool := !neverS x.f0 && (!memB dr x.f0 && (namesS x.f1 && !x.f1.any actsB))
def chkGo (dr : List ByteArray) : List ByteArray → List S53 → Bool
  | all, [] => namesS all
  | all, x :: r => restB dr x && chkGo dr (all ++ [x.f0]) r
theorem rdT_at (l : List S53) (i : Nat) (h : i < l.length) : rd_T53 l (i : Int) = l[i] := by
  simp [rd_T53, List.getD_eq_getElem?_getD, h]
def okE (b : Bool) : Int := if b = true then 0 else 1
theorem check_l0 (l : List S53) (l1 l2 l3 : List ByteArray) (d0 : Int) (hl : l.length ≤ 1000) (h3 : l3.length ≤ 1000) (ha : ∀ x ∈ l, x.f1.length ≤ 1000) : ∀ (d i : Nat) (all : List ByteArray), i + d = l.length → all.length = i →
    Ev (fun k => policy_Check.l0 k all l (l.length : Int) (i : Int) l l1 l2 l3 d0) (okE (chkGo l3 all (l.drop i))) := by
  intro d
  induction d with
  | zero =>
    intro i all hi hall
    refine Ev.step (f := fun k => (policy_areNames.f k all).bind fun t => if t = true then some 0 else some 1) (fun k => ?_) ?_
    · simp only [policy_Check.l0]
      rw [if_neg (by omega)]
    · rw [List.drop_of_length_le (by omega)]
      show Ev _ (okE (namesS all))
      refine Ev.way (areNames_ev all (by omega)) (fun h => ?_) (fun h => ?_)
      · rw [h]; exact Ev.now _
      · rw [h]; exact Ev.now _
  | succ d ih =>
    intro i all hi hall
    have hlt : i < l.length := by omega
    rw [List.drop_eq_getElem_cons hlt]
    have hf1 : l[i].f1.length ≤ 1000 := ha _ (List.getElem_mem hlt)
    refine Ev.step (f := fun k => (policy_never.f k l[i].f0).bind fun t => if t = true then some 1 else ((slices_Contains_string_string.f k l3 l[i].f0).bind fun t => if t = true then some 1 else ((policy_areNames.f k l[i].f1).bind fun t => if t = true then ((cf_acts.f l[i].f1).bind fun t => if t = true then some 1 else policy_Check.l0 k (all ++ [l[i].f0]) l (l.length : Int) ((i + 1 : Nat) : Int) l l1 l2 l3 d0) else some 1))) (fun k => ?_) ?_
    · simp only [policy_Check.l0]
      rw [if_pos (by omega), if_pos (by omega), if_pos (by omega), rdT_at l i hlt, wrap_next (by omega), if_pos (show all.length < 8796093022208 by omega)]
    · unfold chkGo restB
      refine Ev.way (never_ev l[i].f0) (fun h => ?_) (fun h => ?_)
      · rw [h]; exact Ev.now _
      rw [h]
      refine Ev.way (contains_ev l3 l[i].f0 (by omega)) (fun h => ?_) (fun h => ?_)
      · rw [show memB l3 l[i].f0 = true from h]; exact Ev.now _
      rw [show memB l3 l[i].f0 = false from h]
      refine Ev.way (areNames_ev l[i].f1 (by omega)) (fun h => ?_) (fun h => ?_)
      · rw [h]
        refine Ev.way (g := fun _ => cf_acts.f l[i].f1) (b := l[i].f1.any actsB) ⟨0, fun _ _ => by unfold cf_acts.f; rw [if_pos hf1]⟩ (fun h => ?_) (fun h => ?_)
        · rw [h]; exact Ev.now _
        · rw [h]; exact ih (i + 1) (all ++ [l[i].f0]) (by omega) (by simp; omega)
      · rw [h]; exact Ev.now _
def headB (l1 l2 l3 : List ByteArray) (d : Int) : Bool := decide (1 ≤ d ∧ d ≤ 60) && (namesS l1 && (namesS l2 && (namesS l3 && !l2.any runsB)))
def checkS (l0 : List S53) (l1 l2 l3 : List ByteArray) (d : Int) : Int := if largeB l0 l1 l2 l3 = true then 4 else okE (headB l1 l2 l3 d && chkGo l3 [] l0)
structure SmallP (l0 : List S53) (l1 l2 l3 : List ByteArray) : Prop where
  b0 : l0.length ≤ 1000
  b1 : l1.length ≤ 1000
  b2 : l2.length ≤ 1000
  b3 : l3.length ≤ 1000
  ba : ∀ x ∈ l0, x.f1.length ≤ 1000
theorem check_ev (l0 : List S53) (l1 l2 l3 : List ByteArray) (d : Int) (hs : SmallP l0 l1 l2 l3) : Ev (fun k => policy_Check.f k l0 l1 l2 l3 d) (checkS l0 l1 l2 l3 d) := by
  obtain ⟨h0, h1, h2, h3, ha⟩ := hs
  have hj1 : Ev (fun k => policy_Check.j0 k true l0 l1 l2 l3 d) 1 := Ev.step (f := fun _ => some 1) (fun k => by simp only [policy_Check.j0]; rfl) (Ev.now _)
  have hj0 : Ev (fun k => policy_Check.j0 k false l0 l1 l2 l3 d) (okE (chkGo l3 [] l0)) := by
    refine Ev.step (f := fun k => policy_Check.l0 k [] l0 (l0.length : Int) 0 l0 l1 l2 l3 d) (fun k => by simp only [policy_Check.j0]; rfl) ?_
    have h := check_l0 l0 l1 l2 l3 d h0 h3 ha l0.length 0 [] (by omega) rfl
    rw [List.drop_zero] at h
    exact h
  unfold policy_Check.f checkS
  refine Ev.way (g := fun _ => policy_large.f l0 l1 l2 l3 d) (b := largeB l0 l1 l2 l3) ⟨0, fun _ _ => rfl⟩ (fun h => ?_) (fun h => ?_)
  · rw [if_pos h]; exact Ev.now _
  · rw [if_neg (by rw [h]; decide)]
    unfold headB
    by_cases hd1 : d < 1
    · rw [decide_eq_false (show ¬ (1 ≤ d ∧ d ≤ 60) by omega)]
      exact Ev.congr (fun k => if_pos hd1) hj1
    by_cases hd2 : d > 60
    · rw [decide_eq_false (show ¬ (1 ≤ d ∧ d ≤ 60) by omega)]
      exact Ev.congr (fun k => by rw [if_neg hd1, if_pos hd2]) hj1
    rw [decide_eq_true (show 1 ≤ d ∧ d ≤ 60 by omega)]
    refine Ev.congr (fun k => by rw [if_neg hd1, if_neg hd2]) ?_
    refine Ev.way (areNames_ev l1 (by omega)) (fun h => ?_) (fun h => ?_)
    · rw [h]
      refine Ev.way (areNames_ev l2 (by omega)) (fun h => ?_) (fun h => ?_)
      · rw [h]
        refine Ev.way (areNames_ev l3 (by omega)) (fun h => ?_) (fun h => ?_)
        · rw [h]
          refine Ev.bind (g := fun _ => cf_runs.f l2) (f := fun k t => policy_Check.j0 k t l0 l1 l2 l3 d) (a := l2.any runsB) ⟨0, fun _ _ => by unfold cf_runs.f; rw [if_pos h2]⟩ ?_
          cases h : l2.any runsB with
          | true => exact hj1
          | false => exact hj0
        · rw [h]; exact hj1
      · rw [h]; exact hj1
    · rw [h]; exact hj1
end Go.Proofs.YtnbghhddmlohoaaDoor.Pure

end
