-- Written by a program of this session (hprint.py: the kit's print over several laws at once, with functions proved by hand). Lean checks it.
import Derived.Test.YtdbiobaccihpfaaPAllx0
import Derived.Test.YtdbiobaccihpfaaPAllx2
import Derived.Test.YtdbiobaccihpfaaPAllx3
namespace Go.Proofs.Ytdbiobaccihpfaa.PAll
open Go.RowKit Go.Proofs.YtdbiobaccihpfaaW.PrintWords Go.Proofs.YtdbiobaccihpfaaW.PrintLast Go.Proofs.YtdbiobaccihpfaaW.PrintMore
attribute [local go_sem] max2_int min2_int max_two min_two max_three min_three max_four min_four   -- for this text's walks alone
set_option linter.unusedVariables false
set_option linter.unusedSimpArgs false

-- EXT marginalia/record.Decode ; rounds=1 ; making=1 ; uses=marginalia/record.number,marginalia/record.Check
/-! ### record_Decode: function 12 -/
def record_Decode.j0 : Nat → List Int → Bool → Option (Int × Int × Int × ByteArray × Int)
  | 0, _, _ => none
  | k + 1, x0, x17 => if x17 = true then (some (0, 0, 0, (⟨#[]⟩ : ByteArray), 8)) else (if 0 < (x0.length : Int) then (if 1 ≤ 9 then (if 9 ≤ (x0.length : Int) then ((record_number.f k ((x0.take 9).drop 1)).bind fun t128 => (if 9 ≤ 17 then (if 17 ≤ (x0.length : Int) then ((record_number.f k ((x0.take 17).drop 9)).bind fun t130 => (if 19 ≤ (x0.length : Int) then ((record_Check.f k (wrap64 (rd x0 0)) t128 t130 (strOfNums (x0.drop 19))).bind fun t133 => (if t133 = 0 then (some (wrap64 (rd x0 0), t128, t130, strOfNums (x0.drop 19), 0)) else (some (0, 0, 0, (⟨#[]⟩ : ByteArray), 8)))) else (none))) else (none)) else (none))) else (none)) else (none)) else (none))
def record_Decode.f (k : Nat) (l0 : List Int) : Option (Int × Int × Int × ByteArray × Int) := if (l0.length : Int) < 19 then (record_Decode.j0 k l0 true) else (if 17 ≤ 19 then (if 19 ≤ (l0.length : Int) then ((record_number.f k ((l0.take 19).drop 17)).bind fun t125 => (record_Decode.j0 k l0 (t125 != (IntKind.u64.wrap (wrap64 ((l0.length : Int) - 19)))))) else (none)) else (none))
theorem record_Decode.mono_l : ∀ k, (∀ y0 y1, LeO (record_Decode.j0 k y0 y1) (record_Decode.j0 (k + 1) y0 y1))
  | 0 => fun _ _ r h => by simp [record_Decode.j0] at h
  | k + 1 => by
    have ih0 := record_Decode.mono_l k
    · intro y0 y1
      unfold record_Decode.j0
      repeat' first
      | (with_reducible exact ih0 _ _)
      | (with_reducible exact record_Check.mono _ _ _ _ _)
      | (with_reducible exact record_number.mono _ _)
      | (with_reducible exact LeO.refl _)
      | (with_reducible exact LeO.none _)
      | (with_reducible refine LeO.ite ?_ ?_)
      | (with_reducible refine LeO.bind ?_ (fun _ => ?_))
      | exact ih0 _ _
      | exact record_Check.mono _ _ _ _ _
      | exact record_number.mono _ _
      | exact LeO.none _
      | refine LeO.ite ?_ ?_
      | refine LeO.bind ?_ (fun _ => ?_)
theorem record_Decode.mono : ∀ a0 k, LeO (record_Decode.f k a0) (record_Decode.f (k + 1) a0) := by
  intro a0 k
  have ih0 := record_Decode.mono_l k
  unfold record_Decode.f
  repeat' first
      | (with_reducible exact ih0 _ _)
      | (with_reducible exact record_Check.mono _ _ _ _ _)
      | (with_reducible exact record_number.mono _ _)
      | (with_reducible exact LeO.refl _)
      | (with_reducible exact LeO.none _)
      | (with_reducible refine LeO.ite ?_ ?_)
      | (with_reducible refine LeO.bind ?_ (fun _ => ?_))
      | exact ih0 _ _
      | exact record_Check.mono _ _ _ _ _
      | exact record_number.mono _ _
      | exact LeO.none _
      | refine LeO.ite ?_ ?_
      | refine LeO.bind ?_ (fun _ => ?_)
set_option maxHeartbeats 8000000 in
set_option maxRecDepth 100000 in
theorem record_Decode.calls (k : Nat) (A0 : Option Addr) (c0 : Nat) (l0 : List Int) (r1 : Int) (r2 : Int) (r3 : Int) (r4 : ByteArray) (r5 : Int) (w : World) (hr0 : Kd.C (Kd.int .u8) w A0 l0.length l0) (hc0 : l0.length ≤ c0) (h : record_Decode.f k l0 = some (r1, r2, r3, r4, r5)) :
    Calls Try.prog 12 #[.slice A0 l0.length c0] w fun e w' => e = .returned (.tuple #[.agg #[.int .i64 r1, .int .u64 r2, .int .u64 r3, .string r4], .int .i64 r5]) ∧ Below w.heap.size w w' := by
  have hu25 := Try.underlying25
  have HR0 := Aside0.mk hr0
  have HC0 := Aside0.mk hc0
  clear hr0 hc0
  have HB := Aside0.mk (Below.refl w.heap.size w)
  have H : (if (l0.length : Int) < 19 then (record_Decode.j0 k l0 true) else (if 17 ≤ 19 then (if 19 ≤ (l0.length : Int) then ((record_number.f k ((l0.take 19).drop 17)).bind fun t125 => (record_Decode.j0 k l0 (t125 != (IntKind.u64.wrap (wrap64 ((l0.length : Int) - 19)))))) else (none)) else (none))) = some (r1, r2, r3, r4, r5) := h
  clear h
  have HC2 := Aside0.mk H
  clear H
  go_enter Try.func12, Try.ntmps12
  go_upto_region 1 with (first | ((with_reducible refine gate_dst (N := 2) rfl ?_); (try (refine gate_guard (by rfl) ?_; dsimp only)); refine box_event ?hg (N := 2) ?hd (cs := #[.int .i64 0, .int .u64 0, .int .u64 0, .string (⟨#[]⟩ : ByteArray)]) (t := 25) ?hr ?_; (case hd => rfl); (case hg => rfl); (case hr => first | (go_simp; done) | (go_simp; rfl)); intro gb123 hg w3 hbox hb; have n0_ := Aside0.mk (below_step (by repeat (first | (with_reducible first | exact HB.out | apply below_alloc | apply pw_below_drewN | apply below_drew1) | exact HB.out)) hb); have n1_ := Aside0.mk (hbox); have n2_ := Aside0.mk ((by rw [hg]; exact (below_size (by repeat (first | (with_reducible first | exact HB.out | apply below_alloc | apply pw_below_drewN | apply below_drew1) | exact HB.out))) : w.heap.size ≤ gb123)); have n3_ := Aside0.mk ((by rw [hg]; exact (below_size (by repeat (first | (with_reducible first | exact HB.out | apply below_alloc | apply pw_below_drewN | apply below_drew1) | exact HB.out))) : w.heap.size ≤ gb123)); clear HB; have HB := n0_; have BK123 := n1_; have GW123 := n2_; have GE123 := n3_; clear n0_ n1_ n2_ n3_; clear hb hbox hg))
  (try simp only [Act.put, List.setIfInBounds_toArray, List.set_cons_zero, List.set_cons_succ])
  go_cut [17] (fun v17 wc => ∃ (kq : Nat) (x17_1 : Bool), v17 = .bool x17_1 ∧ Aside0 (record_Decode.j0 kq l0 x17_1 = some (r1, r2, r3, r4, r5)) ∧ Aside0 (kq ≤ k) ∧ Aside0 (wc.heap[gb123]? = some (.cells #[.int .i64 0, .int .u64 0, .int .u64 0, .string (⟨#[]⟩ : ByteArray)] 25 (0, 0))) ∧ Aside0 (Below w.heap.size w wc))
  case first =>
    have H := HC2.out
    clear HC2
    by_cases c4 : (l0.length : Int) < 19
    · rw [if_pos c4] at H
      have c4b0 : decide ((l0.length : Int) < 19) = true := decide_eq_true c4
      have c4b1 : decide (l0.length < 19) = true := decide_eq_true (by omega)
      clear c4
      (first | rw [c4b0] | (simp only [i64_w, i32_w]; rw [c4b0]) | skip)
      have H' := Aside0.mk H
      clear H
      go_wp2
      go_meet
      case rel => exact ⟨_, (true), (by first | rfl | (simp; done) | (simp [*]; done)), H', ⟨by first | omega | exact Nat.le_refl _⟩, ⟨by (with_reducible repeat (first | refine blk_drewN ?_ _ | refine blk_drew ?_ | refine blk_alloc ?_ _)); exact BK123.out⟩, ⟨by repeat (first | (with_reducible first | exact HB.out | apply below_alloc | apply pw_below_drewN | apply below_drew1 | refine below_set ?_ GE123.out) | exact HB.out)⟩⟩
    · rw [if_neg c4] at H
      have c4b0 : decide ((l0.length : Int) < 19) = false := decide_eq_false c4
      have c4b1 : decide (l0.length < 19) = false := decide_eq_false (by omega)
      clear c4
      (first | rw [c4b0] | (simp only [i64_w, i32_w]; rw [c4b0]) | skip)
      by_cases c5 : 17 ≤ 19
      · rw [if_pos c5] at H
        have c5b0 := eq_true c5
        have c5b1 : decide (17 ≤ 19) = true := decide_eq_true c5
        clear c5
        by_cases c6 : 19 ≤ (l0.length : Int)
        · rw [if_pos c6] at H
          have c6b0 := eq_true c6
          have c6b1 : decide (19 ≤ (l0.length : Int)) = true := decide_eq_true c6
          clear c6
          replace H := Option.bind_eq_some_iff.mp H
          obtain ⟨t125, A70, H⟩ := H
          replace H : (record_Decode.j0 k l0 (t125 != (IntKind.u64.wrap (wrap64 ((l0.length : Int) - 19))))) = some (r1, r2, r3, r4, r5) := H
          have A7 := Aside0.mk A70
          clear A70
          have H' := Aside0.mk H
          clear H
          obtain ⟨i08, hi08, _, hsz8, _⟩ := info_parts info5
          obtain ⟨A8, hcut8, hA8, hC8⟩ := print_mid_of (P := Try.prog) (Value.int .u8) 0 27 5 .i64 .i64 Try.underlying27 hi08 hsz8 A0 c0 l0 17 19 (by omega) (by first | omega | exact of_decide_eq_true (by first | (with_reducible assumption) | assumption)) (of_decide_eq_true (by first | (with_reducible assumption) | assumption)) HC0.out
          have HR124 := Aside0.mk (Kd.C_of_reads (h1 := fun _ => rfl) (hA8 _ (Kd.reads_of_C HR0.out)))
          have HC124 := Aside0.mk hC8
          clear hA8 hC8 hi08 hsz8
          simp only [Int.reduceToNat] at hcut8 HR124 HC124
          generalize hs8 : (l0.take 19).drop 17 = s8 at hcut8 HR124 HC124 A7
          clear hs8
          go_wp2_with (first | (go_at_call 16; (with_reducible refine (record_number.calls k _ _ s8 t125 _ ?side1 ?side2 A7.out).mono ?_); (case side1 => repeat (first | exact (Kd.C_below HR124.out HB.out) | (with_reducible refine Kd.C_alloc ?_ _) | (with_reducible refine Kd.C_drewN ?_ _) | (with_reducible refine Kd.C_drew ?_))); (case side2 => exact HC124.out); rintro e w' ⟨rfl, ⟨nd, rfl⟩⟩))
          go_meet
          case rel => exact ⟨_, ((t125 != (IntKind.u64.wrap (wrap64 ((l0.length : Int) - 19))))), (by first | rfl | (simp; done) | (simp [*]; done)), H', ⟨by first | omega | exact Nat.le_refl _⟩, ⟨by (with_reducible repeat (first | refine blk_drewN ?_ _ | refine blk_drew ?_ | refine blk_alloc ?_ _)); exact BK123.out⟩, ⟨by repeat (first | (with_reducible first | exact HB.out | apply below_alloc | apply pw_below_drewN | apply below_drew1 | refine below_set ?_ GE123.out) | exact HB.out)⟩⟩
        · rw [if_neg c6] at H
          exact absurd H (by simp)
      · rw [if_neg c5] at H
        exact absurd H (by simp)
  case rest =>
    clear HC2
    try clear c1
    try clear p2
    try clear c4
    try clear c4b0
    try clear c4b1
    try clear c5
    try clear c5b0
    try clear c5b1
    try clear c6
    try clear c6b0
    try clear c6b1
    try clear p6
    obtain ⟨kq, x17_1, rfl, HA, HJ1, BK123, HB⟩ := hcut
    cases kq with
    | zero => exact absurd HA.out (by simp [record_Decode.j0])
    | succ kj1 =>
      have H := HA.out
      clear HA
      simp only [record_Decode.j0] at H
      by_cases c9 : x17_1 = true
      · subst c9
        have H1 : (some (0, 0, 0, (⟨#[]⟩ : ByteArray), 8)) = some (r1, r2, r3, r4, r5) := by rw [if_pos rfl] at H; exact H
        clear H
        have H := H1
        clear H1
        simp only [Option.some.injEq, Prod.mk.injEq] at H
        obtain ⟨rfl, rfl, rfl, rfl, rfl⟩ := H
        have hcz10_0 : wc.cell? ⟨gb123, 0, none⟩ = some (.int .i64 0) := (blk_cell BK123.out 0).trans rfl
        have hcz10_1 : wc.cell? ⟨gb123, 1, none⟩ = some (.int .u64 0) := (blk_cell BK123.out 1).trans rfl
        have hcz10_2 : wc.cell? ⟨gb123, 2, none⟩ = some (.int .u64 0) := (blk_cell BK123.out 2).trans rfl
        have hcz10_3 : wc.cell? ⟨gb123, 3, none⟩ = some (.string (⟨#[]⟩ : ByteArray)) := (blk_cell BK123.out 3).trans rfl
        have hfz10_0 := blk_frozen BK123.out 0
        have hfz10_1 := blk_frozen BK123.out 1
        have hfz10_2 := blk_frozen BK123.out 2
        have hfz10_3 := blk_frozen BK123.out 3
        go_wp2
        refine bodyPost_ret (results_ct rfl _ _ gb123 25 #[.int .i64 0, .int .u64 0, .int .u64 0, .string (⟨#[]⟩ : ByteArray)] (0, 0) _ rfl (by (with_reducible repeat (first | refine blk_drewN ?_ _ | refine blk_drew ?_ | refine blk_alloc ?_ _)); refine blk_put (cs := #[.int .i64 0, .int .u64 0, .int .u64 0, .string (⟨#[]⟩ : ByteArray)]) ?_ 3 _ rfl; (with_reducible repeat (first | refine blk_drewN ?_ _ | refine blk_drew ?_ | refine blk_alloc ?_ _)); refine blk_put (cs := #[.int .i64 0, .int .u64 0, .int .u64 0, .string (⟨#[]⟩ : ByteArray)]) ?_ 2 _ rfl; (with_reducible repeat (first | refine blk_drewN ?_ _ | refine blk_drew ?_ | refine blk_alloc ?_ _)); refine blk_put (cs := #[.int .i64 0, .int .u64 0, .int .u64 0, .string (⟨#[]⟩ : ByteArray)]) ?_ 1 _ rfl; (with_reducible repeat (first | refine blk_drewN ?_ _ | refine blk_drew ?_ | refine blk_alloc ?_ _)); refine blk_put (cs := #[.int .i64 0, .int .u64 0, .int .u64 0, .string (⟨#[]⟩ : ByteArray)]) ?_ 0 _ rfl; (with_reducible repeat (first | refine blk_drewN ?_ _ | refine blk_drew ?_ | refine blk_alloc ?_ _)); exact BK123.out) Try.underlying25 rfl (by kernel_rfl)) rfl ?_
        exact ⟨by first | rfl | (simp [errW_none, errW_some] <;> rfl) | (simp [*, errW_none, errW_some] <;> rfl), by repeat (first | (with_reducible first | exact HB.out | apply below_alloc | apply pw_below_drewN | apply below_drew1 | refine below_set ?_ GE123.out) | exact HB.out)⟩
      · replace c9 := Bool.eq_false_iff.mpr c9
        subst c9
        have H1 : (if 0 < (l0.length : Int) then (if 1 ≤ 9 then (if 9 ≤ (l0.length : Int) then ((record_number.f kj1 ((l0.take 9).drop 1)).bind fun t128 => (if 9 ≤ 17 then (if 17 ≤ (l0.length : Int) then ((record_number.f kj1 ((l0.take 17).drop 9)).bind fun t130 => (if 19 ≤ (l0.length : Int) then ((record_Check.f kj1 (wrap64 (rd l0 0)) t128 t130 (strOfNums (l0.drop 19))).bind fun t133 => (if t133 = 0 then (some (wrap64 (rd l0 0), t128, t130, strOfNums (l0.drop 19), 0)) else (some (0, 0, 0, (⟨#[]⟩ : ByteArray), 8)))) else (none))) else (none)) else (none))) else (none)) else (none)) else (none)) = some (r1, r2, r3, r4, r5) := by rw [if_neg (show ¬ (false = true) by decide)] at H; exact H
        clear H
        have H := H1
        clear H1
        by_cases c11 : 0 < (l0.length : Int)
        · rw [if_pos c11] at H
          have c11b0 : decide (0 < (l0.length : Int)) = true := decide_eq_true c11
          have c11b1 : decide (0 < l0.length) = true := decide_eq_true (by omega)
          clear c11
          by_cases c12 : 1 ≤ 9
          · rw [if_pos c12] at H
            have c12b0 := eq_true c12
            have c12b1 : decide (1 ≤ 9) = true := decide_eq_true c12
            clear c12
            by_cases c13 : 9 ≤ (l0.length : Int)
            · rw [if_pos c13] at H
              have c13b0 := eq_true c13
              have c13b1 : decide (9 ≤ (l0.length : Int)) = true := decide_eq_true c13
              clear c13
              replace H := Option.bind_eq_some_iff.mp H
              obtain ⟨t128, A140, H⟩ := H
              replace H : (if 9 ≤ 17 then (if 17 ≤ (l0.length : Int) then ((record_number.f kj1 ((l0.take 17).drop 9)).bind fun t130 => (if 19 ≤ (l0.length : Int) then ((record_Check.f kj1 (wrap64 (rd l0 0)) t128 t130 (strOfNums (l0.drop 19))).bind fun t133 => (if t133 = 0 then (some (wrap64 (rd l0 0), t128, t130, strOfNums (l0.drop 19), 0)) else (some (0, 0, 0, (⟨#[]⟩ : ByteArray), 8)))) else (none))) else (none)) else (none)) = some (r1, r2, r3, r4, r5) := H
              have A14 := Aside0.mk A140
              clear A140
              by_cases c15 : 9 ≤ 17
              · rw [if_pos c15] at H
                have c15b0 := eq_true c15
                have c15b1 : decide (9 ≤ 17) = true := decide_eq_true c15
                clear c15
                by_cases c16 : 17 ≤ (l0.length : Int)
                · rw [if_pos c16] at H
                  have c16b0 := eq_true c16
                  have c16b1 : decide (17 ≤ (l0.length : Int)) = true := decide_eq_true c16
                  clear c16
                  replace H := Option.bind_eq_some_iff.mp H
                  obtain ⟨t130, A170, H⟩ := H
                  replace H : (if 19 ≤ (l0.length : Int) then ((record_Check.f kj1 (wrap64 (rd l0 0)) t128 t130 (strOfNums (l0.drop 19))).bind fun t133 => (if t133 = 0 then (some (wrap64 (rd l0 0), t128, t130, strOfNums (l0.drop 19), 0)) else (some (0, 0, 0, (⟨#[]⟩ : ByteArray), 8)))) else (none)) = some (r1, r2, r3, r4, r5) := H
                  have A17 := Aside0.mk A170
                  clear A170
                  by_cases c18 : 19 ≤ (l0.length : Int)
                  · rw [if_pos c18] at H
                    have c18b0 := eq_true c18
                    have c18b1 : decide (19 ≤ (l0.length : Int)) = true := decide_eq_true c18
                    clear c18
                    replace H := Option.bind_eq_some_iff.mp H
                    obtain ⟨t133, A190, H⟩ := H
                    replace H : (if t133 = 0 then (some (wrap64 (rd l0 0), t128, t130, strOfNums (l0.drop 19), 0)) else (some (0, 0, 0, (⟨#[]⟩ : ByteArray), 8))) = some (r1, r2, r3, r4, r5) := H
                    have A19 := Aside0.mk A190
                    clear A190
                    have p126 : 0 ≤ (0 : Int) := (by omega)
                    have q126 : 0 < (l0.length : Int) := of_decide_eq_true (by first | (with_reducible assumption) | assumption)
                    obtain ⟨ad126, e126, hx126_0⟩ := Kd.at_int HR0.out 0 p126 q126
                    cases e126
                    have qi126 : (0 < l0.length) = True := eq_true (by omega)
                    (try rw [show ((0 : Int)).toNat = 0 from rfl] at hx126_0)
                    (try rw [Addr.add_zero'] at hx126_0)
                    replace p126 := eq_true p126
                    replace q126 := eq_true q126
                    have ha126 := World.block_lt_of_cell? w _ hx126_0
                    obtain ⟨i021, hi021, _, hsz21, _⟩ := info_parts info5
                    obtain ⟨A21, hcut21, hA21, hC21⟩ := print_mid_of (P := Try.prog) (Value.int .u8) 0 27 5 .i64 .i64 Try.underlying27 hi021 hsz21 (some ad126) c0 l0 1 9 (by omega) (by omega) (of_decide_eq_true (by first | (with_reducible assumption) | assumption)) HC0.out
                    have HR127 := Aside0.mk (Kd.C_of_reads (h1 := fun _ => rfl) (hA21 _ (Kd.reads_of_C HR0.out)))
                    have HC127 := Aside0.mk hC21
                    obtain ⟨A22, hcut22, hA22, hC22⟩ := print_mid_of (P := Try.prog) (Value.int .u8) 0 27 5 .i64 .i64 Try.underlying27 hi021 hsz21 (some ad126) c0 l0 9 17 (by omega) (by omega) (of_decide_eq_true (by first | (with_reducible assumption) | assumption)) HC0.out
                    have HR129 := Aside0.mk (Kd.C_of_reads (h1 := fun _ => rfl) (hA22 _ (Kd.reads_of_C HR0.out)))
                    have HC129 := Aside0.mk hC22
                    obtain ⟨A23, hcut23, hA23, hC23⟩ := print_drop_of (P := Try.prog) (Value.int .u8) 0 27 5 .i64 Try.underlying27 hi021 hsz21 (some ad126) c0 l0 19 (by omega) (of_decide_eq_true (by first | (with_reducible assumption) | assumption)) HC0.out
                    have HR131 := Aside0.mk (Kd.C_of_reads (h1 := fun _ => rfl) (hA23 _ (Kd.reads_of_C HR0.out)))
                    clear hA21 hC21 hA22 hC22 hA23 hC23 hi021 hsz21
                    simp only [Int.reduceToNat] at hcut21 hcut22 hcut23 HR127 HC127 HR129 HC129 HR131
                    generalize hs21 : (l0.take 9).drop 1 = s21 at hcut21 HR127 HC127 A14
                    generalize hs22 : (l0.take 17).drop 9 = s22 at hcut22 HR129 HC129 A17
                    generalize hs23 : l0.drop 19 = s23 at hcut23 HR131 H A19
                    clear hs21 hs22 hs23
                    have HS : ∀ W : World, Below w.heap.size w W → W.cell? ad126 = some (.int .u8 (rd l0 0)) ∧ (convert 27 9 (.slice A23 s23.length (c0 - 19))).run Try.prog W = .ok (.string (strOfNums s23)) W ∧ Aside0 (Below w.heap.size w W) := fun W hb =>
                      ⟨(hb.cell ha126).trans hx126_0, Kd.C_string (P := Try.prog) (A := A23) (c := (c0 - 19)) Try.underlying27 Try.underlying5 Try.underlying9 (Kd.C_below HR131.out hb), ⟨hb⟩⟩
                    have HSa := Aside0.mk HS
                    clear HS hx126_0 ha126
                    go_upto_region 3 with (fail)
                    (try simp only [Act.put, List.setIfInBounds_toArray, List.set_cons_zero, List.set_cons_succ])
                    go_cut [4] (fun v4 wc1 => ∃ (g4 : Nat), v4 = .pointer (some ⟨g4, 0, none⟩) ∧ Aside0 (wc1.heap[g4]? = some (.cells #[.int .i64 (wrap64 (rd l0 0)), .int .u64 t128, .int .u64 t130, .string (strOfNums s23)] 25 (0, 0))) ∧ Aside0 (w.heap.size ≤ g4) ∧ Aside0 (gb123 ≠ g4) ∧ Aside0 (g4 ≠ gb123) ∧ Aside0 (wc1.heap[gb123]? = some (.cells #[.int .i64 0, .int .u64 0, .int .u64 0, .string (⟨#[]⟩ : ByteArray)] 25 (0, 0))) ∧ Aside0 (Below w.heap.size w wc1))
                    case first =>
                      clear H A19
                      have GEz := Aside0.mk HB.out.size
                      have hal : ∀ n i : Nat, ((wc.drewN n).alloc (.cells #[.int .i64 0, .int .u64 0, .int .u64 0, .string (⟨#[]⟩ : ByteArray)] 25)).cell? ⟨wc.heap.size, i, none⟩ = (#[.int .i64 0, .int .u64 0, .int .u64 0, .string (⟨#[]⟩ : ByteArray)] : Array Value)[i]? := fun n i => World.cell?_alloc_at _ _ _ _ rfl
                      have hfl : ∀ n i : Nat, ((wc.drewN n).alloc (.cells #[.int .i64 0, .int .u64 0, .int .u64 0, .string (⟨#[]⟩ : ByteArray)] 25)).frozen? ⟨wc.heap.size, i, none⟩ = false := fun n i => World.frozen?_alloc_at _ _ _ _ rfl
                      go_region_held3 (fun W => W.cell? ad126 = some (.int .u8 (rd l0 0)) ∧ (convert 27 9 (.slice A23 s23.length (c0 - 19))).run Try.prog W = .ok (.string (strOfNums s23)) W ∧ Aside0 (Below w.heap.size w W)) ((refine HSa.out _ ?_; repeat (first | (with_reducible first | exact HB.out | apply below_alloc | apply pw_below_drewN | apply below_drew1 | refine below_set ?_ GEz.out) | exact HB.out))) (first | (go_at_call 16; (with_reducible refine (record_number.calls kj1 _ _ s21 t128 _ ?side1 ?side2 A14.out).mono ?_); (case side1 => exact Kd.C_below HR127.out (by repeat (first | (with_reducible first | exact HB.out | apply below_alloc | apply pw_below_drewN | apply below_drew1 | refine below_set ?_ GEz.out) | exact HB.out))); (case side2 => exact HC127.out); rintro e w' ⟨rfl, ⟨nd, rfl⟩⟩) | (go_at_call 16; (with_reducible refine (record_number.calls kj1 _ _ s22 t130 _ ?side1 ?side2 A17.out).mono ?_); (case side1 => exact Kd.C_below HR129.out (by repeat (first | (with_reducible first | exact HB.out | apply below_alloc | apply pw_below_drewN | apply below_drew1 | refine below_set ?_ GEz.out) | exact HB.out))); (case side2 => exact HC129.out); rintro e w' ⟨rfl, ⟨nd, rfl⟩⟩))
                      all_goals
                        have hwr : IntKind.i64.wrap (rd l0 0) = wrap64 (rd l0 0) := i64_w _
                        go_wp2
                        (try simp only [hwr])
                        have NZ := Aside0.mk (Nat.ne_of_lt (blk_lt BK123.out))
                        go_meet
                        case rel => exact ⟨wc.heap.size, rfl, ⟨by refine blk_put (cs := #[.int .i64 (wrap64 (rd l0 0)), .int .u64 t128, .int .u64 t130, .string (⟨#[]⟩ : ByteArray)]) ?_ 3 _ rfl; refine blk_put (cs := #[.int .i64 (wrap64 (rd l0 0)), .int .u64 t128, .int .u64 0, .string (⟨#[]⟩ : ByteArray)]) ?_ 2 _ rfl; refine blk_put (cs := #[.int .i64 (wrap64 (rd l0 0)), .int .u64 0, .int .u64 0, .string (⟨#[]⟩ : ByteArray)]) ?_ 1 _ rfl; refine blk_put (cs := #[.int .i64 0, .int .u64 0, .int .u64 0, .string (⟨#[]⟩ : ByteArray)]) ?_ 0 _ rfl; exact blk_new _ _⟩, GEz, NZ, ⟨Ne.symm NZ.out⟩, ⟨by refine blk_far ?_ NZ.out _; refine blk_far ?_ NZ.out _; refine blk_far ?_ NZ.out _; refine blk_far ?_ NZ.out _; (with_reducible repeat (first | refine blk_drewN ?_ _ | refine blk_drew ?_ | refine blk_alloc ?_ _)); exact BK123.out⟩, ⟨by repeat (first | (with_reducible first | exact HB.out | apply below_alloc | apply pw_below_drewN | apply below_drew1 | refine below_set ?_ GEz.out) | exact HB.out)⟩⟩
                    case rest =>
                      clear HSa
                      obtain ⟨g4, rfl, BK4, GE4, NB1, NB2, BK123, HB⟩ := hcut
                      have hnb1 := NB1.out
                      have hnb2 := NB2.out
                      have hcz37_0 : wc.cell? ⟨g4, 0, none⟩ = some (.int .i64 (wrap64 (rd l0 0))) := (blk_cell BK4.out 0).trans rfl
                      have hcz37_1 : wc.cell? ⟨g4, 1, none⟩ = some (.int .u64 t128) := (blk_cell BK4.out 1).trans rfl
                      have hcz37_2 : wc.cell? ⟨g4, 2, none⟩ = some (.int .u64 t130) := (blk_cell BK4.out 2).trans rfl
                      have hcz37_3 : wc.cell? ⟨g4, 3, none⟩ = some (.string (strOfNums s23)) := (blk_cell BK4.out 3).trans rfl
                      by_cases c20 : t133 = 0
                      · rw [if_pos c20] at H
                        have c20b0 : (t133 == 0) = true := beq_iff_eq.mpr c20
                        have c20b1 : (t133 != 0) = false := bne_eq_false_iff_eq.mpr c20
                        clear c20
                        simp only [Option.some.injEq, Prod.mk.injEq] at H
                        obtain ⟨rfl, rfl, rfl, rfl, rfl⟩ := H
                        go_wp2_with (first | ((with_reducible refine gate_callee (f := 10) rfl ?_); refine goesL_ (some 34) rfl rfl Try.func10 (by kernel_rfl) rfl #[.agg #[.int .i64 (wrap64 (rd l0 0)), .int .u64 t128, .int .u64 t130, .string (strOfNums s23)]] rfl (by (try simp only [List.map_toArray, List.map_cons, List.map_nil]); first | done | rfl | (simp only [List.length_drop, List.length_take]; rfl)) ?_; (with_reducible refine (record_Check.calls kj1 (wrap64 (rd l0 0)) t128 t130 (strOfNums s23) t133 _ A19.out).mono ?_); rintro e w38 ⟨rfl, hb⟩; refine ⟨_, rfl, ?_⟩; have n0_ := Aside0.mk (blk_below (g := gb123) (o := .cells #[.int .i64 0, .int .u64 0, .int .u64 0, .string (⟨#[]⟩ : ByteArray)] 25 (0, 0)) (by (with_reducible repeat (first | refine blk_drewN ?_ _ | refine blk_drew ?_ | refine blk_alloc ?_ _)); exact BK123.out) hb); have n1_ := Aside0.mk (blk_below (g := g4) (o := .cells #[.int .i64 (wrap64 (rd l0 0)), .int .u64 t128, .int .u64 t130, .string (strOfNums s23)] 25 (0, 0)) (by (with_reducible repeat (first | refine blk_drewN ?_ _ | refine blk_drew ?_ | refine blk_alloc ?_ _)); exact BK4.out) hb); have n2_ := Aside0.mk (below_step (by repeat (first | (with_reducible first | exact HB.out | apply below_alloc | apply pw_below_drewN | apply below_drew1 | refine below_set ?_ GE123.out) | exact HB.out)) hb); clear BK123; clear BK4; clear HB; have BK123 := n0_; have BK4 := n1_; have HB := n2_; clear n0_ n1_ n2_; (try clear hb); have hcz39_0 : w38.cell? ⟨gb123, 0, none⟩ = some (.int .i64 0) := (blk_cell BK123.out 0).trans rfl; have hcz39_1 : w38.cell? ⟨gb123, 1, none⟩ = some (.int .u64 0) := (blk_cell BK123.out 1).trans rfl; have hcz39_2 : w38.cell? ⟨gb123, 2, none⟩ = some (.int .u64 0) := (blk_cell BK123.out 2).trans rfl; have hcz39_3 : w38.cell? ⟨gb123, 3, none⟩ = some (.string (⟨#[]⟩ : ByteArray)) := (blk_cell BK123.out 3).trans rfl; have hcz40_0 : w38.cell? ⟨g4, 0, none⟩ = some (.int .i64 (wrap64 (rd l0 0))) := (blk_cell BK4.out 0).trans rfl; have hcz40_1 : w38.cell? ⟨g4, 1, none⟩ = some (.int .u64 t128) := (blk_cell BK4.out 1).trans rfl; have hcz40_2 : w38.cell? ⟨g4, 2, none⟩ = some (.int .u64 t130) := (blk_cell BK4.out 2).trans rfl; have hcz40_3 : w38.cell? ⟨g4, 3, none⟩ = some (.string (strOfNums s23)) := (blk_cell BK4.out 3).trans rfl; have hfz39_0 := blk_frozen BK123.out 0; have hfz39_1 := blk_frozen BK123.out 1; have hfz39_2 := blk_frozen BK123.out 2; have hfz39_3 := blk_frozen BK123.out 3))
                        refine bodyPost_ret (results_ct rfl _ _ gb123 25 #[.int .i64 (wrap64 (rd l0 0)), .int .u64 t128, .int .u64 t130, .string (strOfNums s23)] (0, 0) _ rfl (by (with_reducible repeat (first | refine blk_drewN ?_ _ | refine blk_drew ?_ | refine blk_alloc ?_ _)); refine blk_put (cs := #[.int .i64 (wrap64 (rd l0 0)), .int .u64 t128, .int .u64 t130, .string (⟨#[]⟩ : ByteArray)]) ?_ 3 _ rfl; (with_reducible repeat (first | refine blk_drewN ?_ _ | refine blk_drew ?_ | refine blk_alloc ?_ _)); refine blk_put (cs := #[.int .i64 (wrap64 (rd l0 0)), .int .u64 t128, .int .u64 0, .string (⟨#[]⟩ : ByteArray)]) ?_ 2 _ rfl; (with_reducible repeat (first | refine blk_drewN ?_ _ | refine blk_drew ?_ | refine blk_alloc ?_ _)); refine blk_put (cs := #[.int .i64 (wrap64 (rd l0 0)), .int .u64 0, .int .u64 0, .string (⟨#[]⟩ : ByteArray)]) ?_ 1 _ rfl; (with_reducible repeat (first | refine blk_drewN ?_ _ | refine blk_drew ?_ | refine blk_alloc ?_ _)); refine blk_put (cs := #[.int .i64 0, .int .u64 0, .int .u64 0, .string (⟨#[]⟩ : ByteArray)]) ?_ 0 _ rfl; (with_reducible repeat (first | refine blk_drewN ?_ _ | refine blk_drew ?_ | refine blk_alloc ?_ _)); exact BK123.out) Try.underlying25 rfl (by kernel_rfl)) rfl ?_
                        exact ⟨by first | rfl | (simp [errW_none, errW_some] <;> rfl) | (simp [*, errW_none, errW_some] <;> rfl), by repeat (first | (with_reducible first | exact HB.out | apply below_alloc | apply pw_below_drewN | apply below_drew1 | refine below_set ?_ GE123.out) | exact HB.out)⟩
                      · rw [if_neg c20] at H
                        have c20b0 : (t133 == 0) = false := beq_eq_false_iff_ne.mpr c20
                        have c20b1 : (t133 != 0) = true := bne_iff_ne.mpr c20
                        clear c20
                        simp only [Option.some.injEq, Prod.mk.injEq] at H
                        obtain ⟨rfl, rfl, rfl, rfl, rfl⟩ := H
                        go_wp2_with (first | ((with_reducible refine gate_callee (f := 10) rfl ?_); refine goesL_ (some 34) rfl rfl Try.func10 (by kernel_rfl) rfl #[.agg #[.int .i64 (wrap64 (rd l0 0)), .int .u64 t128, .int .u64 t130, .string (strOfNums s23)]] rfl (by (try simp only [List.map_toArray, List.map_cons, List.map_nil]); first | done | rfl | (simp only [List.length_drop, List.length_take]; rfl)) ?_; (with_reducible refine (record_Check.calls kj1 (wrap64 (rd l0 0)) t128 t130 (strOfNums s23) t133 _ A19.out).mono ?_); rintro e w38 ⟨rfl, hb⟩; refine ⟨_, rfl, ?_⟩; have n0_ := Aside0.mk (blk_below (g := gb123) (o := .cells #[.int .i64 0, .int .u64 0, .int .u64 0, .string (⟨#[]⟩ : ByteArray)] 25 (0, 0)) (by (with_reducible repeat (first | refine blk_drewN ?_ _ | refine blk_drew ?_ | refine blk_alloc ?_ _)); exact BK123.out) hb); have n1_ := Aside0.mk (blk_below (g := g4) (o := .cells #[.int .i64 (wrap64 (rd l0 0)), .int .u64 t128, .int .u64 t130, .string (strOfNums s23)] 25 (0, 0)) (by (with_reducible repeat (first | refine blk_drewN ?_ _ | refine blk_drew ?_ | refine blk_alloc ?_ _)); exact BK4.out) hb); have n2_ := Aside0.mk (below_step (by repeat (first | (with_reducible first | exact HB.out | apply below_alloc | apply pw_below_drewN | apply below_drew1 | refine below_set ?_ GE123.out) | exact HB.out)) hb); clear BK123; clear BK4; clear HB; have BK123 := n0_; have BK4 := n1_; have HB := n2_; clear n0_ n1_ n2_; (try clear hb); have hcz39_0 : w38.cell? ⟨gb123, 0, none⟩ = some (.int .i64 0) := (blk_cell BK123.out 0).trans rfl; have hcz39_1 : w38.cell? ⟨gb123, 1, none⟩ = some (.int .u64 0) := (blk_cell BK123.out 1).trans rfl; have hcz39_2 : w38.cell? ⟨gb123, 2, none⟩ = some (.int .u64 0) := (blk_cell BK123.out 2).trans rfl; have hcz39_3 : w38.cell? ⟨gb123, 3, none⟩ = some (.string (⟨#[]⟩ : ByteArray)) := (blk_cell BK123.out 3).trans rfl; have hcz40_0 : w38.cell? ⟨g4, 0, none⟩ = some (.int .i64 (wrap64 (rd l0 0))) := (blk_cell BK4.out 0).trans rfl; have hcz40_1 : w38.cell? ⟨g4, 1, none⟩ = some (.int .u64 t128) := (blk_cell BK4.out 1).trans rfl; have hcz40_2 : w38.cell? ⟨g4, 2, none⟩ = some (.int .u64 t130) := (blk_cell BK4.out 2).trans rfl; have hcz40_3 : w38.cell? ⟨g4, 3, none⟩ = some (.string (strOfNums s23)) := (blk_cell BK4.out 3).trans rfl; have hfz39_0 := blk_frozen BK123.out 0; have hfz39_1 := blk_frozen BK123.out 1; have hfz39_2 := blk_frozen BK123.out 2; have hfz39_3 := blk_frozen BK123.out 3))
                        refine bodyPost_ret (results_ct rfl _ _ gb123 25 #[.int .i64 0, .int .u64 0, .int .u64 0, .string (⟨#[]⟩ : ByteArray)] (0, 0) _ rfl (by (with_reducible repeat (first | refine blk_drewN ?_ _ | refine blk_drew ?_ | refine blk_alloc ?_ _)); refine blk_put (cs := #[.int .i64 0, .int .u64 0, .int .u64 0, .string (⟨#[]⟩ : ByteArray)]) ?_ 3 _ rfl; (with_reducible repeat (first | refine blk_drewN ?_ _ | refine blk_drew ?_ | refine blk_alloc ?_ _)); refine blk_put (cs := #[.int .i64 0, .int .u64 0, .int .u64 0, .string (⟨#[]⟩ : ByteArray)]) ?_ 2 _ rfl; (with_reducible repeat (first | refine blk_drewN ?_ _ | refine blk_drew ?_ | refine blk_alloc ?_ _)); refine blk_put (cs := #[.int .i64 0, .int .u64 0, .int .u64 0, .string (⟨#[]⟩ : ByteArray)]) ?_ 1 _ rfl; (with_reducible repeat (first | refine blk_drewN ?_ _ | refine blk_drew ?_ | refine blk_alloc ?_ _)); refine blk_put (cs := #[.int .i64 0, .int .u64 0, .int .u64 0, .string (⟨#[]⟩ : ByteArray)]) ?_ 0 _ rfl; (with_reducible repeat (first | refine blk_drewN ?_ _ | refine blk_drew ?_ | refine blk_alloc ?_ _)); exact BK123.out) Try.underlying25 rfl (by kernel_rfl)) rfl ?_
                        exact ⟨by first | rfl | (simp [errW_none, errW_some] <;> rfl) | (simp [*, errW_none, errW_some] <;> rfl), by repeat (first | (with_reducible first | exact HB.out | apply below_alloc | apply pw_below_drewN | apply below_drew1 | refine below_set ?_ GE123.out) | exact HB.out)⟩
                  · rw [if_neg c18] at H
                    exact absurd H (by simp)
                · rw [if_neg c16] at H
                  exact absurd H (by simp)
              · rw [if_neg c15] at H
                exact absurd H (by simp)
            · rw [if_neg c13] at H
              exact absurd H (by simp)
          · rw [if_neg c12] at H
            exact absurd H (by simp)
        · rw [if_neg c11] at H
          exact absurd H (by simp)



end Go.Proofs.Ytdbiobaccihpfaa.PAll
