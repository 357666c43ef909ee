-- Written by a program of this session (hprint.py: the kit's print over several laws at once, with functions proved by hand). Lean checks it.
import Derived.Test.YtdbiobaccihpfaaPAllx0
import Derived.Test.YtdbiobaccihpfaaPAllx5
import Derived.Test.YtdbiobaccihpfaaPAllx7
namespace Go.Proofs.Ytdbiobaccihpfaa.PAll
open Go.RowKit Go.Proofs.YtdbiobaccihpfaaW.PrintWords Go.Proofs.YtdbiobaccihpfaaW.PrintLast Go.Proofs.YtdbiobaccihpfaaW.PrintMore
attribute [local go_sem] max2_int min2_int max_two min_two max_three min_three max_four min_four   -- for this text's walks alone
set_option linter.unusedVariables false
set_option linter.unusedSimpArgs false

-- EXT marginalia/marginaliaref22.Decode ; rounds=1 ; making=1 ; uses=marginalia/marginaliaref16.Number,marginalia/marginaliaref22.Encode
/-! ### marginaliaref22_Decode: function 13 -/
def marginaliaref22_Decode.f (k : Nat) (l0 : List Int) : Option (Int × Int × Int × ByteArray × Int) := if (l0.length : Int) < 19 then (some (0, 0, 0, (⟨#[]⟩ : ByteArray), 8)) else (if 0 < (l0.length : Int) then (if 1 ≤ 9 then (if 9 ≤ (l0.length : Int) then ((marginaliaref16_Number.f k ((l0.take 9).drop 1)).bind fun t177 => (if 9 ≤ 17 then (if 17 ≤ (l0.length : Int) then ((marginaliaref16_Number.f k ((l0.take 17).drop 9)).bind fun t179 => (if 19 ≤ (l0.length : Int) then ((marginaliaref22_Encode.f k (wrap64 (rd l0 0)) t177 t179 (strOfNums (l0.drop 19))).bind fun bt182 => (if bt182.2 = 0 then (if (strOfNums bt182.1).toList = (strOfNums l0).toList then (some (wrap64 (rd l0 0), t177, t179, strOfNums (l0.drop 19), 0)) else (some (0, 0, 0, (⟨#[]⟩ : ByteArray), 8))) else (some (0, 0, 0, (⟨#[]⟩ : ByteArray), 8)))) else (none))) else (none)) else (none))) else (none)) else (none)) else (none))
theorem marginaliaref22_Decode.mono : ∀ a0 k, LeO (marginaliaref22_Decode.f k a0) (marginaliaref22_Decode.f (k + 1) a0) := by
  intro a0 k
  unfold marginaliaref22_Decode.f
  repeat' first
      | (with_reducible exact marginaliaref16_Number.mono _ _)
      | (with_reducible exact marginaliaref22_Encode.mono _ _ _ _ _)
      | (with_reducible exact LeO.refl _)
      | (with_reducible exact LeO.none _)
      | (with_reducible refine LeO.ite ?_ ?_)
      | (with_reducible refine LeO.bind ?_ (fun _ => ?_))
      | exact marginaliaref16_Number.mono _ _
      | exact marginaliaref22_Encode.mono _ _ _ _ _
      | exact LeO.none _
      | refine LeO.ite ?_ ?_
      | refine LeO.bind ?_ (fun _ => ?_)
set_option maxHeartbeats 8000000 in
set_option maxRecDepth 100000 in
theorem marginaliaref22_Decode.calls (k : Nat) (A0 : Option Addr) (c0 : Nat) (l0 : List Int) (r1 : Int) (r2 : Int) (r3 : Int) (r4 : ByteArray) (r5 : Int) (w : World) (hr0 : Kd.C (Kd.int .u8) w A0 l0.length l0) (hc0 : l0.length ≤ c0) (h : marginaliaref22_Decode.f k l0 = some (r1, r2, r3, r4, r5)) :
    Calls Try.prog 13 #[.slice A0 l0.length c0] w fun e w' => e = .returned (.tuple #[.agg #[.int .i64 r1, .int .u64 r2, .int .u64 r3, .string r4], .int .i64 r5]) ∧ Below w.heap.size w w' := by
  have hu25 := Try.underlying25
  have HR0 := Aside0.mk hr0
  have HC0 := Aside0.mk hc0
  clear hr0 hc0
  have HB := Aside0.mk (Below.refl w.heap.size w)
  have H : (if (l0.length : Int) < 19 then (some (0, 0, 0, (⟨#[]⟩ : ByteArray), 8)) else (if 0 < (l0.length : Int) then (if 1 ≤ 9 then (if 9 ≤ (l0.length : Int) then ((marginaliaref16_Number.f k ((l0.take 9).drop 1)).bind fun t177 => (if 9 ≤ 17 then (if 17 ≤ (l0.length : Int) then ((marginaliaref16_Number.f k ((l0.take 17).drop 9)).bind fun t179 => (if 19 ≤ (l0.length : Int) then ((marginaliaref22_Encode.f k (wrap64 (rd l0 0)) t177 t179 (strOfNums (l0.drop 19))).bind fun bt182 => (if bt182.2 = 0 then (if (strOfNums bt182.1).toList = (strOfNums l0).toList then (some (wrap64 (rd l0 0), t177, t179, strOfNums (l0.drop 19), 0)) else (some (0, 0, 0, (⟨#[]⟩ : ByteArray), 8))) else (some (0, 0, 0, (⟨#[]⟩ : ByteArray), 8)))) else (none))) else (none)) else (none))) else (none)) else (none)) else (none))) = some (r1, r2, r3, r4, r5) := h
  clear h
  by_cases c2 : (l0.length : Int) < 19
  · rw [if_pos c2] at H
    have c2b0 : decide ((l0.length : Int) < 19) = true := decide_eq_true c2
    have c2b1 : decide (l0.length < 19) = true := decide_eq_true (by omega)
    clear c2
    simp only [Option.some.injEq, Prod.mk.injEq] at H
    obtain ⟨rfl, rfl, rfl, rfl, rfl⟩ := H
    go_enter Try.func13, Try.ntmps13
    go_wp2_with (first | ((with_reducible refine gate_dst (N := 2) rfl ?_); refine box_event ?hg (N := 2) ?hd (cs := #[.int .i64 0, .int .u64 0, .int .u64 0, .string (⟨#[]⟩ : ByteArray)]) (t := 25) ?hr ?_; (case hd => rfl); (case hg => rfl); (case hr => first | (go_simp; done) | (go_simp; rfl)); intro gb174 hg w3 hbox hb; have n0_ := Aside0.mk (below_step (by repeat (first | (with_reducible first | exact HB.out | apply below_alloc | apply pw_below_drewN | apply below_drew1) | exact HB.out)) hb); have n1_ := Aside0.mk (hbox); have n2_ := Aside0.mk ((by rw [hg]; exact (below_size (by repeat (first | (with_reducible first | exact HB.out | apply below_alloc | apply pw_below_drewN | apply below_drew1) | exact HB.out))) : w.heap.size ≤ gb174)); have n3_ := Aside0.mk ((by rw [hg]; exact (below_size (by repeat (first | (with_reducible first | exact HB.out | apply below_alloc | apply pw_below_drewN | apply below_drew1) | exact HB.out))) : w.heap.size ≤ gb174)); clear HB; have HB := n0_; have BK174 := n1_; have GW174 := n2_; have GE174 := n3_; clear n0_ n1_ n2_ n3_; clear hb hbox hg; have hcz4_0 : w3.cell? ⟨gb174, 0, none⟩ = some (.int .i64 0) := (blk_cell BK174.out 0).trans rfl; have hcz4_1 : w3.cell? ⟨gb174, 1, none⟩ = some (.int .u64 0) := (blk_cell BK174.out 1).trans rfl; have hcz4_2 : w3.cell? ⟨gb174, 2, none⟩ = some (.int .u64 0) := (blk_cell BK174.out 2).trans rfl; have hcz4_3 : w3.cell? ⟨gb174, 3, none⟩ = some (.string (⟨#[]⟩ : ByteArray)) := (blk_cell BK174.out 3).trans rfl; have hfz4_0 := blk_frozen BK174.out 0; have hfz4_1 := blk_frozen BK174.out 1; have hfz4_2 := blk_frozen BK174.out 2; have hfz4_3 := blk_frozen BK174.out 3))
    refine bodyPost_ret (results_ct rfl _ _ gb174 25 #[.int .i64 0, .int .u64 0, .int .u64 0, .string (⟨#[]⟩ : ByteArray)] (0, 0) _ rfl (by (with_reducible repeat (first | refine blk_drewN ?_ _ | refine blk_drew ?_ | refine blk_alloc ?_ _)); refine blk_put (cs := #[.int .i64 0, .int .u64 0, .int .u64 0, .string (⟨#[]⟩ : ByteArray)]) ?_ 3 _ rfl; (with_reducible repeat (first | refine blk_drewN ?_ _ | refine blk_drew ?_ | refine blk_alloc ?_ _)); refine blk_put (cs := #[.int .i64 0, .int .u64 0, .int .u64 0, .string (⟨#[]⟩ : ByteArray)]) ?_ 2 _ rfl; (with_reducible repeat (first | refine blk_drewN ?_ _ | refine blk_drew ?_ | refine blk_alloc ?_ _)); refine blk_put (cs := #[.int .i64 0, .int .u64 0, .int .u64 0, .string (⟨#[]⟩ : ByteArray)]) ?_ 1 _ rfl; (with_reducible repeat (first | refine blk_drewN ?_ _ | refine blk_drew ?_ | refine blk_alloc ?_ _)); refine blk_put (cs := #[.int .i64 0, .int .u64 0, .int .u64 0, .string (⟨#[]⟩ : ByteArray)]) ?_ 0 _ rfl; (with_reducible repeat (first | refine blk_drewN ?_ _ | refine blk_drew ?_ | refine blk_alloc ?_ _)); exact BK174.out) Try.underlying25 rfl (by kernel_rfl)) rfl ?_
    exact ⟨by first | rfl | (simp [errW_none, errW_some] <;> rfl) | (simp [*, errW_none, errW_some] <;> rfl), by repeat (first | (with_reducible first | exact HB.out | apply below_alloc | apply pw_below_drewN | apply below_drew1 | refine below_set ?_ GE174.out) | exact HB.out)⟩
  · rw [if_neg c2] at H
    have c2b0 : decide ((l0.length : Int) < 19) = false := decide_eq_false c2
    have c2b1 : decide (l0.length < 19) = false := decide_eq_false (by omega)
    clear c2
    by_cases c5 : 0 < (l0.length : Int)
    · rw [if_pos c5] at H
      have c5b0 : decide (0 < (l0.length : Int)) = true := decide_eq_true c5
      have c5b1 : decide (0 < l0.length) = true := decide_eq_true (by omega)
      clear c5
      by_cases c6 : 1 ≤ 9
      · rw [if_pos c6] at H
        have c6b0 := eq_true c6
        have c6b1 : decide (1 ≤ 9) = true := decide_eq_true c6
        clear c6
        by_cases c7 : 9 ≤ (l0.length : Int)
        · rw [if_pos c7] at H
          have c7b0 := eq_true c7
          have c7b1 : decide (9 ≤ (l0.length : Int)) = true := decide_eq_true c7
          clear c7
          replace H := Option.bind_eq_some_iff.mp H
          obtain ⟨t177, A80, H⟩ := H
          replace H : (if 9 ≤ 17 then (if 17 ≤ (l0.length : Int) then ((marginaliaref16_Number.f k ((l0.take 17).drop 9)).bind fun t179 => (if 19 ≤ (l0.length : Int) then ((marginaliaref22_Encode.f k (wrap64 (rd l0 0)) t177 t179 (strOfNums (l0.drop 19))).bind fun bt182 => (if bt182.2 = 0 then (if (strOfNums bt182.1).toList = (strOfNums l0).toList then (some (wrap64 (rd l0 0), t177, t179, strOfNums (l0.drop 19), 0)) else (some (0, 0, 0, (⟨#[]⟩ : ByteArray), 8))) else (some (0, 0, 0, (⟨#[]⟩ : ByteArray), 8)))) else (none))) else (none)) else (none)) = some (r1, r2, r3, r4, r5) := H
          have A8 := Aside0.mk A80
          clear A80
          by_cases c9 : 9 ≤ 17
          · rw [if_pos c9] at H
            have c9b0 := eq_true c9
            have c9b1 : decide (9 ≤ 17) = true := decide_eq_true c9
            clear c9
            by_cases c10 : 17 ≤ (l0.length : Int)
            · rw [if_pos c10] at H
              have c10b0 := eq_true c10
              have c10b1 : decide (17 ≤ (l0.length : Int)) = true := decide_eq_true c10
              clear c10
              replace H := Option.bind_eq_some_iff.mp H
              obtain ⟨t179, A110, H⟩ := H
              replace H : (if 19 ≤ (l0.length : Int) then ((marginaliaref22_Encode.f k (wrap64 (rd l0 0)) t177 t179 (strOfNums (l0.drop 19))).bind fun bt182 => (if bt182.2 = 0 then (if (strOfNums bt182.1).toList = (strOfNums l0).toList then (some (wrap64 (rd l0 0), t177, t179, strOfNums (l0.drop 19), 0)) else (some (0, 0, 0, (⟨#[]⟩ : ByteArray), 8))) else (some (0, 0, 0, (⟨#[]⟩ : ByteArray), 8)))) else (none)) = some (r1, r2, r3, r4, r5) := H
              have A11 := Aside0.mk A110
              clear A110
              by_cases c12 : 19 ≤ (l0.length : Int)
              · rw [if_pos c12] at H
                have c12b0 := eq_true c12
                have c12b1 : decide (19 ≤ (l0.length : Int)) = true := decide_eq_true c12
                clear c12
                replace H := Option.bind_eq_some_iff.mp H
                obtain ⟨⟨t182, t185⟩, A130, H⟩ := H
                replace H : (if t185 = 0 then (if (strOfNums t182).toList = (strOfNums l0).toList then (some (wrap64 (rd l0 0), t177, t179, strOfNums (l0.drop 19), 0)) else (some (0, 0, 0, (⟨#[]⟩ : ByteArray), 8))) else (some (0, 0, 0, (⟨#[]⟩ : ByteArray), 8))) = some (r1, r2, r3, r4, r5) := H
                have A13 := Aside0.mk A130
                clear A130
                by_cases c14 : t185 = 0
                · rw [if_pos c14] at H
                  have c14b0 : (t185 == 0) = true := beq_iff_eq.mpr c14
                  have c14b1 : (t185 != 0) = false := bne_eq_false_iff_eq.mpr c14
                  clear c14
                  by_cases c15 : (strOfNums t182).toList = (strOfNums l0).toList
                  · rw [if_pos c15] at H
                    have c15b0 : ((strOfNums t182).toList == (strOfNums l0).toList) = true := beq_iff_eq.mpr c15
                    have c15b1 : ((strOfNums t182).toList != (strOfNums l0).toList) = false := bne_eq_false_iff_eq.mpr c15
                    clear c15
                    simp only [Option.some.injEq, Prod.mk.injEq] at H
                    obtain ⟨rfl, rfl, rfl, rfl, rfl⟩ := H
                    go_enter Try.func13, Try.ntmps13
                    obtain ⟨ad175, e175, hx175_0⟩ := Kd.at_int HR0.out 0 (by omega) (of_decide_eq_true (by first | (with_reducible assumption) | assumption))
                    cases e175
                    have qi175 : (0 < l0.length) = True := eq_true (by have h_ : 0 < (l0.length : Int) := of_decide_eq_true (by first | (with_reducible assumption) | assumption); omega)
                    (try rw [show ((0 : Int)).toNat = 0 from rfl] at hx175_0)
                    (try rw [Addr.add_zero'] at hx175_0)
                    have ha175 := World.block_lt_of_cell? w _ hx175_0
                    obtain ⟨i021, hi021, _, hsz21, _⟩ := info_parts info5
                    obtain ⟨A21, hcut21, hA21, hC21⟩ := print_mid_of (P := Try.prog) (Value.int .u8) 0 27 5 .i64 .i64 Try.underlying27 hi021 hsz21 (some ad175) c0 l0 1 9 (by omega) (by omega) (of_decide_eq_true (by first | (with_reducible assumption) | assumption)) HC0.out
                    have HR127 := Aside0.mk (Kd.C_of_reads (h1 := fun _ => rfl) (hA21 _ (Kd.reads_of_C HR0.out)))
                    have HC127 := Aside0.mk hC21
                    obtain ⟨A22, hcut22, hA22, hC22⟩ := print_mid_of (P := Try.prog) (Value.int .u8) 0 27 5 .i64 .i64 Try.underlying27 hi021 hsz21 (some ad175) c0 l0 9 17 (by omega) (by omega) (of_decide_eq_true (by first | (with_reducible assumption) | assumption)) HC0.out
                    have HR129 := Aside0.mk (Kd.C_of_reads (h1 := fun _ => rfl) (hA22 _ (Kd.reads_of_C HR0.out)))
                    have HC129 := Aside0.mk hC22
                    obtain ⟨A23, hcut23, hA23, hC23⟩ := print_drop_of (P := Try.prog) (Value.int .u8) 0 27 5 .i64 Try.underlying27 hi021 hsz21 (some ad175) c0 l0 19 (by omega) (of_decide_eq_true (by first | (with_reducible assumption) | assumption)) HC0.out
                    have HR131 := Aside0.mk (Kd.C_of_reads (h1 := fun _ => rfl) (hA23 _ (Kd.reads_of_C HR0.out)))
                    clear hA21 hC21 hA22 hC22 hA23 hC23 hi021 hsz21
                    simp only [Int.reduceToNat] at hcut21 hcut22 hcut23 HR127 HC127 HR129 HC129 HR131
                    generalize hs21 : (l0.take 9).drop 1 = s21 at hcut21 HR127 HC127 A8
                    generalize hs22 : (l0.take 17).drop 9 = s22 at hcut22 HR129 HC129 A11
                    generalize hs23 : l0.drop 19 = s23 at hcut23 HR131 A13 ⊢
                    clear hs21 hs22 hs23
                    have HS : ∀ W : World, Below w.heap.size w W → W.cell? ad175 = some (.int .u8 (rd l0 0)) ∧ (convert 27 9 (.slice A23 s23.length (c0 - 19))).run Try.prog W = .ok (.string (strOfNums s23)) W ∧ Aside0 (Below w.heap.size w W) := fun W hb =>
                      ⟨(hb.cell ha175).trans hx175_0, Kd.C_string (P := Try.prog) (A := A23) (c := (c0 - 19)) Try.underlying27 Try.underlying5 Try.underlying9 (Kd.C_below HR131.out hb), ⟨hb⟩⟩
                    have HSa := Aside0.mk HS
                    clear HS hx175_0 ha175
                    go_upto_region 1 with (first | ((with_reducible refine gate_dst (N := 2) rfl ?_); (try (refine gate_guard (by rfl) ?_; dsimp only)); refine box_event ?hg (N := 2) ?hd (cs := #[.int .i64 0, .int .u64 0, .int .u64 0, .string (⟨#[]⟩ : ByteArray)]) (t := 25) ?hr ?_; (case hd => rfl); (case hg => rfl); (case hr => first | (go_simp; done) | (go_simp; rfl)); intro gb174 hg w16 hbox hb; have n0_ := Aside0.mk (below_step (by repeat (first | (with_reducible first | exact HB.out | apply below_alloc | apply pw_below_drewN | apply below_drew1) | exact HB.out)) hb); have n1_ := Aside0.mk (hbox); have n2_ := Aside0.mk ((by rw [hg]; exact (below_size (by repeat (first | (with_reducible first | exact HB.out | apply below_alloc | apply pw_below_drewN | apply below_drew1) | exact HB.out))) : w.heap.size ≤ gb174)); have n3_ := Aside0.mk ((by rw [hg]; exact (below_size (by repeat (first | (with_reducible first | exact HB.out | apply below_alloc | apply pw_below_drewN | apply below_drew1) | exact HB.out))) : w.heap.size ≤ gb174)); clear HB; have HB := n0_; have BK174 := n1_; have GW174 := n2_; have GE174 := n3_; clear n0_ n1_ n2_ n3_; clear hb hbox hg))
                    (try simp only [Act.put, List.setIfInBounds_toArray, List.set_cons_zero, List.set_cons_succ])
                    go_upto_region 3 with (fail)
                    (try simp only [Act.put, List.setIfInBounds_toArray, List.set_cons_zero, List.set_cons_succ])
                    go_cut [4] (fun v1 wc1 => ∃ (gb181 : Nat), v1 = .pointer (some ⟨gb181, 0, none⟩) ∧ Aside0 (wc1.heap[gb181]? = some (.cells #[.int .i64 (wrap64 (rd l0 0)), .int .u64 t177, .int .u64 t179, .string (strOfNums s23)] 25 (0, 0))) ∧ Aside0 (w.heap.size ≤ gb181) ∧ Aside0 (gb174 ≠ gb181) ∧ Aside0 (gb181 ≠ gb174) ∧ Aside0 (wc1.heap[gb174]? = some (.cells #[.int .i64 0, .int .u64 0, .int .u64 0, .string (⟨#[]⟩ : ByteArray)] 25 (0, 0))) ∧ Aside0 (Below w.heap.size w wc1))
                    case first =>
                      try clear A13
                      have GEz := Aside0.mk HB.out.size
                      have hal : ∀ n i : Nat, ((w16.drewN n).alloc (.cells #[.int .i64 0, .int .u64 0, .int .u64 0, .string (⟨#[]⟩ : ByteArray)] 25)).cell? ⟨w16.heap.size, i, none⟩ = (#[.int .i64 0, .int .u64 0, .int .u64 0, .string (⟨#[]⟩ : ByteArray)] : Array Value)[i]? := fun n i => World.cell?_alloc_at _ _ _ _ rfl
                      have hfl : ∀ n i : Nat, ((w16.drewN n).alloc (.cells #[.int .i64 0, .int .u64 0, .int .u64 0, .string (⟨#[]⟩ : ByteArray)] 25)).frozen? ⟨w16.heap.size, i, none⟩ = false := fun n i => World.frozen?_alloc_at _ _ _ _ rfl
                      go_region_held3 (fun W => W.cell? ad175 = some (.int .u8 (rd l0 0)) ∧ (convert 27 9 (.slice A23 s23.length (c0 - 19))).run Try.prog W = .ok (.string (strOfNums s23)) W ∧ Aside0 (Below w.heap.size w W)) ((refine HSa.out _ ?_; repeat (first | (with_reducible first | exact HB.out | apply below_alloc | apply pw_below_drewN | apply below_drew1 | refine below_set ?_ GEz.out) | exact HB.out))) (first | (go_at_call 17; (with_reducible refine (marginaliaref16_Number.calls k _ _ s21 t177 _ ?side1 ?side2 A8.out).mono ?_); (case side1 => exact Kd.C_below HR127.out (by repeat (first | (with_reducible first | exact HB.out | apply below_alloc | apply pw_below_drewN | apply below_drew1 | refine below_set ?_ GEz.out) | exact HB.out))); (case side2 => exact HC127.out); rintro e w' ⟨rfl, ⟨nd, rfl⟩⟩) | (go_at_call 17; (with_reducible refine (marginaliaref16_Number.calls k _ _ s22 t179 _ ?side1 ?side2 A11.out).mono ?_); (case side1 => exact Kd.C_below HR129.out (by repeat (first | (with_reducible first | exact HB.out | apply below_alloc | apply pw_below_drewN | apply below_drew1 | refine below_set ?_ GEz.out) | exact HB.out))); (case side2 => exact HC129.out); rintro e w' ⟨rfl, ⟨nd, rfl⟩⟩))
                      all_goals
                        have hwr : IntKind.i64.wrap (rd l0 0) = wrap64 (rd l0 0) := i64_w _
                        go_wp2
                        (try simp only [hwr])
                        have NZ := Aside0.mk (Nat.ne_of_lt (blk_lt BK174.out))
                        go_meet
                        case rel => exact ⟨w16.heap.size, rfl, ⟨by refine blk_put (cs := #[.int .i64 (wrap64 (rd l0 0)), .int .u64 t177, .int .u64 t179, .string (⟨#[]⟩ : ByteArray)]) ?_ 3 _ rfl; refine blk_put (cs := #[.int .i64 (wrap64 (rd l0 0)), .int .u64 t177, .int .u64 0, .string (⟨#[]⟩ : ByteArray)]) ?_ 2 _ rfl; refine blk_put (cs := #[.int .i64 (wrap64 (rd l0 0)), .int .u64 0, .int .u64 0, .string (⟨#[]⟩ : ByteArray)]) ?_ 1 _ rfl; refine blk_put (cs := #[.int .i64 0, .int .u64 0, .int .u64 0, .string (⟨#[]⟩ : ByteArray)]) ?_ 0 _ rfl; exact blk_new _ _⟩, GEz, NZ, ⟨Ne.symm NZ.out⟩, ⟨by refine blk_far ?_ NZ.out _; refine blk_far ?_ NZ.out _; refine blk_far ?_ NZ.out _; refine blk_far ?_ NZ.out _; (with_reducible repeat (first | refine blk_drewN ?_ _ | refine blk_drew ?_ | refine blk_alloc ?_ _)); exact BK174.out⟩, ⟨by repeat (first | (with_reducible first | exact HB.out | apply below_alloc | apply pw_below_drewN | apply below_drew1 | refine below_set ?_ GEz.out) | exact HB.out)⟩⟩
                    case rest =>
                      try clear HSa
                      (try clear BK174 HB)
                      obtain ⟨gb181, rfl, BK181, GE181, NB174_181, NB181_174, BK174, HB⟩ := hcut
                      have hnb1_ := NB174_181.out
                      have hnb2_ := NB181_174.out
                      have hcy_0 : wc.cell? ⟨gb181, 0, none⟩ = some (.int .i64 (wrap64 (rd l0 0))) := (blk_cell BK181.out 0).trans rfl
                      have hcy_1 : wc.cell? ⟨gb181, 1, none⟩ = some (.int .u64 t177) := (blk_cell BK181.out 1).trans rfl
                      have hcy_2 : wc.cell? ⟨gb181, 2, none⟩ = some (.int .u64 t179) := (blk_cell BK181.out 2).trans rfl
                      have hcy_3 : wc.cell? ⟨gb181, 3, none⟩ = some (.string (strOfNums s23)) := (blk_cell BK181.out 3).trans rfl
                      go_wp2_with (first | ((with_reducible refine gate_callee (f := 9) rfl ?_); refine goesL_ (some 27) rfl rfl Try.func9 (by kernel_rfl) rfl #[.agg #[.int .i64 (wrap64 (rd l0 0)), .int .u64 t177, .int .u64 t179, .string (strOfNums s23)]] rfl (by (try simp only [List.map_toArray, List.map_cons, List.map_nil]); first | done | rfl | (simp only [List.length_drop, List.length_take]; rfl)) ?_; (with_reducible refine (marginaliaref22_Encode.calls k (wrap64 (rd l0 0)) t177 t179 (strOfNums s23) t182 t185 _ A13.out).mono ?_); rintro e w24 ⟨v183, rfl, ho0, hb⟩; refine ⟨_, rfl, ?_⟩; have n0_ := Aside0.mk (Kd.R_lower ho0 (below_size (by repeat (first | (with_reducible first | exact HB.out | apply below_alloc | apply pw_below_drewN | apply below_drew1 | refine below_set ?_ GE174.out | refine below_set ?_ GE181.out) | exact HB.out)))); have n1_ := Aside0.mk (blk_below (g := gb174) (o := .cells #[.int .i64 0, .int .u64 0, .int .u64 0, .string (⟨#[]⟩ : ByteArray)] 25 (0, 0)) (by (with_reducible repeat (first | refine blk_drewN ?_ _ | refine blk_drew ?_ | refine blk_alloc ?_ _)); (with_reducible repeat (first | refine blk_drewN ?_ _ | refine blk_drew ?_ | refine blk_alloc ?_ _)); (with_reducible repeat (first | refine blk_drewN ?_ _ | refine blk_drew ?_ | refine blk_alloc ?_ _)); (with_reducible repeat (first | refine blk_drewN ?_ _ | refine blk_drew ?_ | refine blk_alloc ?_ _)); (with_reducible repeat (first | refine blk_drewN ?_ _ | refine blk_drew ?_ | refine blk_alloc ?_ _)); exact BK174.out) hb); have n2_ := Aside0.mk (blk_below (g := gb181) (o := .cells #[.int .i64 (wrap64 (rd l0 0)), .int .u64 t177, .int .u64 t179, .string (strOfNums s23)] 25 (0, 0)) (by (with_reducible repeat (first | refine blk_drewN ?_ _ | refine blk_drew ?_ | refine blk_alloc ?_ _)); (with_reducible repeat (first | refine blk_drewN ?_ _ | refine blk_drew ?_ | refine blk_alloc ?_ _)); (with_reducible repeat (first | refine blk_drewN ?_ _ | refine blk_drew ?_ | refine blk_alloc ?_ _)); (with_reducible repeat (first | refine blk_drewN ?_ _ | refine blk_drew ?_ | refine blk_alloc ?_ _)); (with_reducible repeat (first | refine blk_drewN ?_ _ | refine blk_drew ?_ | refine blk_alloc ?_ _)); exact BK181.out) hb); have n3_ := Aside0.mk (below_step (by repeat (first | (with_reducible first | exact HB.out | apply below_alloc | apply pw_below_drewN | apply below_drew1 | refine below_set ?_ GE174.out | refine below_set ?_ GE181.out) | exact HB.out)) hb); clear BK174; clear BK181; clear HB; have HO184 := n0_; have BK174 := n1_; have BK181 := n2_; have HB := n3_; clear n0_ n1_ n2_ n3_; (try clear hb); (try clear hb2); (try clear hk); (try clear hi); (try clear ho0); have hcv25 := own_string (P := Try.prog) Try.underlying27 Try.underlying5 Try.underlying9 (Kd.own_of_R HO184.out); have hcv26 := Kd.C_string (P := Try.prog) (A := (some ad175)) (c := c0) Try.underlying27 Try.underlying5 Try.underlying9 (Kd.C_below HR0.out HB.out); have hcz27_0 : w24.cell? ⟨gb181, 0, none⟩ = some (.int .i64 (wrap64 (rd l0 0))) := (blk_cell BK181.out 0).trans rfl; have hcz27_1 : w24.cell? ⟨gb181, 1, none⟩ = some (.int .u64 t177) := (blk_cell BK181.out 1).trans rfl; have hcz27_2 : w24.cell? ⟨gb181, 2, none⟩ = some (.int .u64 t179) := (blk_cell BK181.out 2).trans rfl; have hcz27_3 : w24.cell? ⟨gb181, 3, none⟩ = some (.string (strOfNums s23)) := (blk_cell BK181.out 3).trans rfl; have hfz27_0 := blk_frozen BK181.out 0; have hfz27_1 := blk_frozen BK181.out 1; have hfz27_2 := blk_frozen BK181.out 2; have hfz27_3 := blk_frozen BK181.out 3; have hcz28_0 : w24.cell? ⟨gb174, 0, none⟩ = some (.int .i64 0) := (blk_cell BK174.out 0).trans rfl; have hcz28_1 : w24.cell? ⟨gb174, 1, none⟩ = some (.int .u64 0) := (blk_cell BK174.out 1).trans rfl; have hcz28_2 : w24.cell? ⟨gb174, 2, none⟩ = some (.int .u64 0) := (blk_cell BK174.out 2).trans rfl; have hcz28_3 : w24.cell? ⟨gb174, 3, none⟩ = some (.string (⟨#[]⟩ : ByteArray)) := (blk_cell BK174.out 3).trans rfl; have hfz28_0 := blk_frozen BK174.out 0; have hfz28_1 := blk_frozen BK174.out 1; have hfz28_2 := blk_frozen BK174.out 2; have hfz28_3 := blk_frozen BK174.out 3))
                      refine bodyPost_ret (results_ct rfl _ _ gb174 25 #[.int .i64 (wrap64 (rd l0 0)), .int .u64 t177, .int .u64 t179, .string (strOfNums s23)] (0, 0) _ rfl (by (with_reducible repeat (first | refine blk_drewN ?_ _ | refine blk_drew ?_ | refine blk_alloc ?_ _)); refine blk_put (cs := #[.int .i64 (wrap64 (rd l0 0)), .int .u64 t177, .int .u64 t179, .string (⟨#[]⟩ : ByteArray)]) ?_ 3 _ rfl; (with_reducible repeat (first | refine blk_drewN ?_ _ | refine blk_drew ?_ | refine blk_alloc ?_ _)); refine blk_put (cs := #[.int .i64 (wrap64 (rd l0 0)), .int .u64 t177, .int .u64 0, .string (⟨#[]⟩ : ByteArray)]) ?_ 2 _ rfl; (with_reducible repeat (first | refine blk_drewN ?_ _ | refine blk_drew ?_ | refine blk_alloc ?_ _)); refine blk_put (cs := #[.int .i64 (wrap64 (rd l0 0)), .int .u64 0, .int .u64 0, .string (⟨#[]⟩ : ByteArray)]) ?_ 1 _ rfl; (with_reducible repeat (first | refine blk_drewN ?_ _ | refine blk_drew ?_ | refine blk_alloc ?_ _)); refine blk_put (cs := #[.int .i64 0, .int .u64 0, .int .u64 0, .string (⟨#[]⟩ : ByteArray)]) ?_ 0 _ rfl; (with_reducible repeat (first | refine blk_drewN ?_ _ | refine blk_drew ?_ | refine blk_alloc ?_ _)); exact BK174.out) Try.underlying25 rfl (by kernel_rfl)) rfl ?_
                      exact ⟨by first | rfl | (simp [errW_none, errW_some] <;> rfl) | (simp [*, errW_none, errW_some] <;> rfl), by repeat (first | (with_reducible first | exact HB.out | apply below_alloc | apply pw_below_drewN | apply below_drew1 | refine below_set ?_ GE174.out | refine below_set ?_ GE181.out) | exact HB.out)⟩
                  · rw [if_neg c15] at H
                    have c15b0 : ((strOfNums t182).toList == (strOfNums l0).toList) = false := beq_eq_false_iff_ne.mpr c15
                    have c15b1 : ((strOfNums t182).toList != (strOfNums l0).toList) = true := bne_iff_ne.mpr c15
                    simp only [Option.some.injEq, Prod.mk.injEq] at H
                    obtain ⟨rfl, rfl, rfl, rfl, rfl⟩ := H
                    go_enter Try.func13, Try.ntmps13
                    obtain ⟨ad175, e175, hx175_0⟩ := Kd.at_int HR0.out 0 (by omega) (of_decide_eq_true (by first | (with_reducible assumption) | assumption))
                    cases e175
                    have qi175 : (0 < l0.length) = True := eq_true (by have h_ : 0 < (l0.length : Int) := of_decide_eq_true (by first | (with_reducible assumption) | assumption); omega)
                    (try rw [show ((0 : Int)).toNat = 0 from rfl] at hx175_0)
                    (try rw [Addr.add_zero'] at hx175_0)
                    have ha175 := World.block_lt_of_cell? w _ hx175_0
                    obtain ⟨i021, hi021, _, hsz21, _⟩ := info_parts info5
                    obtain ⟨A21, hcut21, hA21, hC21⟩ := print_mid_of (P := Try.prog) (Value.int .u8) 0 27 5 .i64 .i64 Try.underlying27 hi021 hsz21 (some ad175) c0 l0 1 9 (by omega) (by omega) (of_decide_eq_true (by first | (with_reducible assumption) | assumption)) HC0.out
                    have HR127 := Aside0.mk (Kd.C_of_reads (h1 := fun _ => rfl) (hA21 _ (Kd.reads_of_C HR0.out)))
                    have HC127 := Aside0.mk hC21
                    obtain ⟨A22, hcut22, hA22, hC22⟩ := print_mid_of (P := Try.prog) (Value.int .u8) 0 27 5 .i64 .i64 Try.underlying27 hi021 hsz21 (some ad175) c0 l0 9 17 (by omega) (by omega) (of_decide_eq_true (by first | (with_reducible assumption) | assumption)) HC0.out
                    have HR129 := Aside0.mk (Kd.C_of_reads (h1 := fun _ => rfl) (hA22 _ (Kd.reads_of_C HR0.out)))
                    have HC129 := Aside0.mk hC22
                    obtain ⟨A23, hcut23, hA23, hC23⟩ := print_drop_of (P := Try.prog) (Value.int .u8) 0 27 5 .i64 Try.underlying27 hi021 hsz21 (some ad175) c0 l0 19 (by omega) (of_decide_eq_true (by first | (with_reducible assumption) | assumption)) HC0.out
                    have HR131 := Aside0.mk (Kd.C_of_reads (h1 := fun _ => rfl) (hA23 _ (Kd.reads_of_C HR0.out)))
                    clear hA21 hC21 hA22 hC22 hA23 hC23 hi021 hsz21
                    simp only [Int.reduceToNat] at hcut21 hcut22 hcut23 HR127 HC127 HR129 HC129 HR131
                    generalize hs21 : (l0.take 9).drop 1 = s21 at hcut21 HR127 HC127 A8
                    generalize hs22 : (l0.take 17).drop 9 = s22 at hcut22 HR129 HC129 A11
                    generalize hs23 : l0.drop 19 = s23 at hcut23 HR131 A13 ⊢
                    clear hs21 hs22 hs23
                    have HS : ∀ W : World, Below w.heap.size w W → W.cell? ad175 = some (.int .u8 (rd l0 0)) ∧ (convert 27 9 (.slice A23 s23.length (c0 - 19))).run Try.prog W = .ok (.string (strOfNums s23)) W ∧ Aside0 (Below w.heap.size w W) := fun W hb =>
                      ⟨(hb.cell ha175).trans hx175_0, Kd.C_string (P := Try.prog) (A := A23) (c := (c0 - 19)) Try.underlying27 Try.underlying5 Try.underlying9 (Kd.C_below HR131.out hb), ⟨hb⟩⟩
                    have HSa := Aside0.mk HS
                    clear HS hx175_0 ha175
                    go_upto_region 1 with (first | ((with_reducible refine gate_dst (N := 2) rfl ?_); (try (refine gate_guard (by rfl) ?_; dsimp only)); refine box_event ?hg (N := 2) ?hd (cs := #[.int .i64 0, .int .u64 0, .int .u64 0, .string (⟨#[]⟩ : ByteArray)]) (t := 25) ?hr ?_; (case hd => rfl); (case hg => rfl); (case hr => first | (go_simp; done) | (go_simp; rfl)); intro gb174 hg w29 hbox hb; have n0_ := Aside0.mk (below_step (by repeat (first | (with_reducible first | exact HB.out | apply below_alloc | apply pw_below_drewN | apply below_drew1) | exact HB.out)) hb); have n1_ := Aside0.mk (hbox); have n2_ := Aside0.mk ((by rw [hg]; exact (below_size (by repeat (first | (with_reducible first | exact HB.out | apply below_alloc | apply pw_below_drewN | apply below_drew1) | exact HB.out))) : w.heap.size ≤ gb174)); have n3_ := Aside0.mk ((by rw [hg]; exact (below_size (by repeat (first | (with_reducible first | exact HB.out | apply below_alloc | apply pw_below_drewN | apply below_drew1) | exact HB.out))) : w.heap.size ≤ gb174)); clear HB; have HB := n0_; have BK174 := n1_; have GW174 := n2_; have GE174 := n3_; clear n0_ n1_ n2_ n3_; clear hb hbox hg))
                    (try simp only [Act.put, List.setIfInBounds_toArray, List.set_cons_zero, List.set_cons_succ])
                    go_upto_region 3 with (fail)
                    (try simp only [Act.put, List.setIfInBounds_toArray, List.set_cons_zero, List.set_cons_succ])
                    go_cut [4] (fun v1 wc1 => ∃ (gb181 : Nat), v1 = .pointer (some ⟨gb181, 0, none⟩) ∧ Aside0 (wc1.heap[gb181]? = some (.cells #[.int .i64 (wrap64 (rd l0 0)), .int .u64 t177, .int .u64 t179, .string (strOfNums s23)] 25 (0, 0))) ∧ Aside0 (w.heap.size ≤ gb181) ∧ Aside0 (gb174 ≠ gb181) ∧ Aside0 (gb181 ≠ gb174) ∧ Aside0 (wc1.heap[gb174]? = some (.cells #[.int .i64 0, .int .u64 0, .int .u64 0, .string (⟨#[]⟩ : ByteArray)] 25 (0, 0))) ∧ Aside0 (Below w.heap.size w wc1))
                    case first =>
                      try clear A13
                      have GEz := Aside0.mk HB.out.size
                      have hal : ∀ n i : Nat, ((w29.drewN n).alloc (.cells #[.int .i64 0, .int .u64 0, .int .u64 0, .string (⟨#[]⟩ : ByteArray)] 25)).cell? ⟨w29.heap.size, i, none⟩ = (#[.int .i64 0, .int .u64 0, .int .u64 0, .string (⟨#[]⟩ : ByteArray)] : Array Value)[i]? := fun n i => World.cell?_alloc_at _ _ _ _ rfl
                      have hfl : ∀ n i : Nat, ((w29.drewN n).alloc (.cells #[.int .i64 0, .int .u64 0, .int .u64 0, .string (⟨#[]⟩ : ByteArray)] 25)).frozen? ⟨w29.heap.size, i, none⟩ = false := fun n i => World.frozen?_alloc_at _ _ _ _ rfl
                      go_region_held3 (fun W => W.cell? ad175 = some (.int .u8 (rd l0 0)) ∧ (convert 27 9 (.slice A23 s23.length (c0 - 19))).run Try.prog W = .ok (.string (strOfNums s23)) W ∧ Aside0 (Below w.heap.size w W)) ((refine HSa.out _ ?_; repeat (first | (with_reducible first | exact HB.out | apply below_alloc | apply pw_below_drewN | apply below_drew1 | refine below_set ?_ GEz.out) | exact HB.out))) (first | (go_at_call 17; (with_reducible refine (marginaliaref16_Number.calls k _ _ s21 t177 _ ?side1 ?side2 A8.out).mono ?_); (case side1 => exact Kd.C_below HR127.out (by repeat (first | (with_reducible first | exact HB.out | apply below_alloc | apply pw_below_drewN | apply below_drew1 | refine below_set ?_ GEz.out) | exact HB.out))); (case side2 => exact HC127.out); rintro e w' ⟨rfl, ⟨nd, rfl⟩⟩) | (go_at_call 17; (with_reducible refine (marginaliaref16_Number.calls k _ _ s22 t179 _ ?side1 ?side2 A11.out).mono ?_); (case side1 => exact Kd.C_below HR129.out (by repeat (first | (with_reducible first | exact HB.out | apply below_alloc | apply pw_below_drewN | apply below_drew1 | refine below_set ?_ GEz.out) | exact HB.out))); (case side2 => exact HC129.out); rintro e w' ⟨rfl, ⟨nd, rfl⟩⟩))
                      all_goals
                        have hwr : IntKind.i64.wrap (rd l0 0) = wrap64 (rd l0 0) := i64_w _
                        go_wp2
                        (try simp only [hwr])
                        have NZ := Aside0.mk (Nat.ne_of_lt (blk_lt BK174.out))
                        go_meet
                        case rel => exact ⟨w29.heap.size, rfl, ⟨by refine blk_put (cs := #[.int .i64 (wrap64 (rd l0 0)), .int .u64 t177, .int .u64 t179, .string (⟨#[]⟩ : ByteArray)]) ?_ 3 _ rfl; refine blk_put (cs := #[.int .i64 (wrap64 (rd l0 0)), .int .u64 t177, .int .u64 0, .string (⟨#[]⟩ : ByteArray)]) ?_ 2 _ rfl; refine blk_put (cs := #[.int .i64 (wrap64 (rd l0 0)), .int .u64 0, .int .u64 0, .string (⟨#[]⟩ : ByteArray)]) ?_ 1 _ rfl; refine blk_put (cs := #[.int .i64 0, .int .u64 0, .int .u64 0, .string (⟨#[]⟩ : ByteArray)]) ?_ 0 _ rfl; exact blk_new _ _⟩, GEz, NZ, ⟨Ne.symm NZ.out⟩, ⟨by refine blk_far ?_ NZ.out _; refine blk_far ?_ NZ.out _; refine blk_far ?_ NZ.out _; refine blk_far ?_ NZ.out _; (with_reducible repeat (first | refine blk_drewN ?_ _ | refine blk_drew ?_ | refine blk_alloc ?_ _)); exact BK174.out⟩, ⟨by repeat (first | (with_reducible first | exact HB.out | apply below_alloc | apply pw_below_drewN | apply below_drew1 | refine below_set ?_ GEz.out) | exact HB.out)⟩⟩
                    case rest =>
                      try clear HSa
                      (try clear BK174 HB)
                      obtain ⟨gb181, rfl, BK181, GE181, NB174_181, NB181_174, BK174, HB⟩ := hcut
                      have hnb1_ := NB174_181.out
                      have hnb2_ := NB181_174.out
                      have hcy_0 : wc.cell? ⟨gb181, 0, none⟩ = some (.int .i64 (wrap64 (rd l0 0))) := (blk_cell BK181.out 0).trans rfl
                      have hcy_1 : wc.cell? ⟨gb181, 1, none⟩ = some (.int .u64 t177) := (blk_cell BK181.out 1).trans rfl
                      have hcy_2 : wc.cell? ⟨gb181, 2, none⟩ = some (.int .u64 t179) := (blk_cell BK181.out 2).trans rfl
                      have hcy_3 : wc.cell? ⟨gb181, 3, none⟩ = some (.string (strOfNums s23)) := (blk_cell BK181.out 3).trans rfl
                      go_wp2_with (first | ((with_reducible refine gate_callee (f := 9) rfl ?_); refine goesL_ (some 27) rfl rfl Try.func9 (by kernel_rfl) rfl #[.agg #[.int .i64 (wrap64 (rd l0 0)), .int .u64 t177, .int .u64 t179, .string (strOfNums s23)]] rfl (by (try simp only [List.map_toArray, List.map_cons, List.map_nil]); first | done | rfl | (simp only [List.length_drop, List.length_take]; rfl)) ?_; (with_reducible refine (marginaliaref22_Encode.calls k (wrap64 (rd l0 0)) t177 t179 (strOfNums s23) t182 t185 _ A13.out).mono ?_); rintro e w37 ⟨v183, rfl, ho0, hb⟩; refine ⟨_, rfl, ?_⟩; have n0_ := Aside0.mk (Kd.R_lower ho0 (below_size (by repeat (first | (with_reducible first | exact HB.out | apply below_alloc | apply pw_below_drewN | apply below_drew1 | refine below_set ?_ GE174.out | refine below_set ?_ GE181.out) | exact HB.out)))); have n1_ := Aside0.mk (blk_below (g := gb174) (o := .cells #[.int .i64 0, .int .u64 0, .int .u64 0, .string (⟨#[]⟩ : ByteArray)] 25 (0, 0)) (by (with_reducible repeat (first | refine blk_drewN ?_ _ | refine blk_drew ?_ | refine blk_alloc ?_ _)); (with_reducible repeat (first | refine blk_drewN ?_ _ | refine blk_drew ?_ | refine blk_alloc ?_ _)); (with_reducible repeat (first | refine blk_drewN ?_ _ | refine blk_drew ?_ | refine blk_alloc ?_ _)); (with_reducible repeat (first | refine blk_drewN ?_ _ | refine blk_drew ?_ | refine blk_alloc ?_ _)); (with_reducible repeat (first | refine blk_drewN ?_ _ | refine blk_drew ?_ | refine blk_alloc ?_ _)); exact BK174.out) hb); have n2_ := Aside0.mk (blk_below (g := gb181) (o := .cells #[.int .i64 (wrap64 (rd l0 0)), .int .u64 t177, .int .u64 t179, .string (strOfNums s23)] 25 (0, 0)) (by (with_reducible repeat (first | refine blk_drewN ?_ _ | refine blk_drew ?_ | refine blk_alloc ?_ _)); (with_reducible repeat (first | refine blk_drewN ?_ _ | refine blk_drew ?_ | refine blk_alloc ?_ _)); (with_reducible repeat (first | refine blk_drewN ?_ _ | refine blk_drew ?_ | refine blk_alloc ?_ _)); (with_reducible repeat (first | refine blk_drewN ?_ _ | refine blk_drew ?_ | refine blk_alloc ?_ _)); (with_reducible repeat (first | refine blk_drewN ?_ _ | refine blk_drew ?_ | refine blk_alloc ?_ _)); exact BK181.out) hb); have n3_ := Aside0.mk (below_step (by repeat (first | (with_reducible first | exact HB.out | apply below_alloc | apply pw_below_drewN | apply below_drew1 | refine below_set ?_ GE174.out | refine below_set ?_ GE181.out) | exact HB.out)) hb); clear BK174; clear BK181; clear HB; have HO184 := n0_; have BK174 := n1_; have BK181 := n2_; have HB := n3_; clear n0_ n1_ n2_ n3_; (try clear hb); (try clear hb2); (try clear hk); (try clear hi); (try clear ho0); have hcv38 := own_string (P := Try.prog) Try.underlying27 Try.underlying5 Try.underlying9 (Kd.own_of_R HO184.out); have hcv39 := Kd.C_string (P := Try.prog) (A := (some ad175)) (c := c0) Try.underlying27 Try.underlying5 Try.underlying9 (Kd.C_below HR0.out HB.out); have hcz40_0 : w37.cell? ⟨gb174, 0, none⟩ = some (.int .i64 0) := (blk_cell BK174.out 0).trans rfl; have hcz40_1 : w37.cell? ⟨gb174, 1, none⟩ = some (.int .u64 0) := (blk_cell BK174.out 1).trans rfl; have hcz40_2 : w37.cell? ⟨gb174, 2, none⟩ = some (.int .u64 0) := (blk_cell BK174.out 2).trans rfl; have hcz40_3 : w37.cell? ⟨gb174, 3, none⟩ = some (.string (⟨#[]⟩ : ByteArray)) := (blk_cell BK174.out 3).trans rfl; have hfz40_0 := blk_frozen BK174.out 0; have hfz40_1 := blk_frozen BK174.out 1; have hfz40_2 := blk_frozen BK174.out 2; have hfz40_3 := blk_frozen BK174.out 3))
                      refine bodyPost_ret (results_ct rfl _ _ gb174 25 #[.int .i64 0, .int .u64 0, .int .u64 0, .string (⟨#[]⟩ : ByteArray)] (0, 0) _ rfl (by (with_reducible repeat (first | refine blk_drewN ?_ _ | refine blk_drew ?_ | refine blk_alloc ?_ _)); refine blk_put (cs := #[.int .i64 0, .int .u64 0, .int .u64 0, .string (⟨#[]⟩ : ByteArray)]) ?_ 3 _ rfl; (with_reducible repeat (first | refine blk_drewN ?_ _ | refine blk_drew ?_ | refine blk_alloc ?_ _)); refine blk_put (cs := #[.int .i64 0, .int .u64 0, .int .u64 0, .string (⟨#[]⟩ : ByteArray)]) ?_ 2 _ rfl; (with_reducible repeat (first | refine blk_drewN ?_ _ | refine blk_drew ?_ | refine blk_alloc ?_ _)); refine blk_put (cs := #[.int .i64 0, .int .u64 0, .int .u64 0, .string (⟨#[]⟩ : ByteArray)]) ?_ 1 _ rfl; (with_reducible repeat (first | refine blk_drewN ?_ _ | refine blk_drew ?_ | refine blk_alloc ?_ _)); refine blk_put (cs := #[.int .i64 0, .int .u64 0, .int .u64 0, .string (⟨#[]⟩ : ByteArray)]) ?_ 0 _ rfl; (with_reducible repeat (first | refine blk_drewN ?_ _ | refine blk_drew ?_ | refine blk_alloc ?_ _)); exact BK174.out) Try.underlying25 rfl (by kernel_rfl)) rfl ?_
                      exact ⟨by first | rfl | (simp [errW_none, errW_some] <;> rfl) | (simp [*, errW_none, errW_some] <;> rfl), by repeat (first | (with_reducible first | exact HB.out | apply below_alloc | apply pw_below_drewN | apply below_drew1 | refine below_set ?_ GE174.out | refine below_set ?_ GE181.out) | exact HB.out)⟩
                · rw [if_neg c14] at H
                  have c14b0 : (t185 == 0) = false := beq_eq_false_iff_ne.mpr c14
                  have c14b1 : (t185 != 0) = true := bne_iff_ne.mpr c14
                  simp only [Option.some.injEq, Prod.mk.injEq] at H
                  obtain ⟨rfl, rfl, rfl, rfl, rfl⟩ := H
                  go_enter Try.func13, Try.ntmps13
                  obtain ⟨ad175, e175, hx175_0⟩ := Kd.at_int HR0.out 0 (by omega) (of_decide_eq_true (by first | (with_reducible assumption) | assumption))
                  cases e175
                  have qi175 : (0 < l0.length) = True := eq_true (by have h_ : 0 < (l0.length : Int) := of_decide_eq_true (by first | (with_reducible assumption) | assumption); omega)
                  (try rw [show ((0 : Int)).toNat = 0 from rfl] at hx175_0)
                  (try rw [Addr.add_zero'] at hx175_0)
                  have ha175 := World.block_lt_of_cell? w _ hx175_0
                  obtain ⟨i021, hi021, _, hsz21, _⟩ := info_parts info5
                  obtain ⟨A21, hcut21, hA21, hC21⟩ := print_mid_of (P := Try.prog) (Value.int .u8) 0 27 5 .i64 .i64 Try.underlying27 hi021 hsz21 (some ad175) c0 l0 1 9 (by omega) (by omega) (of_decide_eq_true (by first | (with_reducible assumption) | assumption)) HC0.out
                  have HR127 := Aside0.mk (Kd.C_of_reads (h1 := fun _ => rfl) (hA21 _ (Kd.reads_of_C HR0.out)))
                  have HC127 := Aside0.mk hC21
                  obtain ⟨A22, hcut22, hA22, hC22⟩ := print_mid_of (P := Try.prog) (Value.int .u8) 0 27 5 .i64 .i64 Try.underlying27 hi021 hsz21 (some ad175) c0 l0 9 17 (by omega) (by omega) (of_decide_eq_true (by first | (with_reducible assumption) | assumption)) HC0.out
                  have HR129 := Aside0.mk (Kd.C_of_reads (h1 := fun _ => rfl) (hA22 _ (Kd.reads_of_C HR0.out)))
                  have HC129 := Aside0.mk hC22
                  obtain ⟨A23, hcut23, hA23, hC23⟩ := print_drop_of (P := Try.prog) (Value.int .u8) 0 27 5 .i64 Try.underlying27 hi021 hsz21 (some ad175) c0 l0 19 (by omega) (of_decide_eq_true (by first | (with_reducible assumption) | assumption)) HC0.out
                  have HR131 := Aside0.mk (Kd.C_of_reads (h1 := fun _ => rfl) (hA23 _ (Kd.reads_of_C HR0.out)))
                  clear hA21 hC21 hA22 hC22 hA23 hC23 hi021 hsz21
                  simp only [Int.reduceToNat] at hcut21 hcut22 hcut23 HR127 HC127 HR129 HC129 HR131
                  generalize hs21 : (l0.take 9).drop 1 = s21 at hcut21 HR127 HC127 A8
                  generalize hs22 : (l0.take 17).drop 9 = s22 at hcut22 HR129 HC129 A11
                  generalize hs23 : l0.drop 19 = s23 at hcut23 HR131 A13 ⊢
                  clear hs21 hs22 hs23
                  have HS : ∀ W : World, Below w.heap.size w W → W.cell? ad175 = some (.int .u8 (rd l0 0)) ∧ (convert 27 9 (.slice A23 s23.length (c0 - 19))).run Try.prog W = .ok (.string (strOfNums s23)) W ∧ Aside0 (Below w.heap.size w W) := fun W hb =>
                    ⟨(hb.cell ha175).trans hx175_0, Kd.C_string (P := Try.prog) (A := A23) (c := (c0 - 19)) Try.underlying27 Try.underlying5 Try.underlying9 (Kd.C_below HR131.out hb), ⟨hb⟩⟩
                  have HSa := Aside0.mk HS
                  clear HS hx175_0 ha175
                  go_upto_region 1 with (first | ((with_reducible refine gate_dst (N := 2) rfl ?_); (try (refine gate_guard (by rfl) ?_; dsimp only)); refine box_event ?hg (N := 2) ?hd (cs := #[.int .i64 0, .int .u64 0, .int .u64 0, .string (⟨#[]⟩ : ByteArray)]) (t := 25) ?hr ?_; (case hd => rfl); (case hg => rfl); (case hr => first | (go_simp; done) | (go_simp; rfl)); intro gb174 hg w41 hbox hb; have n0_ := Aside0.mk (below_step (by repeat (first | (with_reducible first | exact HB.out | apply below_alloc | apply pw_below_drewN | apply below_drew1) | exact HB.out)) hb); have n1_ := Aside0.mk (hbox); have n2_ := Aside0.mk ((by rw [hg]; exact (below_size (by repeat (first | (with_reducible first | exact HB.out | apply below_alloc | apply pw_below_drewN | apply below_drew1) | exact HB.out))) : w.heap.size ≤ gb174)); have n3_ := Aside0.mk ((by rw [hg]; exact (below_size (by repeat (first | (with_reducible first | exact HB.out | apply below_alloc | apply pw_below_drewN | apply below_drew1) | exact HB.out))) : w.heap.size ≤ gb174)); clear HB; have HB := n0_; have BK174 := n1_; have GW174 := n2_; have GE174 := n3_; clear n0_ n1_ n2_ n3_; clear hb hbox hg))
                  (try simp only [Act.put, List.setIfInBounds_toArray, List.set_cons_zero, List.set_cons_succ])
                  go_upto_region 3 with (fail)
                  (try simp only [Act.put, List.setIfInBounds_toArray, List.set_cons_zero, List.set_cons_succ])
                  go_cut [4] (fun v1 wc1 => ∃ (gb181 : Nat), v1 = .pointer (some ⟨gb181, 0, none⟩) ∧ Aside0 (wc1.heap[gb181]? = some (.cells #[.int .i64 (wrap64 (rd l0 0)), .int .u64 t177, .int .u64 t179, .string (strOfNums s23)] 25 (0, 0))) ∧ Aside0 (w.heap.size ≤ gb181) ∧ Aside0 (gb174 ≠ gb181) ∧ Aside0 (gb181 ≠ gb174) ∧ Aside0 (wc1.heap[gb174]? = some (.cells #[.int .i64 0, .int .u64 0, .int .u64 0, .string (⟨#[]⟩ : ByteArray)] 25 (0, 0))) ∧ Aside0 (Below w.heap.size w wc1))
                  case first =>
                    try clear A13
                    have GEz := Aside0.mk HB.out.size
                    have hal : ∀ n i : Nat, ((w41.drewN n).alloc (.cells #[.int .i64 0, .int .u64 0, .int .u64 0, .string (⟨#[]⟩ : ByteArray)] 25)).cell? ⟨w41.heap.size, i, none⟩ = (#[.int .i64 0, .int .u64 0, .int .u64 0, .string (⟨#[]⟩ : ByteArray)] : Array Value)[i]? := fun n i => World.cell?_alloc_at _ _ _ _ rfl
                    have hfl : ∀ n i : Nat, ((w41.drewN n).alloc (.cells #[.int .i64 0, .int .u64 0, .int .u64 0, .string (⟨#[]⟩ : ByteArray)] 25)).frozen? ⟨w41.heap.size, i, none⟩ = false := fun n i => World.frozen?_alloc_at _ _ _ _ rfl
                    go_region_held3 (fun W => W.cell? ad175 = some (.int .u8 (rd l0 0)) ∧ (convert 27 9 (.slice A23 s23.length (c0 - 19))).run Try.prog W = .ok (.string (strOfNums s23)) W ∧ Aside0 (Below w.heap.size w W)) ((refine HSa.out _ ?_; repeat (first | (with_reducible first | exact HB.out | apply below_alloc | apply pw_below_drewN | apply below_drew1 | refine below_set ?_ GEz.out) | exact HB.out))) (first | (go_at_call 17; (with_reducible refine (marginaliaref16_Number.calls k _ _ s21 t177 _ ?side1 ?side2 A8.out).mono ?_); (case side1 => exact Kd.C_below HR127.out (by repeat (first | (with_reducible first | exact HB.out | apply below_alloc | apply pw_below_drewN | apply below_drew1 | refine below_set ?_ GEz.out) | exact HB.out))); (case side2 => exact HC127.out); rintro e w' ⟨rfl, ⟨nd, rfl⟩⟩) | (go_at_call 17; (with_reducible refine (marginaliaref16_Number.calls k _ _ s22 t179 _ ?side1 ?side2 A11.out).mono ?_); (case side1 => exact Kd.C_below HR129.out (by repeat (first | (with_reducible first | exact HB.out | apply below_alloc | apply pw_below_drewN | apply below_drew1 | refine below_set ?_ GEz.out) | exact HB.out))); (case side2 => exact HC129.out); rintro e w' ⟨rfl, ⟨nd, rfl⟩⟩))
                    all_goals
                      have hwr : IntKind.i64.wrap (rd l0 0) = wrap64 (rd l0 0) := i64_w _
                      go_wp2
                      (try simp only [hwr])
                      have NZ := Aside0.mk (Nat.ne_of_lt (blk_lt BK174.out))
                      go_meet
                      case rel => exact ⟨w41.heap.size, rfl, ⟨by refine blk_put (cs := #[.int .i64 (wrap64 (rd l0 0)), .int .u64 t177, .int .u64 t179, .string (⟨#[]⟩ : ByteArray)]) ?_ 3 _ rfl; refine blk_put (cs := #[.int .i64 (wrap64 (rd l0 0)), .int .u64 t177, .int .u64 0, .string (⟨#[]⟩ : ByteArray)]) ?_ 2 _ rfl; refine blk_put (cs := #[.int .i64 (wrap64 (rd l0 0)), .int .u64 0, .int .u64 0, .string (⟨#[]⟩ : ByteArray)]) ?_ 1 _ rfl; refine blk_put (cs := #[.int .i64 0, .int .u64 0, .int .u64 0, .string (⟨#[]⟩ : ByteArray)]) ?_ 0 _ rfl; exact blk_new _ _⟩, GEz, NZ, ⟨Ne.symm NZ.out⟩, ⟨by refine blk_far ?_ NZ.out _; refine blk_far ?_ NZ.out _; refine blk_far ?_ NZ.out _; refine blk_far ?_ NZ.out _; (with_reducible repeat (first | refine blk_drewN ?_ _ | refine blk_drew ?_ | refine blk_alloc ?_ _)); exact BK174.out⟩, ⟨by repeat (first | (with_reducible first | exact HB.out | apply below_alloc | apply pw_below_drewN | apply below_drew1 | refine below_set ?_ GEz.out) | exact HB.out)⟩⟩
                  case rest =>
                    try clear HSa
                    (try clear BK174 HB)
                    obtain ⟨gb181, rfl, BK181, GE181, NB174_181, NB181_174, BK174, HB⟩ := hcut
                    have hnb1_ := NB174_181.out
                    have hnb2_ := NB181_174.out
                    have hcy_0 : wc.cell? ⟨gb181, 0, none⟩ = some (.int .i64 (wrap64 (rd l0 0))) := (blk_cell BK181.out 0).trans rfl
                    have hcy_1 : wc.cell? ⟨gb181, 1, none⟩ = some (.int .u64 t177) := (blk_cell BK181.out 1).trans rfl
                    have hcy_2 : wc.cell? ⟨gb181, 2, none⟩ = some (.int .u64 t179) := (blk_cell BK181.out 2).trans rfl
                    have hcy_3 : wc.cell? ⟨gb181, 3, none⟩ = some (.string (strOfNums s23)) := (blk_cell BK181.out 3).trans rfl
                    go_wp2_with (first | ((with_reducible refine gate_callee (f := 9) rfl ?_); refine goesL_ (some 27) rfl rfl Try.func9 (by kernel_rfl) rfl #[.agg #[.int .i64 (wrap64 (rd l0 0)), .int .u64 t177, .int .u64 t179, .string (strOfNums s23)]] rfl (by (try simp only [List.map_toArray, List.map_cons, List.map_nil]); first | done | rfl | (simp only [List.length_drop, List.length_take]; rfl)) ?_; (with_reducible refine (marginaliaref22_Encode.calls k (wrap64 (rd l0 0)) t177 t179 (strOfNums s23) t182 t185 _ A13.out).mono ?_); rintro e w49 ⟨v183, rfl, ho0, hb⟩; refine ⟨_, rfl, ?_⟩; have n0_ := Aside0.mk (Kd.R_lower ho0 (below_size (by repeat (first | (with_reducible first | exact HB.out | apply below_alloc | apply pw_below_drewN | apply below_drew1 | refine below_set ?_ GE174.out | refine below_set ?_ GE181.out) | exact HB.out)))); have n1_ := Aside0.mk (blk_below (g := gb174) (o := .cells #[.int .i64 0, .int .u64 0, .int .u64 0, .string (⟨#[]⟩ : ByteArray)] 25 (0, 0)) (by (with_reducible repeat (first | refine blk_drewN ?_ _ | refine blk_drew ?_ | refine blk_alloc ?_ _)); (with_reducible repeat (first | refine blk_drewN ?_ _ | refine blk_drew ?_ | refine blk_alloc ?_ _)); (with_reducible repeat (first | refine blk_drewN ?_ _ | refine blk_drew ?_ | refine blk_alloc ?_ _)); (with_reducible repeat (first | refine blk_drewN ?_ _ | refine blk_drew ?_ | refine blk_alloc ?_ _)); (with_reducible repeat (first | refine blk_drewN ?_ _ | refine blk_drew ?_ | refine blk_alloc ?_ _)); exact BK174.out) hb); have n2_ := Aside0.mk (blk_below (g := gb181) (o := .cells #[.int .i64 (wrap64 (rd l0 0)), .int .u64 t177, .int .u64 t179, .string (strOfNums s23)] 25 (0, 0)) (by (with_reducible repeat (first | refine blk_drewN ?_ _ | refine blk_drew ?_ | refine blk_alloc ?_ _)); (with_reducible repeat (first | refine blk_drewN ?_ _ | refine blk_drew ?_ | refine blk_alloc ?_ _)); (with_reducible repeat (first | refine blk_drewN ?_ _ | refine blk_drew ?_ | refine blk_alloc ?_ _)); (with_reducible repeat (first | refine blk_drewN ?_ _ | refine blk_drew ?_ | refine blk_alloc ?_ _)); (with_reducible repeat (first | refine blk_drewN ?_ _ | refine blk_drew ?_ | refine blk_alloc ?_ _)); exact BK181.out) hb); have n3_ := Aside0.mk (below_step (by repeat (first | (with_reducible first | exact HB.out | apply below_alloc | apply pw_below_drewN | apply below_drew1 | refine below_set ?_ GE174.out | refine below_set ?_ GE181.out) | exact HB.out)) hb); clear BK174; clear BK181; clear HB; have HO184 := n0_; have BK174 := n1_; have BK181 := n2_; have HB := n3_; clear n0_ n1_ n2_ n3_; (try clear hb); (try clear hb2); (try clear hk); (try clear hi); (try clear ho0); have hcz50_0 : w49.cell? ⟨gb174, 0, none⟩ = some (.int .i64 0) := (blk_cell BK174.out 0).trans rfl; have hcz50_1 : w49.cell? ⟨gb174, 1, none⟩ = some (.int .u64 0) := (blk_cell BK174.out 1).trans rfl; have hcz50_2 : w49.cell? ⟨gb174, 2, none⟩ = some (.int .u64 0) := (blk_cell BK174.out 2).trans rfl; have hcz50_3 : w49.cell? ⟨gb174, 3, none⟩ = some (.string (⟨#[]⟩ : ByteArray)) := (blk_cell BK174.out 3).trans rfl; have hfz50_0 := blk_frozen BK174.out 0; have hfz50_1 := blk_frozen BK174.out 1; have hfz50_2 := blk_frozen BK174.out 2; have hfz50_3 := blk_frozen BK174.out 3))
                    refine bodyPost_ret (results_ct rfl _ _ gb174 25 #[.int .i64 0, .int .u64 0, .int .u64 0, .string (⟨#[]⟩ : ByteArray)] (0, 0) _ rfl (by (with_reducible repeat (first | refine blk_drewN ?_ _ | refine blk_drew ?_ | refine blk_alloc ?_ _)); refine blk_put (cs := #[.int .i64 0, .int .u64 0, .int .u64 0, .string (⟨#[]⟩ : ByteArray)]) ?_ 3 _ rfl; (with_reducible repeat (first | refine blk_drewN ?_ _ | refine blk_drew ?_ | refine blk_alloc ?_ _)); refine blk_put (cs := #[.int .i64 0, .int .u64 0, .int .u64 0, .string (⟨#[]⟩ : ByteArray)]) ?_ 2 _ rfl; (with_reducible repeat (first | refine blk_drewN ?_ _ | refine blk_drew ?_ | refine blk_alloc ?_ _)); refine blk_put (cs := #[.int .i64 0, .int .u64 0, .int .u64 0, .string (⟨#[]⟩ : ByteArray)]) ?_ 1 _ rfl; (with_reducible repeat (first | refine blk_drewN ?_ _ | refine blk_drew ?_ | refine blk_alloc ?_ _)); refine blk_put (cs := #[.int .i64 0, .int .u64 0, .int .u64 0, .string (⟨#[]⟩ : ByteArray)]) ?_ 0 _ rfl; (with_reducible repeat (first | refine blk_drewN ?_ _ | refine blk_drew ?_ | refine blk_alloc ?_ _)); exact BK174.out) Try.underlying25 rfl (by kernel_rfl)) rfl ?_
                    exact ⟨by first | rfl | (simp [errW_none, errW_some] <;> rfl) | (simp [*, errW_none, errW_some] <;> rfl), by repeat (first | (with_reducible first | exact HB.out | apply below_alloc | apply pw_below_drewN | apply below_drew1 | refine below_set ?_ GE174.out | refine below_set ?_ GE181.out) | exact HB.out)⟩
              · rw [if_neg c12] at H
                exact absurd H (by simp)
            · rw [if_neg c10] at H
              exact absurd H (by simp)
          · rw [if_neg c9] at H
            exact absurd H (by simp)
        · rw [if_neg c7] at H
          exact absurd H (by simp)
      · rw [if_neg c6] at H
        exact absurd H (by simp)
    · rw [if_neg c5] at H
      exact absurd H (by simp)



end Go.Proofs.Ytdbiobaccihpfaa.PAll
