-- Written by a program of this session (hprint.py: the kit's print over several laws at once, with functions proved by hand). Lean checks it.
import Derived.Test.YtdbiobaccihpfaaPAllx0
import Derived.Test.YtdbiobaccihpfaaPAllx2
import Derived.Test.YtdbiobaccihpfaaPAllx5
namespace Go.Proofs.Ytdbiobaccihpfaa.PAll
open Go.RowKit Go.Proofs.YtdbiobaccihpfaaW.PrintWords Go.Proofs.YtdbiobaccihpfaaW.PrintLast Go.Proofs.YtdbiobaccihpfaaW.PrintMore
attribute [local go_sem] max2_int min2_int max_two min_two max_three min_three max_four min_four   -- for this text's walks alone
set_option linter.unusedVariables false
set_option linter.unusedSimpArgs false

-- EXT marginalia/marginalialaw22.RecordEncode ; rounds=1 ; making=1 ; uses=marginalia/marginalialaw22.alive,marginalia/record.Encode,marginalia/marginaliaref22.Encode,marginalia/record.Check,marginalia/marginaliaref22.Check
/-! ### marginalialaw22_RecordEncode: function 3 -/
def marginalialaw22_RecordEncode.f (k : Nat) (a0_0 : Int) (a0_1 : Int) (a0_2 : Int) (a0_3 : ByteArray) : Option (Bool) := if (a0_3.size : Int) > 4200 then ((marginalialaw22_alive.f k).bind fun t161 => (some t161)) else ((record_Encode.f k a0_0 a0_1 a0_2 a0_3).bind fun bt162 => ((marginaliaref22_Encode.f k a0_0 a0_1 a0_2 a0_3).bind fun bt166 => ((marginalialaw22_alive.f k).bind fun t170 => (if t170 = true then (if (strOfNums bt162.1).toList = (strOfNums bt166.1).toList then (if bt162.2 = bt166.2 then ((record_Check.f k a0_0 a0_1 a0_2 a0_3).bind fun t171 => ((marginaliaref22_Check.f k a0_0 a0_1 a0_2 a0_3).bind fun t172 => (some (t171 == t172)))) else (some false)) else (some false)) else (some false)))))
theorem marginalialaw22_RecordEncode.mono : ∀ a0 a1 a2 a3 k, LeO (marginalialaw22_RecordEncode.f k a0 a1 a2 a3) (marginalialaw22_RecordEncode.f (k + 1) a0 a1 a2 a3) := by
  intro a0 a1 a2 a3 k
  unfold marginalialaw22_RecordEncode.f
  repeat' first
      | (with_reducible exact marginalialaw22_alive.mono _)
      | (with_reducible exact marginaliaref22_Check.mono _ _ _ _ _)
      | (with_reducible exact marginaliaref22_Encode.mono _ _ _ _ _)
      | (with_reducible exact record_Check.mono _ _ _ _ _)
      | (with_reducible exact record_Encode.mono _ _ _ _ _)
      | (with_reducible exact LeO.refl _)
      | (with_reducible exact LeO.none _)
      | (with_reducible refine LeO.ite ?_ ?_)
      | (with_reducible refine LeO.bind ?_ (fun _ => ?_))
      | exact marginalialaw22_alive.mono _
      | exact marginaliaref22_Check.mono _ _ _ _ _
      | exact marginaliaref22_Encode.mono _ _ _ _ _
      | exact record_Check.mono _ _ _ _ _
      | exact record_Encode.mono _ _ _ _ _
      | exact LeO.none _
      | refine LeO.ite ?_ ?_
      | refine LeO.bind ?_ (fun _ => ?_)
set_option maxHeartbeats 8000000 in
set_option maxRecDepth 100000 in
theorem marginalialaw22_RecordEncode.calls (k : Nat) (a0_0 : Int) (a0_1 : Int) (a0_2 : Int) (a0_3 : ByteArray) (w : World) (h : marginalialaw22_RecordEncode.f k a0_0 a0_1 a0_2 a0_3 = some true) :
    Calls Try.prog 3 #[.agg #[.int .i64 a0_0, .int .u64 a0_1, .int .u64 a0_2, .string a0_3]] w fun e w' => e = .returned (.bool true) ∧ Below w.heap.size w w' := by
  have hu25 := Try.underlying25
  have HB := Aside0.mk (Below.refl w.heap.size w)
  have H : (if (a0_3.size : Int) > 4200 then ((marginalialaw22_alive.f k).bind fun t161 => (some t161)) else ((record_Encode.f k a0_0 a0_1 a0_2 a0_3).bind fun bt162 => ((marginaliaref22_Encode.f k a0_0 a0_1 a0_2 a0_3).bind fun bt166 => ((marginalialaw22_alive.f k).bind fun t170 => (if t170 = true then (if (strOfNums bt162.1).toList = (strOfNums bt166.1).toList then (if bt162.2 = bt166.2 then ((record_Check.f k a0_0 a0_1 a0_2 a0_3).bind fun t171 => ((marginaliaref22_Check.f k a0_0 a0_1 a0_2 a0_3).bind fun t172 => (some (t171 == t172)))) else (some false)) else (some false)) else (some false)))))) = some true := h
  clear h
  by_cases c2 : (a0_3.size : Int) > 4200
  · rw [if_pos c2] at H
    have c2b0 : decide (4200 < (a0_3.size : Int)) = true := decide_eq_true c2
    have c2b1 : decide (4200 < a0_3.size) = true := decide_eq_true (by omega)
    clear c2
    replace H := Option.bind_eq_some_iff.mp H
    obtain ⟨t161, A30, H⟩ := H
    replace H : (some t161) = some true := H
    have A3 := Aside0.mk A30
    clear A30
    have hq_ := Option.some.inj H
    clear H
    go_enter Try.func3, Try.ntmps3
    go_wp2_with (first | ((with_reducible refine gate_dst (N := 1) rfl ?_); refine box_event ?hg (N := 1) ?hd (cs := #[.int .i64 a0_0, .int .u64 a0_1, .int .u64 a0_2, .string a0_3]) (t := 25) ?hr ?_; (case hd => rfl); (case hg => rfl); (case hr => first | (go_simp; done) | (go_simp; rfl)); intro gb160 hg w4 hbox hb; have n0_ := Aside0.mk (below_step (by repeat (first | (with_reducible first | exact HB.out | apply below_alloc | apply pw_below_drewN | apply below_drew1) | exact HB.out)) hb); have n1_ := Aside0.mk (hbox); have n2_ := Aside0.mk ((by rw [hg]; exact (below_size (by repeat (first | (with_reducible first | exact HB.out | apply below_alloc | apply pw_below_drewN | apply below_drew1) | exact HB.out))) : w.heap.size ≤ gb160)); have n3_ := Aside0.mk ((by rw [hg]; exact (below_size (by repeat (first | (with_reducible first | exact HB.out | apply below_alloc | apply pw_below_drewN | apply below_drew1) | exact HB.out))) : w.heap.size ≤ gb160)); clear HB; have HB := n0_; have BK160 := n1_; have GW160 := n2_; have GE160 := n3_; clear n0_ n1_ n2_ n3_; clear hb hbox hg; have hcz5_0 : w4.cell? ⟨gb160, 0, none⟩ = some (.int .i64 a0_0) := (blk_cell BK160.out 0).trans rfl; have hcz5_1 : w4.cell? ⟨gb160, 1, none⟩ = some (.int .u64 a0_1) := (blk_cell BK160.out 1).trans rfl; have hcz5_2 : w4.cell? ⟨gb160, 2, none⟩ = some (.int .u64 a0_2) := (blk_cell BK160.out 2).trans rfl; have hcz5_3 : w4.cell? ⟨gb160, 3, none⟩ = some (.string a0_3) := (blk_cell BK160.out 3).trans rfl; have hfz5_0 := blk_frozen BK160.out 0; have hfz5_1 := blk_frozen BK160.out 1; have hfz5_2 := blk_frozen BK160.out 2; have hfz5_3 := blk_frozen BK160.out 3) | ((with_reducible refine gate_callee (f := 7) rfl ?_); refine goesL_ (some 11) rfl rfl Try.func7 (by kernel_rfl) rfl #[] rfl (by (try simp only [List.map_toArray, List.map_cons, List.map_nil]); first | done | rfl | (simp only [List.length_drop, List.length_take]; rfl)) ?_; (with_reducible refine (marginalialaw22_alive.calls k  t161 _ A3.out).mono ?_); rintro e w6 ⟨rfl, hb⟩; refine ⟨_, rfl, ?_⟩; have n0_ := Aside0.mk (blk_below (g := gb160) (o := .cells #[.int .i64 a0_0, .int .u64 a0_1, .int .u64 a0_2, .string a0_3] 25 (0, 0)) (by (with_reducible repeat (first | refine blk_drewN ?_ _ | refine blk_drew ?_ | refine blk_alloc ?_ _)); exact BK160.out) hb); have n1_ := Aside0.mk (below_step (by repeat (first | (with_reducible first | exact HB.out | apply below_alloc | apply pw_below_drewN | apply below_drew1 | refine below_set ?_ GE160.out) | exact HB.out)) hb); clear BK160; clear HB; have BK160 := n0_; have HB := n1_; clear n0_ n1_; (try clear hb); (try clear hb2); (try clear hk); (try clear hi)))
    go_ret
    exact ⟨by first | rfl | (simp [errW_none, errW_some] <;> rfl) | (simp [*, errW_none, errW_some] <;> rfl), by repeat (first | (with_reducible first | exact HB.out | apply below_alloc | apply pw_below_drewN | apply below_drew1 | refine below_set ?_ GE160.out) | exact HB.out)⟩
  · rw [if_neg c2] at H
    have c2b0 : decide (4200 < (a0_3.size : Int)) = false := decide_eq_false c2
    have c2b1 : decide (4200 < a0_3.size) = false := decide_eq_false (by omega)
    clear c2
    replace H := Option.bind_eq_some_iff.mp H
    obtain ⟨⟨t162, t165⟩, A70, H⟩ := H
    replace H : ((marginaliaref22_Encode.f k a0_0 a0_1 a0_2 a0_3).bind fun bt166 => ((marginalialaw22_alive.f k).bind fun t170 => (if t170 = true then (if (strOfNums t162).toList = (strOfNums bt166.1).toList then (if t165 = bt166.2 then ((record_Check.f k a0_0 a0_1 a0_2 a0_3).bind fun t171 => ((marginaliaref22_Check.f k a0_0 a0_1 a0_2 a0_3).bind fun t172 => (some (t171 == t172)))) else (some false)) else (some false)) else (some false)))) = some true := H
    have A7 := Aside0.mk A70
    clear A70
    replace H := Option.bind_eq_some_iff.mp H
    obtain ⟨⟨t166, t169⟩, A80, H⟩ := H
    replace H : ((marginalialaw22_alive.f k).bind fun t170 => (if t170 = true then (if (strOfNums t162).toList = (strOfNums t166).toList then (if t165 = t169 then ((record_Check.f k a0_0 a0_1 a0_2 a0_3).bind fun t171 => ((marginaliaref22_Check.f k a0_0 a0_1 a0_2 a0_3).bind fun t172 => (some (t171 == t172)))) else (some false)) else (some false)) else (some false))) = some true := H
    have A8 := Aside0.mk A80
    clear A80
    replace H := Option.bind_eq_some_iff.mp H
    obtain ⟨t170, A90, H⟩ := H
    replace H : (if t170 = true then (if (strOfNums t162).toList = (strOfNums t166).toList then (if t165 = t169 then ((record_Check.f k a0_0 a0_1 a0_2 a0_3).bind fun t171 => ((marginaliaref22_Check.f k a0_0 a0_1 a0_2 a0_3).bind fun t172 => (some (t171 == t172)))) else (some false)) else (some false)) else (some false)) = some true := H
    have A9 := Aside0.mk A90
    clear A90
    by_cases c10 : t170 = true
    · subst c10
      have H1 : (if (strOfNums t162).toList = (strOfNums t166).toList then (if t165 = t169 then ((record_Check.f k a0_0 a0_1 a0_2 a0_3).bind fun t171 => ((marginaliaref22_Check.f k a0_0 a0_1 a0_2 a0_3).bind fun t172 => (some (t171 == t172)))) else (some false)) else (some false)) = some true := by rw [if_pos rfl] at H; exact H
      clear H
      have H := H1
      clear H1
      by_cases c11 : (strOfNums t162).toList = (strOfNums t166).toList
      · rw [if_pos c11] at H
        have c11b0 : ((strOfNums t162).toList == (strOfNums t166).toList) = true := beq_iff_eq.mpr c11
        have c11b1 : ((strOfNums t162).toList != (strOfNums t166).toList) = false := bne_eq_false_iff_eq.mpr c11
        clear c11
        by_cases c12 : t165 = t169
        · rw [if_pos c12] at H
          have c12b0 : (t165 == t169) = true := beq_iff_eq.mpr c12
          have c12b1 : (t165 != t169) = false := bne_eq_false_iff_eq.mpr c12
          clear c12
          replace H := Option.bind_eq_some_iff.mp H
          obtain ⟨t171, A130, H⟩ := H
          replace H : ((marginaliaref22_Check.f k a0_0 a0_1 a0_2 a0_3).bind fun t172 => (some (t171 == t172))) = some true := H
          have A13 := Aside0.mk A130
          clear A130
          replace H := Option.bind_eq_some_iff.mp H
          obtain ⟨t172, A140, H⟩ := H
          replace H : (some (t171 == t172)) = some true := H
          have A14 := Aside0.mk A140
          clear A140
          have hq_ := Option.some.inj H
          clear H
          go_enter Try.func3, Try.ntmps3
          go_wp2_with (first | ((with_reducible refine gate_dst (N := 1) rfl ?_); refine box_event ?hg (N := 1) ?hd (cs := #[.int .i64 a0_0, .int .u64 a0_1, .int .u64 a0_2, .string a0_3]) (t := 25) ?hr ?_; (case hd => rfl); (case hg => rfl); (case hr => first | (go_simp; done) | (go_simp; rfl)); intro gb160 hg w15 hbox hb; have n0_ := Aside0.mk (below_step (by repeat (first | (with_reducible first | exact HB.out | apply below_alloc | apply pw_below_drewN | apply below_drew1) | exact HB.out)) hb); have n1_ := Aside0.mk (hbox); have n2_ := Aside0.mk ((by rw [hg]; exact (below_size (by repeat (first | (with_reducible first | exact HB.out | apply below_alloc | apply pw_below_drewN | apply below_drew1) | exact HB.out))) : w.heap.size ≤ gb160)); have n3_ := Aside0.mk ((by rw [hg]; exact (below_size (by repeat (first | (with_reducible first | exact HB.out | apply below_alloc | apply pw_below_drewN | apply below_drew1) | exact HB.out))) : w.heap.size ≤ gb160)); clear HB; have HB := n0_; have BK160 := n1_; have GW160 := n2_; have GE160 := n3_; clear n0_ n1_ n2_ n3_; clear hb hbox hg; have hcz16_0 : w15.cell? ⟨gb160, 0, none⟩ = some (.int .i64 a0_0) := (blk_cell BK160.out 0).trans rfl; have hcz16_1 : w15.cell? ⟨gb160, 1, none⟩ = some (.int .u64 a0_1) := (blk_cell BK160.out 1).trans rfl; have hcz16_2 : w15.cell? ⟨gb160, 2, none⟩ = some (.int .u64 a0_2) := (blk_cell BK160.out 2).trans rfl; have hcz16_3 : w15.cell? ⟨gb160, 3, none⟩ = some (.string a0_3) := (blk_cell BK160.out 3).trans rfl; have hfz16_0 := blk_frozen BK160.out 0; have hfz16_1 := blk_frozen BK160.out 1; have hfz16_2 := blk_frozen BK160.out 2; have hfz16_3 := blk_frozen BK160.out 3) | ((with_reducible refine gate_callee (f := 8) rfl ?_); refine goesL_ (some 14) rfl rfl Try.func8 (by kernel_rfl) rfl #[.agg #[.int .i64 a0_0, .int .u64 a0_1, .int .u64 a0_2, .string a0_3]] rfl (by (try simp only [List.map_toArray, List.map_cons, List.map_nil]); first | done | rfl | (simp only [List.length_drop, List.length_take]; rfl)) ?_; (with_reducible refine (record_Encode.calls k a0_0 a0_1 a0_2 a0_3 t162 t165 _ A7.out).mono ?_); rintro e w17 ⟨v163, rfl, ho0, hb⟩; refine ⟨_, rfl, ?_⟩; have n0_ := Aside0.mk (Kd.R_lower ho0 (below_size (by repeat (first | (with_reducible first | exact HB.out | apply below_alloc | apply pw_below_drewN | apply below_drew1 | refine below_set ?_ GE160.out) | exact HB.out)))); have n1_ := Aside0.mk (blk_below (g := gb160) (o := .cells #[.int .i64 a0_0, .int .u64 a0_1, .int .u64 a0_2, .string a0_3] 25 (0, 0)) (by (with_reducible repeat (first | refine blk_drewN ?_ _ | refine blk_drew ?_ | refine blk_alloc ?_ _)); exact BK160.out) hb); have n2_ := Aside0.mk (below_step (by repeat (first | (with_reducible first | exact HB.out | apply below_alloc | apply pw_below_drewN | apply below_drew1 | refine below_set ?_ GE160.out) | exact HB.out)) hb); clear BK160; clear HB; have HO164 := n0_; have BK160 := n1_; have HB := n2_; clear n0_ n1_ n2_; (try clear hb); (try clear hb2); (try clear hk); (try clear hi); (try clear ho0); have hcz18_0 : w17.cell? ⟨gb160, 0, none⟩ = some (.int .i64 a0_0) := (blk_cell BK160.out 0).trans rfl; have hcz18_1 : w17.cell? ⟨gb160, 1, none⟩ = some (.int .u64 a0_1) := (blk_cell BK160.out 1).trans rfl; have hcz18_2 : w17.cell? ⟨gb160, 2, none⟩ = some (.int .u64 a0_2) := (blk_cell BK160.out 2).trans rfl; have hcz18_3 : w17.cell? ⟨gb160, 3, none⟩ = some (.string a0_3) := (blk_cell BK160.out 3).trans rfl; have hfz18_0 := blk_frozen BK160.out 0; have hfz18_1 := blk_frozen BK160.out 1; have hfz18_2 := blk_frozen BK160.out 2; have hfz18_3 := blk_frozen BK160.out 3) | ((with_reducible refine gate_callee (f := 9) rfl ?_); refine goesL_ (some 19) rfl rfl Try.func9 (by kernel_rfl) rfl #[.agg #[.int .i64 a0_0, .int .u64 a0_1, .int .u64 a0_2, .string a0_3]] rfl (by (try simp only [List.map_toArray, List.map_cons, List.map_nil]); first | done | rfl | (simp only [List.length_drop, List.length_take]; rfl)) ?_; (with_reducible refine (marginaliaref22_Encode.calls k a0_0 a0_1 a0_2 a0_3 t166 t169 _ A8.out).mono ?_); rintro e w19 ⟨v167, rfl, ho0, hb⟩; refine ⟨_, rfl, ?_⟩; have n0_ := Aside0.mk (Kd.R_elder' (by (with_reducible repeat (first | apply Kd.R_alloc | apply Kd.R_drewN | apply Kd.R_drew)); exact HO164.out) (Kd.R_base ho0) hb); have n1_ := Aside0.mk (Kd.R_lower (Kd.R_new' ho0 (Kd.R_lt (by (with_reducible repeat (first | apply Kd.R_alloc | apply Kd.R_drewN | apply Kd.R_drew)); exact HO164.out))) (below_size (by repeat (first | (with_reducible first | exact HB.out | apply below_alloc | apply pw_below_drewN | apply below_drew1 | refine below_set ?_ GE160.out) | exact HB.out)))); have n2_ := Aside0.mk (blk_below (g := gb160) (o := .cells #[.int .i64 a0_0, .int .u64 a0_1, .int .u64 a0_2, .string a0_3] 25 (0, 0)) (by (with_reducible repeat (first | refine blk_drewN ?_ _ | refine blk_drew ?_ | refine blk_alloc ?_ _)); exact BK160.out) hb); have n3_ := Aside0.mk (below_step (by repeat (first | (with_reducible first | exact HB.out | apply below_alloc | apply pw_below_drewN | apply below_drew1 | refine below_set ?_ GE160.out) | exact HB.out)) hb); clear HO164; clear BK160; clear HB; have HO164 := n0_; have HO168 := n1_; have BK160 := n2_; have HB := n3_; clear n0_ n1_ n2_ n3_; (try clear hb); (try clear hb2); (try clear hk); (try clear hi); (try clear ho0)))
          have HK := Aside0.mk (Below.refl w19.heap.size w19)
          have HS : ∀ W : World, Below w19.heap.size w19 W → W.cell? ⟨gb160, 0, none⟩ = some (.int .i64 a0_0) ∧ W.cell? ⟨gb160, 1, none⟩ = some (.int .u64 a0_1) ∧ W.cell? ⟨gb160, 2, none⟩ = some (.int .u64 a0_2) ∧ W.cell? ⟨gb160, 3, none⟩ = some (.string a0_3) ∧ (convert 27 9 v163).run Try.prog W = .ok (.string (strOfNums t162)) W ∧ (convert 27 9 v167).run Try.prog W = .ok (.string (strOfNums t166)) W := fun W hb_ => ⟨(blk_cell (blk_below BK160.out hb_) 0).trans rfl, (blk_cell (blk_below BK160.out hb_) 1).trans rfl, (blk_cell (blk_below BK160.out hb_) 2).trans rfl, (blk_cell (blk_below BK160.out hb_) 3).trans rfl, own_string (P := Try.prog) Try.underlying27 Try.underlying5 Try.underlying9 (Kd.own_of_R (Kd.R_below HO164.out hb_)), own_string (P := Try.prog) Try.underlying27 Try.underlying5 Try.underlying9 (Kd.own_of_R (Kd.R_below HO168.out hb_))⟩
          have HSa := Aside0.mk HS
          clear HS
          go_region_held3 (fun W => W.cell? ⟨gb160, 0, none⟩ = some (.int .i64 a0_0) ∧ W.cell? ⟨gb160, 1, none⟩ = some (.int .u64 a0_1) ∧ W.cell? ⟨gb160, 2, none⟩ = some (.int .u64 a0_2) ∧ W.cell? ⟨gb160, 3, none⟩ = some (.string a0_3) ∧ (convert 27 9 v163).run Try.prog W = .ok (.string (strOfNums t162)) W ∧ (convert 27 9 v167).run Try.prog W = .ok (.string (strOfNums t166)) W) ((refine HSa.out _ ?_; repeat (first | (with_reducible first | exact HK.out | apply below_alloc | apply pw_below_drewN | apply below_drew1) | exact HK.out))) (first | (go_at_call 7; (with_reducible refine (marginalialaw22_alive.calls k  true _ A9.out).mono ?_); rintro e w20 ⟨rfl, hb⟩; have n0_ := Aside0.mk (below_step (by repeat (first | (with_reducible first | exact HK.out | apply below_alloc | apply pw_below_drewN | apply below_drew1) | exact HK.out)) hb); clear HK; have HK := n0_; clear n0_ hb) | (go_at_call 10; (with_reducible refine (record_Check.calls k a0_0 a0_1 a0_2 a0_3 t171 _ A13.out).mono ?_); rintro e w24 ⟨rfl, hb⟩; have n0_ := Aside0.mk (below_step (by repeat (first | (with_reducible first | exact HK.out | apply below_alloc | apply pw_below_drewN | apply below_drew1) | exact HK.out)) hb); clear HK; have HK := n0_; clear n0_ hb) | (go_at_call 11; (with_reducible refine (marginaliaref22_Check.calls k a0_0 a0_1 a0_2 a0_3 t172 _ A14.out).mono ?_); rintro e w26 ⟨rfl, hb⟩; have n0_ := Aside0.mk (below_step (by repeat (first | (with_reducible first | exact HK.out | apply below_alloc | apply pw_below_drewN | apply below_drew1) | exact HK.out)) hb); clear HK; have HK := n0_; clear n0_ hb))
          go_wp2
          go_ret
          exact ⟨by first | rfl | (simp [errW_none, errW_some] <;> rfl) | (simp [*, errW_none, errW_some] <;> rfl), by repeat (first | (with_reducible first | exact below_step HB.out HK.out | apply below_alloc | apply pw_below_drewN | apply below_drew1 | refine below_set ?_ GE160.out) | exact below_step HB.out HK.out)⟩
        · rw [if_neg c12] at H
          have c12b0 : (t165 == t169) = false := beq_eq_false_iff_ne.mpr c12
          have c12b1 : (t165 != t169) = true := bne_iff_ne.mpr c12
          exact absurd H (by simp)
      · rw [if_neg c11] at H
        have c11b0 : ((strOfNums t162).toList == (strOfNums t166).toList) = false := beq_eq_false_iff_ne.mpr c11
        have c11b1 : ((strOfNums t162).toList != (strOfNums t166).toList) = true := bne_iff_ne.mpr c11
        exact absurd H (by simp)
    · replace c10 := Bool.eq_false_iff.mpr c10
      subst c10
      have H1 : (some false) = some true := by rw [if_neg (show ¬ (false = true) by decide)] at H; exact H
      clear H
      have H := H1
      clear H1
      exact absurd H (by simp)



end Go.Proofs.Ytdbiobaccihpfaa.PAll
