-- Laid together by a program of this session (merge.py) out of its own texts and of the print's, for one law. Lean checks it.
import Derived.Test.YtnbghhddmlohoaaDoorMPr0
set_option maxHeartbeats 16000000
set_option maxRecDepth 100000
section
namespace Go.Proofs.YtnbghhddmlohoaaDoor.PAll
open Go.RowKit Go.Proofs.YtnbghhddmlohoaaDoorW.PrintWords Go.Proofs.YtnbghhddmlohoaaDoorW.PrintLast Go.Proofs.YtnbghhddmlohoaaDoorW.PrintMore
attribute [local go_sem] max2_int min2_int max_two min_two max_three min_three max_four min_four   -- for this text's walks alone
set_option linter.unusedVariables false
set_option linter.unusedSimpArgs false

def p_Parse.f (k : Nat) (a0 : ByteArray) : Option ((List (S53)) × List ByteArray × List ByteArray × List ByteArray × Int × Int × Int) := if (a0.size : Int) > 2000 then (some (([] : List (S53)), ([] : List ByteArray), ([] : List ByteArray), ([] : List ByteArray), 0, 0, 4)) else ((strings_Split.f a0 (⟨#[10]⟩ : ByteArray)).bind fun t150 => ((p_read.f t150).bind fun bt153 => (if bt153.2.2.2.2.2 > 0 then (some (([] : List (S53)), ([] : List ByteArray), ([] : List ByteArray), ([] : List ByteArray), 0, bt153.2.2.2.2.2, 7)) else ((p_Check.f k bt153.1 bt153.2.1 bt153.2.2.1 bt153.2.2.2.1 bt153.2.2.2.2.1).bind fun t168 => (if t168 = 0 then (some (bt153.1, bt153.2.1, bt153.2.2.1, bt153.2.2.2.1, bt153.2.2.2.2.1, 0, 0)) else (some (([] : List (S53)), ([] : List ByteArray), ([] : List ByteArray), ([] : List ByteArray), 0, 0, t168)))))))
theorem p_Parse.mono : ∀ a0 k, LeO (p_Parse.f k a0) (p_Parse.f (k + 1) a0) := by
  intro a0 k
  unfold p_Parse.f
  repeat' first
      | (with_reducible exact p_Check.mono _ _ _ _ _ _)
      | (with_reducible exact LeO.refl _)
      | (with_reducible exact LeO.none _)
      | (with_reducible refine LeO.ite ?_ ?_)
      | (with_reducible refine LeO.bind ?_ (fun _ => ?_))
theorem p_Parse.calls (k : Nat) (a0 : ByteArray) (r1 : List (S53)) (r2 : List ByteArray) (r3 : List ByteArray) (r4 : List ByteArray) (r5 : Int) (r6 : Int) (r7 : Int) (w : World) (m_ : Int) (hm_ : w.cell? ⟨0, 0, none⟩ = some (.int .i64 m_)) (h : p_Parse.f k a0 = some (r1, r2, r3, r4, r5, r6, r7)) :
  Calls Tryd.prog 13 #[.string a0] w fun e w' => ∃ v0_ v1_ v2_ v3_ : Value, e = .returned (.tuple #[.agg #[v0_, v1_, v2_, v3_, .int .i64 r5], .int .i64 r6, .int .i64 r7]) ∧ Kd.S k53 53 w' w.heap.size (fun k_ => some k_ ≠ (v1_ : Value).ownBlock ∧ some k_ ≠ (v2_ : Value).ownBlock ∧ some k_ ≠ (v3_ : Value).ownBlock) v0_ r1 ∧ Kd.R Kd.string 9 w' w.heap.size (fun k_ => some k_ ≠ (v2_ : Value).ownBlock ∧ some k_ ≠ (v3_ : Value).ownBlock) v1_ r2 ∧ Kd.R Kd.string 9 w' w.heap.size (fun k_ => some k_ ≠ (v1_ : Value).ownBlock ∧ some k_ ≠ (v3_ : Value).ownBlock) v2_ r3 ∧ Kd.R Kd.string 9 w' w.heap.size (fun k_ => some k_ ≠ (v1_ : Value).ownBlock ∧ some k_ ≠ (v2_ : Value).ownBlock) v3_ r4 ∧ Below w.heap.size w w' := by
 have HM := Am hm_;clear hm_;have hu25 := Tryd.underlying25;have HB := Am (Below.refl w.heap.size w);have H : (if (a0.size : Int) > 2000 then (some (([] : List (S53)), ([] : List ByteArray), ([] : List ByteArray), ([] : List ByteArray), 0, 0, 4)) else ((strings_Split.f a0 (⟨#[10]⟩ : ByteArray)).bind fun t150 => ((p_read.f t150).bind fun bt153 => (if bt153.2.2.2.2.2 > 0 then (some (([] : List (S53)), ([] : List ByteArray), ([] : List ByteArray), ([] : List ByteArray), 0, bt153.2.2.2.2.2, 7)) else ((p_Check.f k bt153.1 bt153.2.1 bt153.2.2.1 bt153.2.2.2.1 bt153.2.2.2.2.1).bind fun t168 => (if t168 = 0 then (some (bt153.1, bt153.2.1, bt153.2.2.1, bt153.2.2.2.1, bt153.2.2.2.2.1, 0, 0)) else (some (([] : List (S53)), ([] : List ByteArray), ([] : List ByteArray), ([] : List ByteArray), 0, 0, t168)))))))) = some (r1, r2, r3, r4, r5, r6, r7) := h;clear h
 by_cases c2 : (a0.size : Int) > 2000
 ·rw [if_pos c2] at H;have c2b0 := dgt c2;have c2b1 : decide (2000 < a0.size) = true := decide_eq_true (by omega);clear c2;simp only [Option.some.injEq, Prod.mk.injEq] at H;obtain ⟨rfl, rfl, rfl, rfl, rfl, rfl, rfl⟩ := H;go_enter Tryd.func13, Tryd.ntmps13;go_wp2_with (first | ((with_reducible refine gate_dst (N := 2) rfl ?_); refine box5 25 2 (cs := #[.slice none 0 0, .slice none 0 0, .slice none 0 0, .slice none 0 0, .int .i64 0]) ?_; clear HB; intro gb149 w3 HB BK149 GE149; obtain ⟨Z4_0, Z4_1, Z4_2, Z4_3, Z4_4, Y4_0, Y4_1, Y4_2, Y4_3, Y4_4⟩ := cells5 BK149));refine bodyPost_ret (results_ctt rfl _ _ gb149 25 #[.slice none 0 0, .slice none 0 0, .slice none 0 0, .slice none 0 0, .int .i64 0] (0, 0) _ rfl (Bp BK149) Tryd.underlying25 rfl (by kernel_rfl)) rfl ?_;exact ⟨_, _, _, _, Re, by first | exact Kd.S_nil _ _ _ _ _ | exact Kd.N_nil _ _ _ _ _ | exact Kd.V_nil _ _ _ _ _ | exact Kd.Q_nil _ _ _ _ _ | exact Kd.R_nil _ _ _ _ _, by first | exact Kd.R_nil _ _ _ _ _ | exact Kd.N_nil _ _ _ _ _ | exact Kd.V_nil _ _ _ _ _ | exact Kd.Q_nil _ _ _ _ _ | exact Kd.S_nil _ _ _ _ _, by first | exact Kd.R_nil _ _ _ _ _ | exact Kd.N_nil _ _ _ _ _ | exact Kd.V_nil _ _ _ _ _ | exact Kd.Q_nil _ _ _ _ _ | exact Kd.S_nil _ _ _ _ _, by first | exact Kd.R_nil _ _ _ _ _ | exact Kd.N_nil _ _ _ _ _ | exact Kd.V_nil _ _ _ _ _ | exact Kd.Q_nil _ _ _ _ _ | exact Kd.S_nil _ _ _ _ _, Bw⟩
 rw [if_neg c2] at H;have c2b0 := ngt c2;have c2b1 : decide (2000 < a0.size) = false := decide_eq_false (by omega);clear c2;obtain ⟨t150, A5, H⟩ := bx H;replace H : ((p_read.f t150).bind fun bt153 => (if bt153.2.2.2.2.2 > 0 then (some (([] : List (S53)), ([] : List ByteArray), ([] : List ByteArray), ([] : List ByteArray), 0, bt153.2.2.2.2.2, 7)) else ((p_Check.f k bt153.1 bt153.2.1 bt153.2.2.1 bt153.2.2.2.1 bt153.2.2.2.2.1).bind fun t168 => (if t168 = 0 then (some (bt153.1, bt153.2.1, bt153.2.2.1, bt153.2.2.2.1, bt153.2.2.2.2.1, 0, 0)) else (some (([] : List (S53)), ([] : List ByteArray), ([] : List ByteArray), ([] : List ByteArray), 0, 0, t168)))))) = some (r1, r2, r3, r4, r5, r6, r7) := H;obtain ⟨⟨t153, t156, t159, t162, t165, t166⟩, A6, H⟩ := bx H;replace H : (if t166 > 0 then (some (([] : List (S53)), ([] : List ByteArray), ([] : List ByteArray), ([] : List ByteArray), 0, t166, 7)) else ((p_Check.f k t153 t156 t159 t162 t165).bind fun t168 => (if t168 = 0 then (some (t153, t156, t159, t162, t165, 0, 0)) else (some (([] : List (S53)), ([] : List ByteArray), ([] : List ByteArray), ([] : List ByteArray), 0, 0, t168))))) = some (r1, r2, r3, r4, r5, r6, r7) := H
 by_cases c7 : t166 > 0
 ·rw [if_pos c7] at H;have c7b0 : decide (0 < t166) = true := decide_eq_true c7;clear c7;simp only [Option.some.injEq, Prod.mk.injEq] at H;obtain ⟨rfl, rfl, rfl, rfl, rfl, rfl, rfl⟩ := H;go_enter Tryd.func13, Tryd.ntmps13;go_wp2_with (first | ((with_reducible refine gate_dst (N := 2) rfl ?_); refine box5 25 2 (cs := #[.slice none 0 0, .slice none 0 0, .slice none 0 0, .slice none 0 0, .int .i64 0]) ?_; clear HB; intro gb149 w8 HB BK149 GE149) | ((with_reducible refine gate_callee (f := 37) rfl ?_); refine goL (some 14) Tryd.func37 #[.string a0, .string (⟨#[10]⟩ : ByteArray)] ?_; (with_reducible refine (strings_Split.calls a0 (⟨#[10]⟩ : ByteArray) t150 _ m_ ?hmS A5.out).mono ?_); (case hmS => exact (pw_cell_below Bw HM.out)); rintro e w9 ⟨v151, rfl, ho0, hb⟩; refine ⟨_, rfl, ?_⟩; replace HO152 := Am (Kd.R_lower ho0 (below_size Bw)); replace BK149 := Bb BK149 hb; replace HB := Bs hb; (try clear hb); (try clear hb2); (try clear hk); (try clear hi); (try clear ho0); obtain ⟨Ao10, co10, eo10⟩ := Kd.R_slice HO152.out; subst eo10) | ((with_reducible refine gate_callee (f := 36) rfl ?_); refine goL (some 15) Tryd.func36 #[.slice Ao10 t150.length co10] ?_; (with_reducible refine (p_read.calls _ _ t150 t153 t156 t159 t162 t165 t166 _ ?side1 ?side2 m_ ?hmS A6.out).mono ?_); (case hmS => exact (pw_cell_below Bw HM.out)); (case side1 => repeat (first | exact (Kd.R_reads' HO152.out).2.2 | (with_reducible refine Kd.C_alloc ?_ _) | (with_reducible refine Kd.C_drewN ?_ _) | (with_reducible refine Kd.C_drew ?_))); (case side2 => exact (Kd.R_reads' HO152.out).2.1); rintro e w11 ⟨v154, v157, v160, v163, rfl, ho0, ho1, ho2, ho3, hb⟩; refine ⟨_, rfl, ?_⟩; have n0_ := Am (Kd.R_mono (Kd.R_told (Kd.R_told (Kd.R_told (Kd.R_old (Rk HO152.out) hb) (Kd.R_base ho1)) (Kd.R_base ho2)) (Kd.R_base ho3)) (fun _ h_ => h_.1)); have n1_ := Am (Kd.S_lower (Kd.S_new' ho0 (Kd.R_lt (Rk HO152.out))) (below_size Bw)); have n2_ := Am (Kd.R_lower (Kd.R_new' ho1 (Kd.R_lt (Rk HO152.out))) (below_size Bw)); have n3_ := Am (Kd.R_lower (Kd.R_new' ho2 (Kd.R_lt (Rk HO152.out))) (below_size Bw)); have n4_ := Am (Kd.R_lower (Kd.R_new' ho3 (Kd.R_lt (Rk HO152.out))) (below_size Bw)); have n5_ := Bb BK149 hb; have n6_ := Bs hb; clear HO152; clear BK149; clear HB; have HO152 := n0_; have HO155 := n1_; have HO158 := n2_; have HO161 := n3_; have HO164 := n4_; have BK149 := n5_; have HB := n6_; clear n0_ n1_ n2_ n3_ n4_ n5_ n6_; (try clear hb); (try clear hb2); (try clear hk); (try clear hi); (try clear ho0); (try clear ho1); (try clear ho2); (try clear ho3)) | ((with_reducible refine gate_dst (N := 5) rfl ?_); refine boxE 25 5 (cs := #[.slice none 0 0, .slice none 0 0, .slice none 0 0, .slice none 0 0, .int .i64 0]) ?_; intro gb167 hg w12 hbox hb; have n0_ := Am (Kd.R_below (Rk HO152.out) hb); have n1_ := Am (Kd.S_below (Sk HO155.out) hb); have n2_ := Am (Kd.R_below (Rk HO158.out) hb); have n3_ := Am (Kd.R_below (Rk HO161.out) hb); have n4_ := Am (Kd.R_below (Rk HO164.out) hb); have n5_ := Bb BK149 hb; have n6_ := Bs hb; have n7_ := Am (hbox); have n8_ := Am (Gg hg); have n9_ := Am (Gg hg); have n10_ := Nl hg BK149; have n11_ := Ng hg BK149; clear HO152; clear HO155; clear HO158; clear HO161; clear HO164; clear BK149; clear HB; have HO152 := n0_; have HO155 := n1_; have HO158 := n2_; have HO161 := n3_; have HO164 := n4_; have BK149 := n5_; have HB := n6_; have BK167 := n7_; have GW167 := n8_; have GE167 := n9_; have NB149_167 := n10_; have NB167_149 := n11_; clear n0_ n1_ n2_ n3_ n4_ n5_ n6_ n7_ n8_ n9_ n10_ n11_; clear hb hbox hg; obtain ⟨Ao13, co13, eo13⟩ := Kd.S_slice HO155.out; subst eo13; have hnb14 := NB167_149.out; have hnc14 := NB149_167.out; obtain ⟨Z15_0, Z15_1, Z15_2, Z15_3, Z15_4, Y15_0, Y15_1, Y15_2, Y15_3, Y15_4⟩ := cells5 BK167; obtain ⟨Ao16, co16, eo16⟩ := Kd.R_slice HO158.out; subst eo16; obtain ⟨Ao17, co17, eo17⟩ := Kd.R_slice HO161.out; subst eo17; obtain ⟨Ao18, co18, eo18⟩ := Kd.R_slice HO164.out; subst eo18; obtain ⟨Z19_0, Z19_1, Z19_2, Z19_3, Z19_4, Y19_0, Y19_1, Y19_2, Y19_3, Y19_4⟩ := cells5 BK149))
  refine bodyPost_ret (results_ctt rfl _ _ gb149 25 #[.slice none 0 0, .slice none 0 0, .slice none 0 0, .slice none 0 0, .int .i64 0] (0, 0) _ rfl (Bp BK149) Tryd.underlying25 rfl (by kernel_rfl)) rfl ?_;exact ⟨_, _, _, _, Re, by first | exact Kd.S_nil _ _ _ _ _ | exact Kd.N_nil _ _ _ _ _ | exact Kd.V_nil _ _ _ _ _ | exact Kd.Q_nil _ _ _ _ _ | exact Kd.R_nil _ _ _ _ _, by first | exact Kd.R_nil _ _ _ _ _ | exact Kd.N_nil _ _ _ _ _ | exact Kd.V_nil _ _ _ _ _ | exact Kd.Q_nil _ _ _ _ _ | exact Kd.S_nil _ _ _ _ _, by first | exact Kd.R_nil _ _ _ _ _ | exact Kd.N_nil _ _ _ _ _ | exact Kd.V_nil _ _ _ _ _ | exact Kd.Q_nil _ _ _ _ _ | exact Kd.S_nil _ _ _ _ _, by first | exact Kd.R_nil _ _ _ _ _ | exact Kd.N_nil _ _ _ _ _ | exact Kd.V_nil _ _ _ _ _ | exact Kd.Q_nil _ _ _ _ _ | exact Kd.S_nil _ _ _ _ _, Bw⟩
 rw [if_neg c7] at H;have c7b0 : decide (0 < t166) = false := decide_eq_false c7;clear c7;obtain ⟨t168, A20, H⟩ := bx H;replace H : (if t168 = 0 then (some (t153, t156, t159, t162, t165, 0, 0)) else (some (([] : List (S53)), ([] : List ByteArray), ([] : List ByteArray), ([] : List ByteArray), 0, 0, t168))) = some (r1, r2, r3, r4, r5, r6, r7) := H
 by_cases c21 : t168 = 0
 ·rw [if_pos c21] at H;obtain ⟨c21b0, c21b1⟩ := eqb c21;clear c21;simp only [Option.some.injEq, Prod.mk.injEq] at H;obtain ⟨rfl, rfl, rfl, rfl, rfl, rfl, rfl⟩ := H;go_enter Tryd.func13, Tryd.ntmps13;go_wp2_with (first | ((with_reducible refine gate_dst (N := 2) rfl ?_); refine box5 25 2 (cs := #[.slice none 0 0, .slice none 0 0, .slice none 0 0, .slice none 0 0, .int .i64 0]) ?_; clear HB; intro gb149 w22 HB BK149 GE149) | ((with_reducible refine gate_callee (f := 37) rfl ?_); refine goL (some 14) Tryd.func37 #[.string a0, .string (⟨#[10]⟩ : ByteArray)] ?_; (with_reducible refine (strings_Split.calls a0 (⟨#[10]⟩ : ByteArray) t150 _ m_ ?hmS A5.out).mono ?_); (case hmS => exact (pw_cell_below Bw HM.out)); rintro e w23 ⟨v151, rfl, ho0, hb⟩; refine ⟨_, rfl, ?_⟩; replace HO152 := Am (Kd.R_lower ho0 (below_size Bw)); replace BK149 := Bb BK149 hb; replace HB := Bs hb; (try clear hb); (try clear hb2); (try clear hk); (try clear hi); (try clear ho0); obtain ⟨Ao24, co24, eo24⟩ := Kd.R_slice HO152.out; subst eo24) | ((with_reducible refine gate_callee (f := 36) rfl ?_); refine goL (some 15) Tryd.func36 #[.slice Ao24 t150.length co24] ?_; (with_reducible refine (p_read.calls _ _ t150 t153 t156 t159 t162 t165 t166 _ ?side1 ?side2 m_ ?hmS A6.out).mono ?_); (case hmS => exact (pw_cell_below Bw HM.out)); (case side1 => repeat (first | exact (Kd.R_reads' HO152.out).2.2 | (with_reducible refine Kd.C_alloc ?_ _) | (with_reducible refine Kd.C_drewN ?_ _) | (with_reducible refine Kd.C_drew ?_))); (case side2 => exact (Kd.R_reads' HO152.out).2.1); rintro e w25 ⟨v154, v157, v160, v163, rfl, ho0, ho1, ho2, ho3, hb⟩; refine ⟨_, rfl, ?_⟩; have n0_ := Am (Kd.R_mono (Kd.R_told (Kd.R_told (Kd.R_told (Kd.R_old (Rk HO152.out) hb) (Kd.R_base ho1)) (Kd.R_base ho2)) (Kd.R_base ho3)) (fun _ h_ => h_.1)); have n1_ := Am (Kd.S_lower (Kd.S_new' ho0 (Kd.R_lt (Rk HO152.out))) (below_size Bw)); have n2_ := Am (Kd.R_lower (Kd.R_new' ho1 (Kd.R_lt (Rk HO152.out))) (below_size Bw)); have n3_ := Am (Kd.R_lower (Kd.R_new' ho2 (Kd.R_lt (Rk HO152.out))) (below_size Bw)); have n4_ := Am (Kd.R_lower (Kd.R_new' ho3 (Kd.R_lt (Rk HO152.out))) (below_size Bw)); have n5_ := Bb BK149 hb; have n6_ := Bs hb; clear HO152; clear BK149; clear HB; have HO152 := n0_; have HO155 := n1_; have HO158 := n2_; have HO161 := n3_; have HO164 := n4_; have BK149 := n5_; have HB := n6_; clear n0_ n1_ n2_ n3_ n4_ n5_ n6_; (try clear hb); (try clear hb2); (try clear hk); (try clear hi); (try clear ho0); (try clear ho1); (try clear ho2); (try clear ho3)) | ((with_reducible refine gate_dst (N := 5) rfl ?_); refine boxE 25 5 (cs := #[.slice none 0 0, .slice none 0 0, .slice none 0 0, .slice none 0 0, .int .i64 0]) ?_; intro gb167 hg w26 hbox hb; have n0_ := Am (Kd.R_below (Rk HO152.out) hb); have n1_ := Am (Kd.S_below (Sk HO155.out) hb); have n2_ := Am (Kd.R_below (Rk HO158.out) hb); have n3_ := Am (Kd.R_below (Rk HO161.out) hb); have n4_ := Am (Kd.R_below (Rk HO164.out) hb); have n5_ := Bb BK149 hb; have n6_ := Bs hb; have n7_ := Am (hbox); have n8_ := Am (Gg hg); have n9_ := Am (Gg hg); have n10_ := Nl hg BK149; have n11_ := Ng hg BK149; clear HO152; clear HO155; clear HO158; clear HO161; clear HO164; clear BK149; clear HB; have HO152 := n0_; have HO155 := n1_; have HO158 := n2_; have HO161 := n3_; have HO164 := n4_; have BK149 := n5_; have HB := n6_; have BK167 := n7_; have GW167 := n8_; have GE167 := n9_; have NB149_167 := n10_; have NB167_149 := n11_; clear n0_ n1_ n2_ n3_ n4_ n5_ n6_ n7_ n8_ n9_ n10_ n11_; clear hb hbox hg; obtain ⟨Ao27, co27, eo27⟩ := Kd.S_slice HO155.out; subst eo27; have hnb28 := NB167_149.out; have hnc28 := NB149_167.out; obtain ⟨Z29_0, Z29_1, Z29_2, Z29_3, Z29_4, Y29_0, Y29_1, Y29_2, Y29_3, Y29_4⟩ := cells5 BK167; obtain ⟨Ao30, co30, eo30⟩ := Kd.R_slice HO158.out; subst eo30; obtain ⟨Ao31, co31, eo31⟩ := Kd.R_slice HO161.out; subst eo31; obtain ⟨Ao32, co32, eo32⟩ := Kd.R_slice HO164.out; subst eo32) | ((with_reducible refine gate_callee (f := 11) rfl ?_); refine goL (some 23) Tryd.func11 #[.agg #[.slice Ao27 t153.length co27, .slice Ao30 t156.length co30, .slice Ao31 t159.length co31, .slice Ao32 t162.length co32, .int .i64 t165]] ?_; (with_reducible refine (p_Check.calls k _ _ t153 _ _ t156 _ _ t159 _ _ t162 t165 t168 _ ?side1 ?side2 ?side3 ?side4 ?side5 ?side6 ?side7 ?side8 A20.out).mono ?_); (case side1 => refine (Kd.S_reads' (e := 53) (base := w.heap.size) (ok := fun k_ => ((some k_ ≠ (.slice Ao30 t156.length co30 : Value).ownBlock ∧ (some k_ ≠ (.slice Ao31 t159.length co31 : Value).ownBlock ∧ some k_ ≠ (.slice Ao32 t162.length co32 : Value).ownBlock)) ∧ some k_ ≠ (.slice Ao24 t150.length co24 : Value).ownBlock)) (n := t153.length) (c := co27) ?_).2.2; exact (Sk (Kd.S_mono (Kd.S_far (p := ⟨gb167, 4, none⟩) (Kd.S_far (p := ⟨gb167, 3, none⟩) (Kd.S_far (p := ⟨gb167, 2, none⟩) (Kd.S_far (p := ⟨gb167, 1, none⟩) (Kd.S_far (p := ⟨gb167, 0, none⟩) (Kd.S_types HO155.out BK167.out (by decide)) (fun _ hk => hk.2) (.slice Ao27 t153.length co27)) (fun _ hk => hk.2) (.slice Ao30 t156.length co30)) (fun _ hk => hk.2) (.slice Ao31 t159.length co31)) (fun _ hk => hk.2) (.slice Ao32 t162.length co32)) (fun _ hk => hk.2) (.int .i64 t165)) (fun _ h_ => h_.1)))); (case side2 => exact (Kd.S_reads' HO155.out).2.1); (case side3 => refine (Kd.R_reads' (e := 9) (base := w.heap.size) (ok := fun k_ => ((some k_ ≠ (.slice Ao31 t159.length co31 : Value).ownBlock ∧ some k_ ≠ (.slice Ao32 t162.length co32 : Value).ownBlock) ∧ some k_ ≠ (.slice Ao24 t150.length co24 : Value).ownBlock)) (n := t156.length) (c := co30) ?_).2.2; exact (Rk (Kd.R_mono (Kd.R_far (p := ⟨gb167, 4, none⟩) (Kd.R_far (p := ⟨gb167, 3, none⟩) (Kd.R_far (p := ⟨gb167, 2, none⟩) (Kd.R_far (p := ⟨gb167, 1, none⟩) (Kd.R_far (p := ⟨gb167, 0, none⟩) (Kd.R_types HO158.out BK167.out (by decide)) (fun _ hk => hk.2) (.slice Ao27 t153.length co27)) (fun _ hk => hk.2) (.slice Ao30 t156.length co30)) (fun _ hk => hk.2) (.slice Ao31 t159.length co31)) (fun _ hk => hk.2) (.slice Ao32 t162.length co32)) (fun _ hk => hk.2) (.int .i64 t165)) (fun _ h_ => h_.1)))); (case side4 => exact (Kd.R_reads' HO158.out).2.1); (case side5 => refine (Kd.R_reads' (e := 9) (base := w.heap.size) (ok := fun k_ => ((some k_ ≠ (.slice Ao30 t156.length co30 : Value).ownBlock ∧ some k_ ≠ (.slice Ao32 t162.length co32 : Value).ownBlock) ∧ some k_ ≠ (.slice Ao24 t150.length co24 : Value).ownBlock)) (n := t159.length) (c := co31) ?_).2.2; exact (Rk (Kd.R_mono (Kd.R_far (p := ⟨gb167, 4, none⟩) (Kd.R_far (p := ⟨gb167, 3, none⟩) (Kd.R_far (p := ⟨gb167, 2, none⟩) (Kd.R_far (p := ⟨gb167, 1, none⟩) (Kd.R_far (p := ⟨gb167, 0, none⟩) (Kd.R_types HO161.out BK167.out (by decide)) (fun _ hk => hk.2) (.slice Ao27 t153.length co27)) (fun _ hk => hk.2) (.slice Ao30 t156.length co30)) (fun _ hk => hk.2) (.slice Ao31 t159.length co31)) (fun _ hk => hk.2) (.slice Ao32 t162.length co32)) (fun _ hk => hk.2) (.int .i64 t165)) (fun _ h_ => h_.1)))); (case side6 => exact (Kd.R_reads' HO161.out).2.1); (case side7 => refine (Kd.R_reads' (e := 9) (base := w.heap.size) (ok := fun k_ => ((some k_ ≠ (.slice Ao30 t156.length co30 : Value).ownBlock ∧ some k_ ≠ (.slice Ao31 t159.length co31 : Value).ownBlock) ∧ some k_ ≠ (.slice Ao24 t150.length co24 : Value).ownBlock)) (n := t162.length) (c := co32) ?_).2.2; exact (Rk (Kd.R_mono (Kd.R_far (p := ⟨gb167, 4, none⟩) (Kd.R_far (p := ⟨gb167, 3, none⟩) (Kd.R_far (p := ⟨gb167, 2, none⟩) (Kd.R_far (p := ⟨gb167, 1, none⟩) (Kd.R_far (p := ⟨gb167, 0, none⟩) (Kd.R_types HO164.out BK167.out (by decide)) (fun _ hk => hk.2) (.slice Ao27 t153.length co27)) (fun _ hk => hk.2) (.slice Ao30 t156.length co30)) (fun _ hk => hk.2) (.slice Ao31 t159.length co31)) (fun _ hk => hk.2) (.slice Ao32 t162.length co32)) (fun _ hk => hk.2) (.int .i64 t165)) (fun _ h_ => h_.1)))); (case side8 => exact (Kd.R_reads' HO164.out).2.1); rintro e w33 ⟨rfl, hb⟩; refine ⟨_, rfl, ?_⟩; have n0_ := Am (Kd.R_below (Rk (Kd.R_mono (Kd.R_far (p := ⟨gb167, 4, none⟩) (Kd.R_far (p := ⟨gb167, 3, none⟩) (Kd.R_far (p := ⟨gb167, 2, none⟩) (Kd.R_far (p := ⟨gb167, 1, none⟩) (Kd.R_far (p := ⟨gb167, 0, none⟩) (Kd.R_types HO152.out BK167.out (by decide)) (fun _ hk => hk.2) (.slice Ao27 t153.length co27)) (fun _ hk => hk.2) (.slice Ao30 t156.length co30)) (fun _ hk => hk.2) (.slice Ao31 t159.length co31)) (fun _ hk => hk.2) (.slice Ao32 t162.length co32)) (fun _ hk => hk.2) (.int .i64 t165)) (fun _ h_ => h_.1))) hb); have n1_ := Am (Kd.S_below (Sk (Kd.S_mono (Kd.S_far (p := ⟨gb167, 4, none⟩) (Kd.S_far (p := ⟨gb167, 3, none⟩) (Kd.S_far (p := ⟨gb167, 2, none⟩) (Kd.S_far (p := ⟨gb167, 1, none⟩) (Kd.S_far (p := ⟨gb167, 0, none⟩) (Kd.S_types HO155.out BK167.out (by decide)) (fun _ hk => hk.2) (.slice Ao27 t153.length co27)) (fun _ hk => hk.2) (.slice Ao30 t156.length co30)) (fun _ hk => hk.2) (.slice Ao31 t159.length co31)) (fun _ hk => hk.2) (.slice Ao32 t162.length co32)) (fun _ hk => hk.2) (.int .i64 t165)) (fun _ h_ => h_.1))) hb); have n2_ := Am (Kd.R_below (Rk (Kd.R_mono (Kd.R_far (p := ⟨gb167, 4, none⟩) (Kd.R_far (p := ⟨gb167, 3, none⟩) (Kd.R_far (p := ⟨gb167, 2, none⟩) (Kd.R_far (p := ⟨gb167, 1, none⟩) (Kd.R_far (p := ⟨gb167, 0, none⟩) (Kd.R_types HO158.out BK167.out (by decide)) (fun _ hk => hk.2) (.slice Ao27 t153.length co27)) (fun _ hk => hk.2) (.slice Ao30 t156.length co30)) (fun _ hk => hk.2) (.slice Ao31 t159.length co31)) (fun _ hk => hk.2) (.slice Ao32 t162.length co32)) (fun _ hk => hk.2) (.int .i64 t165)) (fun _ h_ => h_.1))) hb); have n3_ := Am (Kd.R_below (Rk (Kd.R_mono (Kd.R_far (p := ⟨gb167, 4, none⟩) (Kd.R_far (p := ⟨gb167, 3, none⟩) (Kd.R_far (p := ⟨gb167, 2, none⟩) (Kd.R_far (p := ⟨gb167, 1, none⟩) (Kd.R_far (p := ⟨gb167, 0, none⟩) (Kd.R_types HO161.out BK167.out (by decide)) (fun _ hk => hk.2) (.slice Ao27 t153.length co27)) (fun _ hk => hk.2) (.slice Ao30 t156.length co30)) (fun _ hk => hk.2) (.slice Ao31 t159.length co31)) (fun _ hk => hk.2) (.slice Ao32 t162.length co32)) (fun _ hk => hk.2) (.int .i64 t165)) (fun _ h_ => h_.1))) hb); have n4_ := Am (Kd.R_below (Rk (Kd.R_mono (Kd.R_far (p := ⟨gb167, 4, none⟩) (Kd.R_far (p := ⟨gb167, 3, none⟩) (Kd.R_far (p := ⟨gb167, 2, none⟩) (Kd.R_far (p := ⟨gb167, 1, none⟩) (Kd.R_far (p := ⟨gb167, 0, none⟩) (Kd.R_types HO164.out BK167.out (by decide)) (fun _ hk => hk.2) (.slice Ao27 t153.length co27)) (fun _ hk => hk.2) (.slice Ao30 t156.length co30)) (fun _ hk => hk.2) (.slice Ao31 t159.length co31)) (fun _ hk => hk.2) (.slice Ao32 t162.length co32)) (fun _ hk => hk.2) (.int .i64 t165)) (fun _ h_ => h_.1))) hb); have n5_ := Am (blk_below (g := gb149) (o := .cells #[.slice none 0 0, .slice none 0 0, .slice none 0 0, .slice none 0 0, .int .i64 0] 25 (0, 0)) (Bf BK149) hb); have n6_ := Am (blk_below (g := gb167) (o := .cells #[.slice Ao27 t153.length co27, .slice Ao30 t156.length co30, .slice Ao31 t159.length co31, .slice Ao32 t162.length co32, .int .i64 t165] 25 (0, 0)) (Bp BK167) hb); have n7_ := Bs hb; clear HO152; clear HO155; clear HO158; clear HO161; clear HO164; clear BK149; clear BK167; clear HB; have HO152 := n0_; have HO155 := n1_; have HO158 := n2_; have HO161 := n3_; have HO164 := n4_; have BK149 := n5_; have BK167 := n6_; have HB := n7_; clear n0_ n1_ n2_ n3_ n4_ n5_ n6_ n7_; (try clear hb); (try clear hb2); (try clear hk); (try clear hi); obtain ⟨Z34_0, Z34_1, Z34_2, Z34_3, Z34_4, Y34_0, Y34_1, Y34_2, Y34_3, Y34_4⟩ := cells5 BK167; obtain ⟨Z35_0, Z35_1, Z35_2, Z35_3, Z35_4, Y35_0, Y35_1, Y35_2, Y35_3, Y35_4⟩ := cells5 BK149))
  refine bodyPost_ret (results_ctt rfl _ _ gb149 25 #[.slice Ao27 t153.length co27, .slice Ao30 t156.length co30, .slice Ao31 t159.length co31, .slice Ao32 t162.length co32, .int .i64 t165] (0, 0) _ rfl (Bp BK149) Tryd.underlying25 rfl (by kernel_rfl)) rfl ?_;exact ⟨_, _, _, _, Re, by (with_reducible repeat (first | apply Kd.S_alloc | apply Kd.S_drewN | apply Kd.S_drew)); exact Kd.S_mono (Kd.S_far (p := ⟨gb149, 4, none⟩) (Kd.S_far (p := ⟨gb149, 3, none⟩) (Kd.S_far (p := ⟨gb149, 2, none⟩) (Kd.S_far (p := ⟨gb149, 1, none⟩) (Kd.S_far (p := ⟨gb149, 0, none⟩) (Kd.S_types HO155.out BK149.out (by decide)) (fun _ hk => hk.2) (.slice Ao27 t153.length co27)) (fun _ hk => hk.2) (.slice Ao30 t156.length co30)) (fun _ hk => hk.2) (.slice Ao31 t159.length co31)) (fun _ hk => hk.2) (.slice Ao32 t162.length co32)) (fun _ hk => hk.2) (.int .i64 t165)) (fun _ hk => ⟨hk.1.1.1, ⟨hk.1.1.2.1, hk.1.1.2.2⟩⟩), by (with_reducible repeat (first | apply Kd.R_alloc | apply Kd.R_drewN | apply Kd.R_drew)); exact Kd.R_mono (Kd.R_far (p := ⟨gb149, 4, none⟩) (Kd.R_far (p := ⟨gb149, 3, none⟩) (Kd.R_far (p := ⟨gb149, 2, none⟩) (Kd.R_far (p := ⟨gb149, 1, none⟩) (Kd.R_far (p := ⟨gb149, 0, none⟩) (Kd.R_types HO158.out BK149.out (by decide)) (fun _ hk => hk.2) (.slice Ao27 t153.length co27)) (fun _ hk => hk.2) (.slice Ao30 t156.length co30)) (fun _ hk => hk.2) (.slice Ao31 t159.length co31)) (fun _ hk => hk.2) (.slice Ao32 t162.length co32)) (fun _ hk => hk.2) (.int .i64 t165)) (fun _ hk => ⟨hk.1.1.1, hk.1.1.2⟩), by (with_reducible repeat (first | apply Kd.R_alloc | apply Kd.R_drewN | apply Kd.R_drew)); exact Kd.R_mono (Kd.R_far (p := ⟨gb149, 4, none⟩) (Kd.R_far (p := ⟨gb149, 3, none⟩) (Kd.R_far (p := ⟨gb149, 2, none⟩) (Kd.R_far (p := ⟨gb149, 1, none⟩) (Kd.R_far (p := ⟨gb149, 0, none⟩) (Kd.R_types HO161.out BK149.out (by decide)) (fun _ hk => hk.2) (.slice Ao27 t153.length co27)) (fun _ hk => hk.2) (.slice Ao30 t156.length co30)) (fun _ hk => hk.2) (.slice Ao31 t159.length co31)) (fun _ hk => hk.2) (.slice Ao32 t162.length co32)) (fun _ hk => hk.2) (.int .i64 t165)) (fun _ hk => ⟨hk.1.1.1, hk.1.1.2⟩), by (with_reducible repeat (first | apply Kd.R_alloc | apply Kd.R_drewN | apply Kd.R_drew)); exact Kd.R_mono (Kd.R_far (p := ⟨gb149, 4, none⟩) (Kd.R_far (p := ⟨gb149, 3, none⟩) (Kd.R_far (p := ⟨gb149, 2, none⟩) (Kd.R_far (p := ⟨gb149, 1, none⟩) (Kd.R_far (p := ⟨gb149, 0, none⟩) (Kd.R_types HO164.out BK149.out (by decide)) (fun _ hk => hk.2) (.slice Ao27 t153.length co27)) (fun _ hk => hk.2) (.slice Ao30 t156.length co30)) (fun _ hk => hk.2) (.slice Ao31 t159.length co31)) (fun _ hk => hk.2) (.slice Ao32 t162.length co32)) (fun _ hk => hk.2) (.int .i64 t165)) (fun _ hk => ⟨hk.1.1.1, hk.1.1.2⟩), Bw⟩
 rw [if_neg c21] at H;obtain ⟨c21b0, c21b1⟩ := neb c21;simp only [Option.some.injEq, Prod.mk.injEq] at H;obtain ⟨rfl, rfl, rfl, rfl, rfl, rfl, rfl⟩ := H;go_enter Tryd.func13, Tryd.ntmps13;go_wp2_with (first | ((with_reducible refine gate_dst (N := 2) rfl ?_); refine box5 25 2 (cs := #[.slice none 0 0, .slice none 0 0, .slice none 0 0, .slice none 0 0, .int .i64 0]) ?_; clear HB; intro gb149 w36 HB BK149 GE149) | ((with_reducible refine gate_callee (f := 37) rfl ?_); refine goL (some 14) Tryd.func37 #[.string a0, .string (⟨#[10]⟩ : ByteArray)] ?_; (with_reducible refine (strings_Split.calls a0 (⟨#[10]⟩ : ByteArray) t150 _ m_ ?hmS A5.out).mono ?_); (case hmS => exact (pw_cell_below Bw HM.out)); rintro e w37 ⟨v151, rfl, ho0, hb⟩; refine ⟨_, rfl, ?_⟩; replace HO152 := Am (Kd.R_lower ho0 (below_size Bw)); replace BK149 := Bb BK149 hb; replace HB := Bs hb; (try clear hb); (try clear hb2); (try clear hk); (try clear hi); (try clear ho0); obtain ⟨Ao38, co38, eo38⟩ := Kd.R_slice HO152.out; subst eo38) | ((with_reducible refine gate_callee (f := 36) rfl ?_); refine goL (some 15) Tryd.func36 #[.slice Ao38 t150.length co38] ?_; (with_reducible refine (p_read.calls _ _ t150 t153 t156 t159 t162 t165 t166 _ ?side1 ?side2 m_ ?hmS A6.out).mono ?_); (case hmS => exact (pw_cell_below Bw HM.out)); (case side1 => repeat (first | exact (Kd.R_reads' HO152.out).2.2 | (with_reducible refine Kd.C_alloc ?_ _) | (with_reducible refine Kd.C_drewN ?_ _) | (with_reducible refine Kd.C_drew ?_))); (case side2 => exact (Kd.R_reads' HO152.out).2.1); rintro e w39 ⟨v154, v157, v160, v163, rfl, ho0, ho1, ho2, ho3, hb⟩; refine ⟨_, rfl, ?_⟩; have n0_ := Am (Kd.R_mono (Kd.R_told (Kd.R_told (Kd.R_told (Kd.R_old (Rk HO152.out) hb) (Kd.R_base ho1)) (Kd.R_base ho2)) (Kd.R_base ho3)) (fun _ h_ => h_.1)); have n1_ := Am (Kd.S_lower (Kd.S_new' ho0 (Kd.R_lt (Rk HO152.out))) (below_size Bw)); have n2_ := Am (Kd.R_lower (Kd.R_new' ho1 (Kd.R_lt (Rk HO152.out))) (below_size Bw)); have n3_ := Am (Kd.R_lower (Kd.R_new' ho2 (Kd.R_lt (Rk HO152.out))) (below_size Bw)); have n4_ := Am (Kd.R_lower (Kd.R_new' ho3 (Kd.R_lt (Rk HO152.out))) (below_size Bw)); have n5_ := Bb BK149 hb; have n6_ := Bs hb; clear HO152; clear BK149; clear HB; have HO152 := n0_; have HO155 := n1_; have HO158 := n2_; have HO161 := n3_; have HO164 := n4_; have BK149 := n5_; have HB := n6_; clear n0_ n1_ n2_ n3_ n4_ n5_ n6_; (try clear hb); (try clear hb2); (try clear hk); (try clear hi); (try clear ho0); (try clear ho1); (try clear ho2); (try clear ho3)) | ((with_reducible refine gate_dst (N := 5) rfl ?_); refine boxE 25 5 (cs := #[.slice none 0 0, .slice none 0 0, .slice none 0 0, .slice none 0 0, .int .i64 0]) ?_; intro gb167 hg w40 hbox hb; have n0_ := Am (Kd.R_below (Rk HO152.out) hb); have n1_ := Am (Kd.S_below (Sk HO155.out) hb); have n2_ := Am (Kd.R_below (Rk HO158.out) hb); have n3_ := Am (Kd.R_below (Rk HO161.out) hb); have n4_ := Am (Kd.R_below (Rk HO164.out) hb); have n5_ := Bb BK149 hb; have n6_ := Bs hb; have n7_ := Am (hbox); have n8_ := Am (Gg hg); have n9_ := Am (Gg hg); have n10_ := Nl hg BK149; have n11_ := Ng hg BK149; clear HO152; clear HO155; clear HO158; clear HO161; clear HO164; clear BK149; clear HB; have HO152 := n0_; have HO155 := n1_; have HO158 := n2_; have HO161 := n3_; have HO164 := n4_; have BK149 := n5_; have HB := n6_; have BK167 := n7_; have GW167 := n8_; have GE167 := n9_; have NB149_167 := n10_; have NB167_149 := n11_; clear n0_ n1_ n2_ n3_ n4_ n5_ n6_ n7_ n8_ n9_ n10_ n11_; clear hb hbox hg; obtain ⟨Ao41, co41, eo41⟩ := Kd.S_slice HO155.out; subst eo41; have hnb42 := NB167_149.out; have hnc42 := NB149_167.out; obtain ⟨Z43_0, Z43_1, Z43_2, Z43_3, Z43_4, Y43_0, Y43_1, Y43_2, Y43_3, Y43_4⟩ := cells5 BK167; obtain ⟨Ao44, co44, eo44⟩ := Kd.R_slice HO158.out; subst eo44; obtain ⟨Ao45, co45, eo45⟩ := Kd.R_slice HO161.out; subst eo45; obtain ⟨Ao46, co46, eo46⟩ := Kd.R_slice HO164.out; subst eo46) | ((with_reducible refine gate_callee (f := 11) rfl ?_); refine goL (some 23) Tryd.func11 #[.agg #[.slice Ao41 t153.length co41, .slice Ao44 t156.length co44, .slice Ao45 t159.length co45, .slice Ao46 t162.length co46, .int .i64 t165]] ?_; (with_reducible refine (p_Check.calls k _ _ t153 _ _ t156 _ _ t159 _ _ t162 t165 t168 _ ?side1 ?side2 ?side3 ?side4 ?side5 ?side6 ?side7 ?side8 A20.out).mono ?_); (case side1 => refine (Kd.S_reads' (e := 53) (base := w.heap.size) (ok := fun k_ => ((some k_ ≠ (.slice Ao44 t156.length co44 : Value).ownBlock ∧ (some k_ ≠ (.slice Ao45 t159.length co45 : Value).ownBlock ∧ some k_ ≠ (.slice Ao46 t162.length co46 : Value).ownBlock)) ∧ some k_ ≠ (.slice Ao38 t150.length co38 : Value).ownBlock)) (n := t153.length) (c := co41) ?_).2.2; exact (Sk (Kd.S_mono (Kd.S_far (p := ⟨gb167, 4, none⟩) (Kd.S_far (p := ⟨gb167, 3, none⟩) (Kd.S_far (p := ⟨gb167, 2, none⟩) (Kd.S_far (p := ⟨gb167, 1, none⟩) (Kd.S_far (p := ⟨gb167, 0, none⟩) (Kd.S_types HO155.out BK167.out (by decide)) (fun _ hk => hk.2) (.slice Ao41 t153.length co41)) (fun _ hk => hk.2) (.slice Ao44 t156.length co44)) (fun _ hk => hk.2) (.slice Ao45 t159.length co45)) (fun _ hk => hk.2) (.slice Ao46 t162.length co46)) (fun _ hk => hk.2) (.int .i64 t165)) (fun _ h_ => h_.1)))); (case side2 => exact (Kd.S_reads' HO155.out).2.1); (case side3 => refine (Kd.R_reads' (e := 9) (base := w.heap.size) (ok := fun k_ => ((some k_ ≠ (.slice Ao45 t159.length co45 : Value).ownBlock ∧ some k_ ≠ (.slice Ao46 t162.length co46 : Value).ownBlock) ∧ some k_ ≠ (.slice Ao38 t150.length co38 : Value).ownBlock)) (n := t156.length) (c := co44) ?_).2.2; exact (Rk (Kd.R_mono (Kd.R_far (p := ⟨gb167, 4, none⟩) (Kd.R_far (p := ⟨gb167, 3, none⟩) (Kd.R_far (p := ⟨gb167, 2, none⟩) (Kd.R_far (p := ⟨gb167, 1, none⟩) (Kd.R_far (p := ⟨gb167, 0, none⟩) (Kd.R_types HO158.out BK167.out (by decide)) (fun _ hk => hk.2) (.slice Ao41 t153.length co41)) (fun _ hk => hk.2) (.slice Ao44 t156.length co44)) (fun _ hk => hk.2) (.slice Ao45 t159.length co45)) (fun _ hk => hk.2) (.slice Ao46 t162.length co46)) (fun _ hk => hk.2) (.int .i64 t165)) (fun _ h_ => h_.1)))); (case side4 => exact (Kd.R_reads' HO158.out).2.1); (case side5 => refine (Kd.R_reads' (e := 9) (base := w.heap.size) (ok := fun k_ => ((some k_ ≠ (.slice Ao44 t156.length co44 : Value).ownBlock ∧ some k_ ≠ (.slice Ao46 t162.length co46 : Value).ownBlock) ∧ some k_ ≠ (.slice Ao38 t150.length co38 : Value).ownBlock)) (n := t159.length) (c := co45) ?_).2.2; exact (Rk (Kd.R_mono (Kd.R_far (p := ⟨gb167, 4, none⟩) (Kd.R_far (p := ⟨gb167, 3, none⟩) (Kd.R_far (p := ⟨gb167, 2, none⟩) (Kd.R_far (p := ⟨gb167, 1, none⟩) (Kd.R_far (p := ⟨gb167, 0, none⟩) (Kd.R_types HO161.out BK167.out (by decide)) (fun _ hk => hk.2) (.slice Ao41 t153.length co41)) (fun _ hk => hk.2) (.slice Ao44 t156.length co44)) (fun _ hk => hk.2) (.slice Ao45 t159.length co45)) (fun _ hk => hk.2) (.slice Ao46 t162.length co46)) (fun _ hk => hk.2) (.int .i64 t165)) (fun _ h_ => h_.1)))); (case side6 => exact (Kd.R_reads' HO161.out).2.1); (case side7 => refine (Kd.R_reads' (e := 9) (base := w.heap.size) (ok := fun k_ => ((some k_ ≠ (.slice Ao44 t156.length co44 : Value).ownBlock ∧ some k_ ≠ (.slice Ao45 t159.length co45 : Value).ownBlock) ∧ some k_ ≠ (.slice Ao38 t150.length co38 : Value).ownBlock)) (n := t162.length) (c := co46) ?_).2.2; exact (Rk (Kd.R_mono (Kd.R_far (p := ⟨gb167, 4, none⟩) (Kd.R_far (p := ⟨gb167, 3, none⟩) (Kd.R_far (p := ⟨gb167, 2, none⟩) (Kd.R_far (p := ⟨gb167, 1, none⟩) (Kd.R_far (p := ⟨gb167, 0, none⟩) (Kd.R_types HO164.out BK167.out (by decide)) (fun _ hk => hk.2) (.slice Ao41 t153.length co41)) (fun _ hk => hk.2) (.slice Ao44 t156.length co44)) (fun _ hk => hk.2) (.slice Ao45 t159.length co45)) (fun _ hk => hk.2) (.slice Ao46 t162.length co46)) (fun _ hk => hk.2) (.int .i64 t165)) (fun _ h_ => h_.1)))); (case side8 => exact (Kd.R_reads' HO164.out).2.1); rintro e w47 ⟨rfl, hb⟩; refine ⟨_, rfl, ?_⟩; have n0_ := Am (Kd.R_below (Rk (Kd.R_mono (Kd.R_far (p := ⟨gb167, 4, none⟩) (Kd.R_far (p := ⟨gb167, 3, none⟩) (Kd.R_far (p := ⟨gb167, 2, none⟩) (Kd.R_far (p := ⟨gb167, 1, none⟩) (Kd.R_far (p := ⟨gb167, 0, none⟩) (Kd.R_types HO152.out BK167.out (by decide)) (fun _ hk => hk.2) (.slice Ao41 t153.length co41)) (fun _ hk => hk.2) (.slice Ao44 t156.length co44)) (fun _ hk => hk.2) (.slice Ao45 t159.length co45)) (fun _ hk => hk.2) (.slice Ao46 t162.length co46)) (fun _ hk => hk.2) (.int .i64 t165)) (fun _ h_ => h_.1))) hb); have n1_ := Am (Kd.S_below (Sk (Kd.S_mono (Kd.S_far (p := ⟨gb167, 4, none⟩) (Kd.S_far (p := ⟨gb167, 3, none⟩) (Kd.S_far (p := ⟨gb167, 2, none⟩) (Kd.S_far (p := ⟨gb167, 1, none⟩) (Kd.S_far (p := ⟨gb167, 0, none⟩) (Kd.S_types HO155.out BK167.out (by decide)) (fun _ hk => hk.2) (.slice Ao41 t153.length co41)) (fun _ hk => hk.2) (.slice Ao44 t156.length co44)) (fun _ hk => hk.2) (.slice Ao45 t159.length co45)) (fun _ hk => hk.2) (.slice Ao46 t162.length co46)) (fun _ hk => hk.2) (.int .i64 t165)) (fun _ h_ => h_.1))) hb); have n2_ := Am (Kd.R_below (Rk (Kd.R_mono (Kd.R_far (p := ⟨gb167, 4, none⟩) (Kd.R_far (p := ⟨gb167, 3, none⟩) (Kd.R_far (p := ⟨gb167, 2, none⟩) (Kd.R_far (p := ⟨gb167, 1, none⟩) (Kd.R_far (p := ⟨gb167, 0, none⟩) (Kd.R_types HO158.out BK167.out (by decide)) (fun _ hk => hk.2) (.slice Ao41 t153.length co41)) (fun _ hk => hk.2) (.slice Ao44 t156.length co44)) (fun _ hk => hk.2) (.slice Ao45 t159.length co45)) (fun _ hk => hk.2) (.slice Ao46 t162.length co46)) (fun _ hk => hk.2) (.int .i64 t165)) (fun _ h_ => h_.1))) hb); have n3_ := Am (Kd.R_below (Rk (Kd.R_mono (Kd.R_far (p := ⟨gb167, 4, none⟩) (Kd.R_far (p := ⟨gb167, 3, none⟩) (Kd.R_far (p := ⟨gb167, 2, none⟩) (Kd.R_far (p := ⟨gb167, 1, none⟩) (Kd.R_far (p := ⟨gb167, 0, none⟩) (Kd.R_types HO161.out BK167.out (by decide)) (fun _ hk => hk.2) (.slice Ao41 t153.length co41)) (fun _ hk => hk.2) (.slice Ao44 t156.length co44)) (fun _ hk => hk.2) (.slice Ao45 t159.length co45)) (fun _ hk => hk.2) (.slice Ao46 t162.length co46)) (fun _ hk => hk.2) (.int .i64 t165)) (fun _ h_ => h_.1))) hb); have n4_ := Am (Kd.R_below (Rk (Kd.R_mono (Kd.R_far (p := ⟨gb167, 4, none⟩) (Kd.R_far (p := ⟨gb167, 3, none⟩) (Kd.R_far (p := ⟨gb167, 2, none⟩) (Kd.R_far (p := ⟨gb167, 1, none⟩) (Kd.R_far (p := ⟨gb167, 0, none⟩) (Kd.R_types HO164.out BK167.out (by decide)) (fun _ hk => hk.2) (.slice Ao41 t153.length co41)) (fun _ hk => hk.2) (.slice Ao44 t156.length co44)) (fun _ hk => hk.2) (.slice Ao45 t159.length co45)) (fun _ hk => hk.2) (.slice Ao46 t162.length co46)) (fun _ hk => hk.2) (.int .i64 t165)) (fun _ h_ => h_.1))) hb); have n5_ := Am (blk_below (g := gb149) (o := .cells #[.slice none 0 0, .slice none 0 0, .slice none 0 0, .slice none 0 0, .int .i64 0] 25 (0, 0)) (Bf BK149) hb); have n6_ := Am (blk_below (g := gb167) (o := .cells #[.slice Ao41 t153.length co41, .slice Ao44 t156.length co44, .slice Ao45 t159.length co45, .slice Ao46 t162.length co46, .int .i64 t165] 25 (0, 0)) (Bp BK167) hb); have n7_ := Bs hb; clear HO152; clear HO155; clear HO158; clear HO161; clear HO164; clear BK149; clear BK167; clear HB; have HO152 := n0_; have HO155 := n1_; have HO158 := n2_; have HO161 := n3_; have HO164 := n4_; have BK149 := n5_; have BK167 := n6_; have HB := n7_; clear n0_ n1_ n2_ n3_ n4_ n5_ n6_ n7_; (try clear hb); (try clear hb2); (try clear hk); (try clear hi); obtain ⟨Z48_0, Z48_1, Z48_2, Z48_3, Z48_4, Y48_0, Y48_1, Y48_2, Y48_3, Y48_4⟩ := cells5 BK149))
 refine bodyPost_ret (results_ctt rfl _ _ gb149 25 #[.slice none 0 0, .slice none 0 0, .slice none 0 0, .slice none 0 0, .int .i64 0] (0, 0) _ rfl (Bp BK149) Tryd.underlying25 rfl (by kernel_rfl)) rfl ?_;exact ⟨_, _, _, _, Re, by first | exact Kd.S_nil _ _ _ _ _ | exact Kd.N_nil _ _ _ _ _ | exact Kd.V_nil _ _ _ _ _ | exact Kd.Q_nil _ _ _ _ _ | exact Kd.R_nil _ _ _ _ _, by first | exact Kd.R_nil _ _ _ _ _ | exact Kd.N_nil _ _ _ _ _ | exact Kd.V_nil _ _ _ _ _ | exact Kd.Q_nil _ _ _ _ _ | exact Kd.S_nil _ _ _ _ _, by first | exact Kd.R_nil _ _ _ _ _ | exact Kd.N_nil _ _ _ _ _ | exact Kd.V_nil _ _ _ _ _ | exact Kd.Q_nil _ _ _ _ _ | exact Kd.S_nil _ _ _ _ _, by first | exact Kd.R_nil _ _ _ _ _ | exact Kd.N_nil _ _ _ _ _ | exact Kd.V_nil _ _ _ _ _ | exact Kd.Q_nil _ _ _ _ _ | exact Kd.S_nil _ _ _ _ _, Bw⟩

def p_rule.l0 : Nat → ByteArray → List (S53) → Int → Int → Option (ByteArray × List ByteArray × Bool)
  | 0, _, _, _, _ => none
  | k + 1, x1, x9, x10, x11 => if x11 < x10 then (if 0 ≤ x11 then (if x11 < (x9.length : Int) then (if ((rd_T53 x9 x11).f0).toList = x1.toList then (some ((rd_T53 x9 x11).f0, (rd_T53 x9 x11).f1, true)) else (p_rule.l0 k x1 x9 x10 (wrap64 (x11 + 1)))) else (none)) else (none)) else (some ((⟨#[]⟩ : ByteArray), ([] : List ByteArray), false))
def p_rule.f (k : Nat) (l0_0 : List (S53)) (l0_1 : List ByteArray) (l0_2 : List ByteArray) (l0_3 : List ByteArray) (a0_4 : Int) (a1 : ByteArray) : Option (ByteArray × List ByteArray × Bool) := p_rule.l0 k a1 l0_0 (l0_0.length : Int) 0
theorem p_rule.mono_l : ∀ k, (∀ y0 y1 y2 y3, LeO (p_rule.l0 k y0 y1 y2 y3) (p_rule.l0 (k + 1) y0 y1 y2 y3))
 | 0 => fun _ _ _ _ r h => by simp [p_rule.l0] at h
 | k + 1 => by
  have ih0 := p_rule.mono_l k
  ·intro y0 y1 y2 y3
   unfold p_rule.l0
   repeat' first
   | (with_reducible exact ih0 _ _ _ _)
   | (with_reducible exact LeO.refl _)
   | (with_reducible exact LeO.none _)
   | (with_reducible refine LeO.ite ?_ ?_)
   | (with_reducible refine LeO.bind ?_ (fun _ => ?_))
theorem p_rule.mono : ∀ a0 a1 a2 a3 a4 a5 k, LeO (p_rule.f k a0 a1 a2 a3 a4 a5) (p_rule.f (k + 1) a0 a1 a2 a3 a4 a5) := by
 intro a0 a1 a2 a3 a4 a5 k;have ih0 := p_rule.mono_l k;unfold p_rule.f
 repeat' first
   | (with_reducible exact ih0 _ _ _ _)
   | (with_reducible exact LeO.refl _)
   | (with_reducible exact LeO.none _)
   | (with_reducible refine LeO.ite ?_ ?_)
   | (with_reducible refine LeO.bind ?_ (fun _ => ?_))
theorem p_rule.calls (k : Nat) (P0_0_ : Nat → Prop) (A0_0 : Option Addr) (c0_0 : Nat) (l0_0 : List (S53)) (A0_1 : Option Addr) (c0_1 : Nat) (l0_1 : List ByteArray) (A0_2 : Option Addr) (c0_2 : Nat) (l0_2 : List ByteArray) (A0_3 : Option Addr) (c0_3 : Nat) (l0_3 : List ByteArray) (a0_4 : Int) (a1 : ByteArray) (r1 : ByteArray) (r2 : List ByteArray) (r3 : Bool) (w : World) (hs0_0 : Kd.V k53 53 w w.heap.size (fun k_ => P0_0_ k_) (.slice A0_0 l0_0.length c0_0) l0_0) (hr0_1 : Kd.C Kd.string w A0_1 l0_1.length l0_1) (hc0_1 : l0_1.length ≤ c0_1) (hr0_2 : Kd.C Kd.string w A0_2 l0_2.length l0_2) (hc0_2 : l0_2.length ≤ c0_2) (hr0_3 : Kd.C Kd.string w A0_3 l0_3.length l0_3) (hc0_3 : l0_3.length ≤ c0_3) (h : p_rule.f k l0_0 l0_1 l0_2 l0_3 a0_4 a1 = some (r1, r2, r3)) :
  Calls Tryd.prog 40 #[.agg #[.slice A0_0 l0_0.length c0_0, .slice A0_1 l0_1.length c0_1, .slice A0_2 l0_2.length c0_2, .slice A0_3 l0_3.length c0_3, .int .i64 a0_4], .string a1] w fun e w' => ∃ v1_ : Value, e = .returned (.tuple #[.agg #[.string r1, v1_], .bool r3]) ∧ Kd.V Kd.string 9 w' w.heap.size (fun k_ => (P0_0_ k_ ∨ w.heap.size ≤ k_)) v1_ r2 ∧ Below w.heap.size w w' := by
 have hu25 := Tryd.underlying25;have hu53 := Tryd.underlying53;have HO0_0 := Am (show Kd.V k53 53 w w.heap.size (fun k_ => (P0_0_ k_ ∨ w.heap.size ≤ k_)) (.slice A0_0 l0_0.length c0_0) l0_0 from Kd.V_mono hs0_0 (fun k_ hk => .inl hk));obtain ⟨HR0_1, HC0_1, HR0_2, HC0_2⟩ := as4 hr0_1 hc0_1 hr0_2 hc0_2;clear hr0_1 hc0_1 hr0_2 hc0_2;have HR0_3 := Am hr0_3;have HC0_3 := Am hc0_3;clear hr0_3 hc0_3;have HB := Am (Below.refl w.heap.size w);have H : (p_rule.l0 k a1 l0_0 (l0_0.length : Int) 0) = some (r1, r2, r3) := h;clear h;have H' := Am H;clear H;go_enter Tryd.func40, Tryd.ntmps40;go_wp2_with (first | ((with_reducible refine gate_dst (N := 2) rfl ?_); refine boxE 25 2 (cs := #[.slice A0_0 l0_0.length c0_0, .slice A0_1 l0_1.length c0_1, .slice A0_2 l0_2.length c0_2, .slice A0_3 l0_3.length c0_3, .int .i64 a0_4]) ?_; intro gb169 hg w3 hbox hb; have n0_ := Am (Kd.V_below (Kd.V_elderB (Vk HO0_0.out) gb169 (Nat.le_of_eq hg.symm)) hb); have n1_ := Bs hb; have n2_ := Am (hbox); have n3_ := Am (Gg hg); have n4_ := Am (Gg hg); clear HO0_0; clear HB; have HO0_0 := n0_; have HB := n1_; have BK169 := n2_; have GW169 := n3_; have GE169 := n4_; clear n0_ n1_ n2_ n3_ n4_; clear hb hbox hg) | ((with_reducible refine gate_dst (N := 4) rfl ?_); refine boxE 53 4 (cs := #[.string (⟨#[]⟩ : ByteArray), .slice none 0 0]) ?_; intro gb170 hg w4 hbox hb; have n0_ := Am (Kd.V_below (Kd.V_elderB (Vk HO0_0.out) gb170 (Nat.le_of_eq hg.symm)) hb); have n1_ := Bb BK169 hb; have n2_ := Bs hb; have n3_ := Am (hbox); have n4_ := Am (Gg hg); have n5_ := Am (Gg hg); have n6_ := Nl hg BK169; have n7_ := Ng hg BK169; clear HO0_0; clear BK169; clear HB; have HO0_0 := n0_; have BK169 := n1_; have HB := n2_; have BK170 := n3_; have GW170 := n4_; have GE170 := n5_; have NB169_170 := n6_; have NB170_169 := n7_; clear n0_ n1_ n2_ n3_ n4_ n5_ n6_ n7_; clear hb hbox hg; have hnb5 := NB169_170.out; have hnc5 := NB170_169.out; obtain ⟨Z6_0, Z6_1, Z6_2, Z6_3, Z6_4, Y6_0, Y6_1, Y6_2, Y6_3, Y6_4⟩ := cells5 BK169))
 go_loopg [11] k (fun kq v11 w' => ∃ (x11_1 : Int) (x171000_1 : ByteArray), v11 = .int .i64 x11_1 ∧ Aside0 (p_rule.l0 kq a1 l0_0 (l0_0.length : Int) x11_1 = some (r1, r2, r3)) ∧ Aside0 (kq ≤ k) ∧ Aside0 (Kd.V k53 53 w' w.heap.size (fun k_ => (P0_0_ k_ ∨ w.heap.size ≤ k_) ∧ k_ ≠ gb169 ∧ k_ ≠ gb170) (.slice A0_0 l0_0.length c0_0) l0_0) ∧ Aside0 (Kd.V k53 53 w' w.heap.size (fun k_ => (P0_0_ k_ ∨ w.heap.size ≤ k_) ∧ k_ ≠ gb169 ∧ k_ ≠ gb170) (.slice A0_0 l0_0.length c0_0) l0_0) ∧ Aside0 (w'.heap[gb169]? = some (.cells #[(.slice A0_0 l0_0.length c0_0), (.slice A0_1 l0_1.length c0_1), (.slice A0_2 l0_2.length c0_2), (.slice A0_3 l0_3.length c0_3), .int .i64 a0_4] 25 (0, 0))) ∧ Aside0 (w'.heap[gb170]? = some (.cells #[.string x171000_1, (.slice none 0 0)] 53 (0, 0))) ∧ Aside0 (Below w.heap.size w w'))
 case atStart => exact ⟨(0), ((⟨#[]⟩ : ByteArray)), Rs, H', ⟨Nat.le_refl _⟩, ⟨by (with_reducible repeat (first | apply Kd.V_alloc | apply Kd.V_drewN | apply Kd.V_drew)); exact Kd.V_mono HO0_0.out (fun _ hk => ⟨hk.1.1, ⟨hk.1.2, hk.2⟩⟩)⟩, ⟨by (with_reducible repeat (first | apply Kd.V_alloc | apply Kd.V_drewN | apply Kd.V_drew)); exact Kd.V_mono HO0_0.out (fun _ hk => ⟨hk.1.1, ⟨hk.1.2, hk.2⟩⟩)⟩, ⟨(Bk BK169)⟩, ⟨(Bk BK170)⟩, ⟨Bw⟩⟩
 case round =>
  clear H';(try clear p2);(try clear c4);(try clear c5);(try clear Z6_0 Z6_1 Z6_2 Z6_3 Z6_4 Y6_0 Y6_1 Y6_2 Y6_3 Y6_4);obtain ⟨x11_1, x171000_1, rfl, HA, HK1, HO_9, HO_170000, BK169, BK170, HB⟩ := hrel
  cases gk with
  | zero => exact absurd HA.out (by simp [p_rule.l0])
  | succ k1 =>
   have H := HA.out;clear HA;simp only [p_rule.l0] at H
   by_cases c7 : x11_1 < (l0_0.length : Int)
   ·rw [if_pos c7] at H;have c7b0 : decide (x11_1 < (l0_0.length : Int)) = true := decide_eq_true c7;clear c7
    by_cases c8 : 0 ≤ x11_1
    ·rw [if_pos c8] at H;have c8b0 := decide_eq_true c8;clear c8
     by_cases c9 : x11_1 < (l0_0.length : Int)
     ·rw [if_pos c9] at H;have c9b0 := decide_eq_true c9;clear c9
      by_cases c10 : ((rd_T53 l0_0 x11_1).f0).toList = a1.toList
      ·rw [if_pos c10] at H;obtain ⟨c10b0, c10b1⟩ := eqb c10;clear c10;simp only [Option.some.injEq, Prod.mk.injEq] at H;obtain ⟨rfl, rfl, rfl⟩ := H;have p171 : 0 ≤ (x11_1 : Int) := Od;have q171 : x11_1 < (l0_0.length : Int) := Od;obtain ⟨ad171, A171_1, c171_1, e171, hx171_0, hx171_1, hl171_1, hi171_1⟩ := at_T53 (Kd.V_reads' HO_9.out).2.2 x11_1 p171 q171;cases e171;obtain ⟨ce171, hce171, hMe171, hcc171⟩ := Kd.V_get HO_9.out z53 x11_1 p171 (by first | exact q171 | exact Od | (have e_ := (Kd.V_reads' HO_9.out).1; omega));obtain ⟨ua171_1, uc171_1, rfl, ul171_1, ge171_1⟩ := k53_openF hMe171;have hv171_1 := hcc171 1 _ rfl;rw [add_field _ _ 1 (by omega)] at hv171_1;replace hv171_1 := Option.some.inj (hv171_1.symm.trans hx171_1)
       injection hv171_1 with hva_ hvn_ hvc_
       rw [hva_] at ge171_1;rw [hvc_] at ul171_1;have HL171_1 := Am (show Kd.V Kd.string 9 _ w.heap.size _ _ ((rd_T53 l0_0 x11_1).f1) from Kd.V_mk ul171_1 ge171_1);clear hva_ hvn_ hvc_ ge171_1 ul171_1;clear hcc171 hce171;have HR171_1 := Am hi171_1;have HC171_1 := Am hl171_1;clear hi171_1 hl171_1;replace p171 := eq_true p171;replace q171 := eq_true q171;go_wp2_with (first | ((with_reducible refine gate_dst (N := 7) rfl ?_); refine boxE 53 7 (cs := #[.string (⟨#[]⟩ : ByteArray), .slice none 0 0]) ?_; intro gb172 hg w11 hbox hb; have n0_ := Am (Kd.V_below (Kd.V_elderB (Vk HO_9.out) gb172 (Nat.le_of_eq hg.symm)) hb); have n1_ := Am (Kd.V_below (Kd.V_elderB (Vk HO_170000.out) gb172 (Nat.le_of_eq hg.symm)) hb); have n2_ := Am (Kd.V_below (Kd.V_elderB (Vk HL171_1.out) gb172 (Nat.le_of_eq hg.symm)) hb); have n3_ := Bb BK169 hb; have n4_ := Bb BK170 hb; have n5_ := Am (Kd.C_below (by repeat (first | (with_reducible exact HR171_1.out) | (with_reducible refine Kd.C_alloc ?_ _) | (with_reducible refine Kd.C_drewN ?_ _) | (with_reducible refine Kd.C_drew ?_) | exact HR171_1.out)) hb); have n6_ := Bs hb; have n7_ := Am (hbox); have n8_ := Am (Gg hg); have n9_ := Am (Gg hg); have n10_ := Nl hg BK169; have n11_ := Ng hg BK169; have n12_ := Nl hg BK170; have n13_ := Ng hg BK170; clear HO_9; clear HO_170000; clear HL171_1; clear BK169; clear BK170; clear HR171_1; clear HB; have HO_9 := n0_; have HO_170000 := n1_; have HL171_1 := n2_; have BK169 := n3_; have BK170 := n4_; have HR171_1 := n5_; have HB := n6_; have BK172 := n7_; have GW172 := n8_; have GE172 := n9_; have NB169_172 := n10_; have NB172_169 := n11_; have NB170_172 := n12_; have NB172_170 := n13_; clear n0_ n1_ n2_ n3_ n4_ n5_ n6_ n7_ n8_ n9_ n10_ n11_ n12_ n13_; clear hb hbox hg; have hnb12 := NB172_169.out; have hnc12 := NB169_172.out; have hnb13 := NB172_170.out; have hnc13 := NB170_172.out; obtain ⟨Z14_0, Z14_1, Y14_0, Y14_1⟩ := cells2 BK172; have hnb15 := NB170_169.out; have hnc15 := NB169_170.out; obtain ⟨Z16_0, Z16_1, Y16_0, Y16_1⟩ := cells2 BK170))
       refine bodyPost_ret (results_ct rfl _ _ gb170 53 #[.string ((rd_T53 l0_0 x11_1).f0), .slice A171_1 ((rd_T53 l0_0 x11_1).f1).length c171_1] (0, 0) _ rfl (Bp BK170) Tryd.underlying53 rfl (by kernel_rfl)) rfl ?_;exact ⟨_, Re, by (with_reducible repeat (first | apply Kd.V_alloc | apply Kd.V_drewN | apply Kd.V_drew)); exact Kd.V_mono (Kd.V_far (p := ⟨gb170, 1, none⟩) (Kd.V_far (p := ⟨gb170, 0, none⟩) (Kd.V_far (p := ⟨gb172, 1, none⟩) (Kd.V_far (p := ⟨gb172, 0, none⟩) (Kd.V_mono (Kd.V_mono HL171_1.out (fun k_ hk => (⟨hk, hk.2⟩ : _ ∧ k_ ≠ gb172))) (fun k_ hk => (⟨hk, hk.1.1.2.2⟩ : _ ∧ k_ ≠ gb170))) (fun _ hk => hk.1.2) (.string ((rd_T53 l0_0 x11_1).f0))) (fun _ hk => hk.1.2) (.slice A171_1 ((rd_T53 l0_0 x11_1).f1).length c171_1)) (fun _ hk => hk.2) (.string ((rd_T53 l0_0 x11_1).f0))) (fun _ hk => hk.2) (.slice A171_1 ((rd_T53 l0_0 x11_1).f1).length c171_1)) (fun _ hk => hk.1.1.1.1), Bw⟩
      rw [if_neg c10] at H;obtain ⟨c10b0, c10b1⟩ := neb c10;have H' := Am H;clear H;have p171 : 0 ≤ (x11_1 : Int) := Od;have q171 : x11_1 < (l0_0.length : Int) := Od;obtain ⟨ad171, A171_1, c171_1, e171, hx171_0, hx171_1, hl171_1, hi171_1⟩ := at_T53 (Kd.V_reads' HO_9.out).2.2 x11_1 p171 q171;cases e171;obtain ⟨ce171, hce171, hMe171, hcc171⟩ := Kd.V_get HO_9.out z53 x11_1 p171 (by first | exact q171 | exact Od | (have e_ := (Kd.V_reads' HO_9.out).1; omega));obtain ⟨ua171_1, uc171_1, rfl, ul171_1, ge171_1⟩ := k53_openF hMe171;have hv171_1 := hcc171 1 _ rfl;rw [add_field _ _ 1 (by omega)] at hv171_1;replace hv171_1 := Option.some.inj (hv171_1.symm.trans hx171_1)
      injection hv171_1 with hva_ hvn_ hvc_
      rw [hva_] at ge171_1;rw [hvc_] at ul171_1;have HL171_1 := Am (show Kd.V Kd.string 9 _ w.heap.size _ _ ((rd_T53 l0_0 x11_1).f1) from Kd.V_mk ul171_1 ge171_1);clear hva_ hvn_ hvc_ ge171_1 ul171_1;clear hcc171 hce171;have HR171_1 := Am hi171_1;have HC171_1 := Am hl171_1;clear hi171_1 hl171_1;replace p171 := eq_true p171;replace q171 := eq_true q171;go_wp2_with (first | ((with_reducible refine gate_dst (N := 7) rfl ?_); refine boxE 53 7 (cs := #[.string (⟨#[]⟩ : ByteArray), .slice none 0 0]) ?_; intro gb172 hg w17 hbox hb; have n0_ := Am (Kd.V_below (Kd.V_elderB (Vk HO_9.out) gb172 (Nat.le_of_eq hg.symm)) hb); have n1_ := Am (Kd.V_below (Kd.V_elderB (Vk HO_170000.out) gb172 (Nat.le_of_eq hg.symm)) hb); have n2_ := Am (Kd.V_below (Kd.V_elderB (Vk HL171_1.out) gb172 (Nat.le_of_eq hg.symm)) hb); have n3_ := Bb BK169 hb; have n4_ := Bb BK170 hb; have n5_ := Am (Kd.C_below (by repeat (first | (with_reducible exact HR171_1.out) | (with_reducible refine Kd.C_alloc ?_ _) | (with_reducible refine Kd.C_drewN ?_ _) | (with_reducible refine Kd.C_drew ?_) | exact HR171_1.out)) hb); have n6_ := Bs hb; have n7_ := Am (hbox); have n8_ := Am (Gg hg); have n9_ := Am (Gg hg); have n10_ := Nl hg BK169; have n11_ := Ng hg BK169; have n12_ := Nl hg BK170; have n13_ := Ng hg BK170; clear HO_9; clear HO_170000; clear HL171_1; clear BK169; clear BK170; clear HR171_1; clear HB; have HO_9 := n0_; have HO_170000 := n1_; have HL171_1 := n2_; have BK169 := n3_; have BK170 := n4_; have HR171_1 := n5_; have HB := n6_; have BK172 := n7_; have GW172 := n8_; have GE172 := n9_; have NB169_172 := n10_; have NB172_169 := n11_; have NB170_172 := n12_; have NB172_170 := n13_; clear n0_ n1_ n2_ n3_ n4_ n5_ n6_ n7_ n8_ n9_ n10_ n11_ n12_ n13_; clear hb hbox hg; have hnb18 := NB172_169.out; have hnc18 := NB169_172.out; have hnb19 := NB172_170.out; have hnc19 := NB170_172.out; obtain ⟨Z20_0, Z20_1, Y20_0, Y20_1⟩ := cells2 BK172));go_roundg k1
      case measure => have := HK1.out; omega
      case rel => exact ⟨(wrap64 (x11_1 + 1)), (x171000_1), Rs, H', ⟨by have := HK1.out; omega⟩, ⟨by (with_reducible repeat (first | apply Kd.V_alloc | apply Kd.V_drewN | apply Kd.V_drew)); exact Kd.V_mono (Kd.V_far (p := ⟨gb172, 1, none⟩) (Kd.V_far (p := ⟨gb172, 0, none⟩) (Kd.V_mono HO_9.out (fun k_ hk => (⟨hk, hk.2⟩ : _ ∧ k_ ≠ gb172))) (fun _ hk => hk.2) (.string ((rd_T53 l0_0 x11_1).f0))) (fun _ hk => hk.2) (.slice A171_1 ((rd_T53 l0_0 x11_1).f1).length c171_1)) (fun _ hk => ⟨hk.1.1.1, ⟨hk.1.1.2.1, hk.1.1.2.2⟩⟩)⟩, ⟨by (with_reducible repeat (first | apply Kd.V_alloc | apply Kd.V_drewN | apply Kd.V_drew)); exact Kd.V_mono (Kd.V_far (p := ⟨gb172, 1, none⟩) (Kd.V_far (p := ⟨gb172, 0, none⟩) (Kd.V_mono HO_170000.out (fun k_ hk => (⟨hk, hk.2⟩ : _ ∧ k_ ≠ gb172))) (fun _ hk => hk.2) (.string ((rd_T53 l0_0 x11_1).f0))) (fun _ hk => hk.2) (.slice A171_1 ((rd_T53 l0_0 x11_1).f1).length c171_1)) (fun _ hk => ⟨hk.1.1.1, ⟨hk.1.1.2.1, hk.1.1.2.2⟩⟩)⟩, ⟨(Bf BK169)⟩, ⟨(Bf BK170)⟩, ⟨Bw⟩⟩
     rw [if_neg c9] at H;exact absurd H (by simp)
    rw [if_neg c8] at H;exact absurd H (by simp)
   rw [if_neg c7] at H;have c7b0 : decide (x11_1 < (l0_0.length : Int)) = false := decide_eq_false c7;clear c7;simp only [Option.some.injEq, Prod.mk.injEq] at H;obtain ⟨rfl, rfl, rfl⟩ := H;have hnb21 := NB170_169.out;have hnc21 := NB169_170.out;obtain ⟨Z22_0, Z22_1, Y22_0, Y22_1⟩ := cells2 BK170;go_wp2;refine bodyPost_ret (results_ct rfl _ _ gb170 53 #[.string (⟨#[]⟩ : ByteArray), .slice none 0 0] (0, 0) _ rfl (Bp BK170) Tryd.underlying53 rfl (by kernel_rfl)) rfl ?_;exact ⟨_, Re, Kd.V_nil _ _ _ _ _, Bw⟩

def p_Element.f (k : Nat) (l0_0 : List (S53)) (l0_1 : List ByteArray) (l0_2 : List ByteArray) (l0_3 : List ByteArray) (a0_4 : Int) (a1 : ByteArray) : Option (Bool) := (p_rule.f k l0_0 l0_1 l0_2 l0_3 a0_4 a1).bind fun bt174 => (if bt174.2.2 = true then ((p_Check.f k l0_0 l0_1 l0_2 l0_3 a0_4).bind fun t180 => (some (t180 == 0))) else (some false))
theorem p_Element.mono : ∀ a0 a1 a2 a3 a4 a5 k, LeO (p_Element.f k a0 a1 a2 a3 a4 a5) (p_Element.f (k + 1) a0 a1 a2 a3 a4 a5) := by
 intro a0 a1 a2 a3 a4 a5 k;unfold p_Element.f
 repeat' first
   | (with_reducible exact p_Check.mono _ _ _ _ _ _)
   | (with_reducible exact p_rule.mono _ _ _ _ _ _ _)
   | (with_reducible exact LeO.refl _)
   | (with_reducible exact LeO.none _)
   | (with_reducible refine LeO.ite ?_ ?_)
   | (with_reducible refine LeO.bind ?_ (fun _ => ?_))
theorem p_Element.calls (k : Nat) (A0_0 : Option Addr) (c0_0 : Nat) (l0_0 : List (S53)) (A0_1 : Option Addr) (c0_1 : Nat) (l0_1 : List ByteArray) (A0_2 : Option Addr) (c0_2 : Nat) (l0_2 : List ByteArray) (A0_3 : Option Addr) (c0_3 : Nat) (l0_3 : List ByteArray) (a0_4 : Int) (a1 : ByteArray) (r : Bool) (w : World) (hr0_0 : Kd.C k53 w A0_0 l0_0.length l0_0) (hc0_0 : l0_0.length ≤ c0_0) (hr0_1 : Kd.C Kd.string w A0_1 l0_1.length l0_1) (hc0_1 : l0_1.length ≤ c0_1) (hr0_2 : Kd.C Kd.string w A0_2 l0_2.length l0_2) (hc0_2 : l0_2.length ≤ c0_2) (hr0_3 : Kd.C Kd.string w A0_3 l0_3.length l0_3) (hc0_3 : l0_3.length ≤ c0_3) (h : p_Element.f k l0_0 l0_1 l0_2 l0_3 a0_4 a1 = some r) :
  Calls Tryd.prog 16 #[.agg #[.slice A0_0 l0_0.length c0_0, .slice A0_1 l0_1.length c0_1, .slice A0_2 l0_2.length c0_2, .slice A0_3 l0_3.length c0_3, .int .i64 a0_4], .string a1] w fun e w' => e = .returned (.bool r) ∧ Below w.heap.size w w' := by
 have hu25 := Tryd.underlying25;have hu53 := Tryd.underlying53;obtain ⟨HR0_0, HC0_0, HR0_1, HC0_1⟩ := as4 hr0_0 hc0_0 hr0_1 hc0_1;clear hr0_0 hc0_0 hr0_1 hc0_1;obtain ⟨HR0_2, HC0_2, HR0_3, HC0_3⟩ := as4 hr0_2 hc0_2 hr0_3 hc0_3;clear hr0_2 hc0_2 hr0_3 hc0_3;have HB := Am (Below.refl w.heap.size w);have H := h;clear h;unfold p_Element.f at H;obtain ⟨⟨t174, t175, t178⟩, A3, H⟩ := bx H;(try dsimp -simprocs only at H)
 by_cases c4 : t178 = true
 ·subst c4;rw [if_pos rfl] at H;obtain ⟨t180, A5, H⟩ := bx H;replace H : (some (t180 == 0)) = some r := H;obtain rfl := si H;go_enter Tryd.func16, Tryd.ntmps16;go_wp2_with (first | ((with_reducible refine gate_dst (N := 2) rfl ?_); refine box5 25 2 (cs := #[.slice A0_0 l0_0.length c0_0, .slice A0_1 l0_1.length c0_1, .slice A0_2 l0_2.length c0_2, .slice A0_3 l0_3.length c0_3, .int .i64 a0_4]) ?_; clear HB; intro gb173 w6 HB BK173 GE173; have GW173 := GE173; obtain ⟨Z7_0, Z7_1, Z7_2, Z7_3, Z7_4, Y7_0, Y7_1, Y7_2, Y7_3, Y7_4⟩ := cells5 BK173) | ((with_reducible refine gate_callee (f := 40) rfl ?_); refine goL (some 10) Tryd.func40 #[.agg #[.slice A0_0 l0_0.length c0_0, .slice A0_1 l0_1.length c0_1, .slice A0_2 l0_2.length c0_2, .slice A0_3 l0_3.length c0_3, .int .i64 a0_4], .string a1] ?_; (with_reducible refine (p_rule.calls k (fun k_ => k_ < w.heap.size) _ _ l0_0 _ _ l0_1 _ _ l0_2 _ _ l0_3 a0_4 a1 t174 t175 true _ ?side1 (Cs HR0_1) HC0_1.out (Cs HR0_2) HC0_2.out (Cs HR0_3) HC0_3.out A3.out).mono ?_); (case side1 => exact Kd.V_mk HC0_0.out (Kd.F_below (Kd.C_F k53_heap HR0_0.out) Bw)); rintro e w8 ⟨v176, rfl, ho0, hb⟩; refine ⟨_, rfl, ?_⟩; have n0_ := Am (Kd.V_lower (Kd.V_mono (ok' := fun k_ => k_ ≠ gb173) ho0 (fun k_ hk_ => Or.elim hk_ (fun hs_ => fun e_ => Nat.not_le.2 hs_ (by rw [e_]; exact GW173.out)) (fun hn_ => (Kd.freshB (g := gb173) (o := .cells #[.slice A0_0 l0_0.length c0_0, .slice A0_1 l0_1.length c0_1, .slice A0_2 l0_2.length c0_2, .slice A0_3 l0_3.length c0_3, .int .i64 a0_4] 25 (0, 0)) (Bk BK173) k_ hn_)))) (below_size Bw)); have n1_ := Bb BK173 hb; have n2_ := Bs hb; clear BK173; clear HB; have HO177 := n0_; have BK173 := n1_; have HB := n2_; clear n0_ n1_ n2_; (try clear hb); (try clear hb2); (try clear hk); (try clear hi); (try clear ho0)) | ((with_reducible refine gate_dst (N := 5) rfl ?_); refine boxE 53 5 (cs := #[.string (⟨#[]⟩ : ByteArray), .slice none 0 0]) ?_; intro gb179 hg w9 hbox hb; have n0_ := Am (Kd.V_below (Kd.V_elderB (Vk HO177.out) gb179 (Nat.le_of_eq hg.symm)) hb); have n1_ := Bb BK173 hb; have n2_ := Bs hb; have n3_ := Am (hbox); have n4_ := Am (Gg hg); have n5_ := Am (Gg hg); have n6_ := Nl hg BK173; have n7_ := Ng hg BK173; clear HO177; clear BK173; clear HB; have HO177 := n0_; have BK173 := n1_; have HB := n2_; have BK179 := n3_; have GW179 := n4_; have GE179 := n5_; have NB173_179 := n6_; have NB179_173 := n7_; clear n0_ n1_ n2_ n3_ n4_ n5_ n6_ n7_; clear hb hbox hg; have hnb10 := NB179_173.out; have hnc10 := NB173_179.out; obtain ⟨Z11_0, Z11_1, Y11_0, Y11_1⟩ := cells2 BK179; obtain ⟨Ao12, co12, eo12⟩ := Kd.V_slice HO177.out; subst eo12; obtain ⟨Z13_0, Z13_1, Z13_2, Z13_3, Z13_4, Y13_0, Y13_1, Y13_2, Y13_3, Y13_4⟩ := cells5 BK173) | (go_at_call 11; (with_reducible refine (p_Check.calls k _ _ l0_0 _ _ l0_1 _ _ l0_2 _ _ l0_3 a0_4 t180 _ ?side1 HC0_0.out ?side3 HC0_1.out ?side5 HC0_2.out ?side7 HC0_3.out A5.out).mono ?_); (case side1 => exact Kd.C_below HR0_0.out Bw); (case side3 => exact Kd.C_below HR0_1.out Bw); (case side5 => exact Kd.C_below HR0_2.out Bw); (case side7 => exact Kd.C_below HR0_3.out Bw); rintro e w14 ⟨rfl, hb⟩; have n0_ := Am (Kd.V_below (Vk (Kd.V_mono (Kd.V_far (p := ⟨gb179, 1, none⟩) (Kd.V_far (p := ⟨gb179, 0, none⟩) (Kd.V_mono HO177.out (fun k_ hk => (⟨hk, hk.2⟩ : _ ∧ k_ ≠ gb179))) (fun _ hk => hk.2) (.string t174)) (fun _ hk => hk.2) (.slice Ao12 t175.length co12)) (fun _ h_ => h_.1))) hb); have n1_ := Am (blk_below (g := gb173) (o := .cells #[.slice A0_0 l0_0.length c0_0, .slice A0_1 l0_1.length c0_1, .slice A0_2 l0_2.length c0_2, .slice A0_3 l0_3.length c0_3, .int .i64 a0_4] 25 (0, 0)) (Bf BK173) hb); have n2_ := Am (blk_below (g := gb179) (o := .cells #[.string t174, .slice Ao12 t175.length co12] 53 (0, 0)) (Bp BK179) hb); have n3_ := Bs hb; clear HO177; clear BK173; clear BK179; clear HB; have HO177 := n0_; have BK173 := n1_; have BK179 := n2_; have HB := n3_; clear n0_ n1_ n2_ n3_; (try clear hb); (try clear hb2); (try clear hk); (try clear hi)))
  go_ret;exact ⟨Re, Bw⟩
 replace c4 := bf c4;subst c4;rw [if_neg (show ¬ (false = true) by decide)] at H;obtain rfl := si H;go_enter Tryd.func16, Tryd.ntmps16;go_wp2_with (first | ((with_reducible refine gate_dst (N := 2) rfl ?_); refine box5 25 2 (cs := #[.slice A0_0 l0_0.length c0_0, .slice A0_1 l0_1.length c0_1, .slice A0_2 l0_2.length c0_2, .slice A0_3 l0_3.length c0_3, .int .i64 a0_4]) ?_; clear HB; intro gb173 w15 HB BK173 GE173; have GW173 := GE173; obtain ⟨Z16_0, Z16_1, Z16_2, Z16_3, Z16_4, Y16_0, Y16_1, Y16_2, Y16_3, Y16_4⟩ := cells5 BK173) | ((with_reducible refine gate_callee (f := 40) rfl ?_); refine goL (some 10) Tryd.func40 #[.agg #[.slice A0_0 l0_0.length c0_0, .slice A0_1 l0_1.length c0_1, .slice A0_2 l0_2.length c0_2, .slice A0_3 l0_3.length c0_3, .int .i64 a0_4], .string a1] ?_; (with_reducible refine (p_rule.calls k (fun k_ => k_ < w.heap.size) _ _ l0_0 _ _ l0_1 _ _ l0_2 _ _ l0_3 a0_4 a1 t174 t175 false _ ?side1 (Cs HR0_1) HC0_1.out (Cs HR0_2) HC0_2.out (Cs HR0_3) HC0_3.out A3.out).mono ?_); (case side1 => exact Kd.V_mk HC0_0.out (Kd.F_below (Kd.C_F k53_heap HR0_0.out) Bw)); rintro e w17 ⟨v176, rfl, ho0, hb⟩; refine ⟨_, rfl, ?_⟩; have n0_ := Am (Kd.V_lower (Kd.V_mono (ok' := fun k_ => k_ ≠ gb173) ho0 (fun k_ hk_ => Or.elim hk_ (fun hs_ => fun e_ => Nat.not_le.2 hs_ (by rw [e_]; exact GW173.out)) (fun hn_ => (Kd.freshB (g := gb173) (o := .cells #[.slice A0_0 l0_0.length c0_0, .slice A0_1 l0_1.length c0_1, .slice A0_2 l0_2.length c0_2, .slice A0_3 l0_3.length c0_3, .int .i64 a0_4] 25 (0, 0)) (Bk BK173) k_ hn_)))) (below_size Bw)); have n1_ := Bb BK173 hb; have n2_ := Bs hb; clear BK173; clear HB; have HO177 := n0_; have BK173 := n1_; have HB := n2_; clear n0_ n1_ n2_; (try clear hb); (try clear hb2); (try clear hk); (try clear hi); (try clear ho0)) | ((with_reducible refine gate_dst (N := 5) rfl ?_); refine boxE 53 5 (cs := #[.string (⟨#[]⟩ : ByteArray), .slice none 0 0]) ?_; intro gb179 hg w18 hbox hb; have n0_ := Am (Kd.V_below (Kd.V_elderB (Vk HO177.out) gb179 (Nat.le_of_eq hg.symm)) hb); have n1_ := Bb BK173 hb; have n2_ := Bs hb; have n3_ := Am (hbox); have n4_ := Am (Gg hg); have n5_ := Am (Gg hg); have n6_ := Nl hg BK173; have n7_ := Ng hg BK173; clear HO177; clear BK173; clear HB; have HO177 := n0_; have BK173 := n1_; have HB := n2_; have BK179 := n3_; have GW179 := n4_; have GE179 := n5_; have NB173_179 := n6_; have NB179_173 := n7_; clear n0_ n1_ n2_ n3_ n4_ n5_ n6_ n7_; clear hb hbox hg; have hnb19 := NB179_173.out; have hnc19 := NB173_179.out; obtain ⟨Z20_0, Z20_1, Y20_0, Y20_1⟩ := cells2 BK179; obtain ⟨Ao21, co21, eo21⟩ := Kd.V_slice HO177.out; subst eo21))
 go_ret;exact ⟨Re, Bw⟩

open Go.Shelf in
def lays219_ren : Go.Shelf.Ren := ⟨fun | 219 => 97 | 217 => 104 | 225 => 105 | 224 => 106 | 267 => 107 | 266 => 110 | 314 => 111 | n => n, fun | 9 => 9 | 3 => 3 | 4 => 4 | 5 => 5 | 46 => 106 | 146 => 110 | 51 => 109 | n => n, fun | 1 => 0 | n => n⟩
open Go.Shelf in
theorem lays219 : Go.Proofs.Lays.n219 Tryd.prog lays219_ren := {
 mixed := by kernel_rfl
 f217 := Tryd.func104.trans (congrArg some (by kernel_rfl))
 f219 := Tryd.func97.trans (congrArg some (by kernel_rfl))
 f224 := Tryd.func106.trans (congrArg some (by kernel_rfl))
 f225 := Tryd.func105.trans (congrArg some (by kernel_rfl))
 f266 := Tryd.func110.trans (congrArg some (by kernel_rfl))
 f267 := Tryd.func107.trans (congrArg some (by kernel_rfl))
 f314 := Tryd.func111.trans (congrArg some (by kernel_rfl))
 t3 := Tryd.underlying3
 a3 := Tryd.isAgg3
 z3 := Tryd.sizeOf3
 v3 := Tryd.zeroValue3
 t4 := Tryd.underlying4
 a4 := Tryd.isAgg4
 z4 := Tryd.sizeOf4
 v4 := Tryd.zeroValue4
 t5 := Tryd.underlying5
 a5 := Tryd.isAgg5
 z5 := Tryd.sizeOf5
 v5 := Tryd.zeroValue5
 t9 := Tryd.underlying9
 a9 := Tryd.isAgg9
 z9 := Tryd.sizeOf9
 v9 := Tryd.zeroValue9
 t46 := Tryd.underlying106
 a46 := Tryd.isAgg106
 z46 := Tryd.sizeOf106
 v46 := Tryd.zeroValue106
 t51 := Tryd.underlying109
 a51 := Tryd.isAgg109
 z51 := Tryd.sizeOf109
 v51 := Tryd.zeroValue109
 t146 := Tryd.underlying110
 a146 := Tryd.isAgg110
 z146 := Tryd.sizeOf110
 v146 := Tryd.zeroValue110
 g1 := by kernel_rfl }
def stringslite_Index.f (a0 : ByteArray) (a1 : ByteArray) : Option Int := if a1.data.size = 1 then some (Lib.indexByte a0.data.toList (a1.data.toList.headD 0)) else none
theorem stringslite_Index.calls (a0 : ByteArray) (a1 : ByteArray) (r : Int) (w : World) (h : stringslite_Index.f a0 a1 = some r) :
  Calls Tryd.prog 97 #[.string a0, .string a1] w fun e w' => e = .returned (.int .i64 r) ∧ Drawn0 w w' := by
 unfold stringslite_Index.f at h
 split at h
 ·next h1 =>
  obtain ⟨⟨l⟩⟩ := a1
  obtain ⟨c, rfl⟩ : ∃ c, l = [c] := by
   match l, h1 with
   | [c], _ => exact ⟨c, rfl⟩
  obtain rfl := Option.some.inj h;refine (Any.stringslite_Index_one lays219 a0 c w).mono ?_;rintro e w' ⟨rfl, rfl⟩;exact ⟨rfl, Drawn0.refl _⟩
 exact absurd h (by simp)


def stringslite_Cut.f (a0 : ByteArray) (a1 : ByteArray) : Option (ByteArray × ByteArray × Bool) := (stringslite_Index.f a0 a1).bind fun t181 => (if t181 ≥ 0 then (if 0 ≤ t181 then (if t181 ≤ (a0.size : Int) then (if 0 ≤ (wrap64 (t181 + (a1.size : Int))) then (if (wrap64 (t181 + (a1.size : Int))) ≤ (a0.size : Int) then (some (a0.extract 0 (t181 : Int).toNat, a0.extract ((wrap64 (t181 + (a1.size : Int))) : Int).toNat a0.size, true)) else (none)) else (none)) else (none)) else (none)) else (some (a0, (⟨#[]⟩ : ByteArray), false)))
theorem stringslite_Cut.calls (a0 : ByteArray) (a1 : ByteArray) (r1 : ByteArray) (r2 : ByteArray) (r3 : Bool) (w : World) (h : stringslite_Cut.f a0 a1 = some (r1, r2, r3)) :
  Calls Tryd.prog 79 #[.string a0, .string a1] w fun e w' => e = .returned (.tuple #[.string r1, .string r2, .bool r3]) ∧ Drawn0 w w' := by
 have H : ((stringslite_Index.f a0 a1).bind fun t181 => (if t181 ≥ 0 then (if 0 ≤ t181 then (if t181 ≤ (a0.size : Int) then (if 0 ≤ (wrap64 (t181 + (a1.size : Int))) then (if (wrap64 (t181 + (a1.size : Int))) ≤ (a0.size : Int) then (some (a0.extract 0 (t181 : Int).toNat, a0.extract ((wrap64 (t181 + (a1.size : Int))) : Int).toNat a0.size, true)) else (none)) else (none)) else (none)) else (none)) else (some (a0, (⟨#[]⟩ : ByteArray), false)))) = some (r1, r2, r3) := h;clear h;obtain ⟨t181, A3, H⟩ := bx H;replace H : (if t181 ≥ 0 then (if 0 ≤ t181 then (if t181 ≤ (a0.size : Int) then (if 0 ≤ (wrap64 (t181 + (a1.size : Int))) then (if (wrap64 (t181 + (a1.size : Int))) ≤ (a0.size : Int) then (some (a0.extract 0 (t181 : Int).toNat, a0.extract ((wrap64 (t181 + (a1.size : Int))) : Int).toNat a0.size, true)) else (none)) else (none)) else (none)) else (none)) else (some (a0, (⟨#[]⟩ : ByteArray), false))) = some (r1, r2, r3) := H
 by_cases c4 : t181 ≥ 0
 ·rw [if_pos c4] at H;have c4b0 := dge c4;clear c4
  by_cases c5 : 0 ≤ t181
  ·rw [if_pos c5] at H;have c5b0 := eq_true c5;have c5b1 : decide (0 ≤ t181) = true := decide_eq_true c5;clear c5
   by_cases c6 : t181 ≤ (a0.size : Int)
   ·rw [if_pos c6] at H;have c6b0 := eq_true c6;have c6b1 : decide (t181 ≤ (a0.size : Int)) = true := decide_eq_true c6;clear c6;obtain ⟨ji7, hji7⟩ : ∃ j_ : Int, (wrap64 (t181 + (a1.size : Int))) = j_ := ⟨_, rfl⟩;replace H : (if 0 ≤ (ji7) then (if (ji7) ≤ (a0.size : Int) then (some (a0.extract 0 (t181 : Int).toNat, a0.extract ((ji7) : Int).toNat a0.size, true)) else (none)) else (none)) = some (r1, r2, r3) := by first | (rw [hji7] at H; exact H) | (simp only [hji7] at H ⊢; exact H)
    (try rw [hji7] at A3);have hji7w : (IntKind.i64.wrap (t181 + (a1.size : Int))) = ji7 := (i64_w _).trans hji7
    by_cases c8 : 0 ≤ (ji7)
    ·rw [if_pos c8] at H;have c8b0 := eq_true c8;have c8b1 : decide (0 ≤ (ji7)) = true := decide_eq_true c8;clear c8
     by_cases c9 : (ji7) ≤ (a0.size : Int)
     ·rw [if_pos c9] at H;have c9b0 := eq_true c9;have c9b1 : decide ((ji7) ≤ (a0.size : Int)) = true := decide_eq_true c9;clear c9;simp only [Option.some.injEq, Prod.mk.injEq] at H;obtain ⟨rfl, rfl, rfl⟩ := H;go_enter Tryd.func79, Tryd.ntmps79;go_wp2_with (first | (go_at_call 97; (with_reducible refine (stringslite_Index.calls a0 a1 t181 _ A3.out).mono ?_); rintro e w' ⟨rfl, ⟨nd, rfl⟩⟩; (try first | exact ⟨rfl, _, World.drewN_drewN _ _ _⟩ | exact ⟨rfl, _, Eq.trans (World.drewN_drewN _ _ _) (congrArg (World.drewN _) (Nat.add_assoc _ _ _))⟩)))
      repeat (go_quiet (first | (go_at_call 97; (with_reducible refine (stringslite_Index.calls a0 a1 t181 _ A3.out).mono ?_); rintro e w' ⟨rfl, ⟨nd, rfl⟩⟩; (try first | exact ⟨rfl, _, World.drewN_drewN _ _ _⟩ | exact ⟨rfl, _, Eq.trans (World.drewN_drewN _ _ _) (congrArg (World.drewN _) (Nat.add_assoc _ _ _))⟩))); try go_wp2_with (first | (go_at_call 97; (with_reducible refine (stringslite_Index.calls a0 a1 t181 _ A3.out).mono ?_); rintro e w' ⟨rfl, ⟨nd, rfl⟩⟩; (try first | exact ⟨rfl, _, World.drewN_drewN _ _ _⟩ | exact ⟨rfl, _, Eq.trans (World.drewN_drewN _ _ _) (congrArg (World.drewN _) (Nat.add_assoc _ _ _))⟩))))
      go_ret3;exact ⟨by first | rfl | (simp; done) | (simp only [← hji7] <;> (first | rfl | simp)) | (simp [*]; done), by repeat (first | exact Drawn0.refl _ | apply Drawn0.step)⟩
     rw [if_neg c9] at H;exact absurd H (by simp)
    rw [if_neg c8] at H;exact absurd H (by simp)
   rw [if_neg c6] at H;exact absurd H (by simp)
  rw [if_neg c5] at H;exact absurd H (by simp)
 rw [if_neg c4] at H;have c4b0 := nge c4;clear c4;simp only [Option.some.injEq, Prod.mk.injEq] at H;obtain ⟨rfl, rfl, rfl⟩ := H;go_enter Tryd.func79, Tryd.ntmps79;go_wp2_with (first | (go_at_call 97; (with_reducible refine (stringslite_Index.calls a0 a1 t181 _ A3.out).mono ?_); rintro e w' ⟨rfl, ⟨nd, rfl⟩⟩; (try first | exact ⟨rfl, _, World.drewN_drewN _ _ _⟩ | exact ⟨rfl, _, Eq.trans (World.drewN_drewN _ _ _) (congrArg (World.drewN _) (Nat.add_assoc _ _ _))⟩)))
 repeat (go_quiet (first | (go_at_call 97; (with_reducible refine (stringslite_Index.calls a0 a1 t181 _ A3.out).mono ?_); rintro e w' ⟨rfl, ⟨nd, rfl⟩⟩; (try first | exact ⟨rfl, _, World.drewN_drewN _ _ _⟩ | exact ⟨rfl, _, Eq.trans (World.drewN_drewN _ _ _) (congrArg (World.drewN _) (Nat.add_assoc _ _ _))⟩))); try go_wp2_with (first | (go_at_call 97; (with_reducible refine (stringslite_Index.calls a0 a1 t181 _ A3.out).mono ?_); rintro e w' ⟨rfl, ⟨nd, rfl⟩⟩; (try first | exact ⟨rfl, _, World.drewN_drewN _ _ _⟩ | exact ⟨rfl, _, Eq.trans (World.drewN_drewN _ _ _) (congrArg (World.drewN _) (Nat.add_assoc _ _ _))⟩))))
 go_ret3;exact ⟨Rs, Dw⟩

def strings_Cut.f (a0 : ByteArray) (a1 : ByteArray) : Option (ByteArray × ByteArray × Bool) := (stringslite_Cut.f a0 a1).bind fun bt182 => (some (bt182.1, bt182.2.1, bt182.2.2))
theorem strings_Cut.calls (a0 : ByteArray) (a1 : ByteArray) (r1 : ByteArray) (r2 : ByteArray) (r3 : Bool) (w : World) (h : strings_Cut.f a0 a1 = some (r1, r2, r3)) :
  Calls Tryd.prog 56 #[.string a0, .string a1] w fun e w' => e = .returned (.tuple #[.string r1, .string r2, .bool r3]) ∧ Drawn0 w w' := by
 have H : ((stringslite_Cut.f a0 a1).bind fun bt182 => (some (bt182.1, bt182.2.1, bt182.2.2))) = some (r1, r2, r3) := h;clear h;obtain ⟨⟨t182, t183, t184⟩, A3, H⟩ := bx H;replace H : (some (t182, t183, t184)) = some (r1, r2, r3) := H;simp only [Option.some.injEq, Prod.mk.injEq] at H;obtain ⟨rfl, rfl, rfl⟩ := H;go_enter Tryd.func56, Tryd.ntmps56;go_wp2_with (first | ((with_reducible refine gate_callee (f := 79) rfl ?_); refine goL (some 9) Tryd.func79 #[.string a0, .string a1] ?_; (with_reducible refine (stringslite_Cut.calls a0 a1 t182 t183 t184 _ A3.out).mono ?_); rintro e w' ⟨rfl, ⟨nd, rfl⟩⟩; refine ⟨_, rfl, ?_⟩));go_ret3;exact ⟨Rs, Dw⟩

end Go.Proofs.YtnbghhddmlohoaaDoor.PAll

end

section
namespace Go.Proofs.YtnbghhddmlohoaaDoor.PAll
open Go.RowKit Go.Proofs.YtnbghhddmlohoaaDoorW.PrintWords Go.Proofs.YtnbghhddmlohoaaDoorW.PrintLast Go.Proofs.YtnbghhddmlohoaaDoorW.PrintMore
attribute [local go_sem] max2_int min2_int max_two min_two max_three min_three max_four min_four   -- for this text's walks alone
set_option linter.unusedVariables false
set_option linter.unusedSimpArgs false

open Go.Shelf in
def lays240_ren : Go.Shelf.Ren := ⟨fun | 240 => 98 | 276 => 108 | n => n, fun | 0 => 0 | 4 => 4 | 9 => 9 | 20 => 20 | 70 => 84 | 72 => 87 | 164 => 107 | 37 => 85 | 5 => 5 | n => n, fun | n => n⟩
open Go.Shelf in
theorem lays240 : Go.Proofs.Lays.n240 Tryd.prog lays240_ren := {
 mixed := by kernel_rfl
 f240 := Tryd.func98.trans (congrArg some (by kernel_rfl))
 f276 := Tryd.func108.trans (congrArg some (by kernel_rfl))
 t0 := Tryd.underlying0
 a0 := Tryd.isAgg0
 z0 := Tryd.sizeOf0
 v0 := Tryd.zeroValue0
 t4 := Tryd.underlying4
 a4 := Tryd.isAgg4
 z4 := Tryd.sizeOf4
 v4 := Tryd.zeroValue4
 t9 := Tryd.underlying9
 a9 := Tryd.isAgg9
 z9 := Tryd.sizeOf9
 v9 := Tryd.zeroValue9
 t20 := Tryd.underlying20
 a20 := Tryd.isAgg20
 z20 := Tryd.sizeOf20
 v20 := Tryd.zeroValue20
 t70 := Tryd.underlying84
 a70 := Tryd.isAgg84
 z70 := Tryd.sizeOf84
 v70 := Tryd.zeroValue84
 t72 := Tryd.underlying87
 a72 := Tryd.isAgg87
 z72 := Tryd.sizeOf87
 v72 := Tryd.zeroValue87
 t164 := Tryd.underlying107
 a164 := Tryd.isAgg107
 z164 := Tryd.sizeOf107
 v164 := Tryd.zeroValue107
}
open Go.Shelf in
theorem bX72 : Builder.X72 Tryd.prog lays240_ren where
  sizeBuilder := by kernel_rfl
  liesBuilder := by kernel_rfl
set_option maxHeartbeats 8000000 in
set_option maxRecDepth 100000 in
theorem bld_copy (b : Nat) (p v : Value) (w : World) (hb : w.heap[b]? = some (.cells #[p, v] 87 (0, 0))) (hp : p = .pointer none ∨ p = .pointer (some ⟨b, 0, none⟩)) :
  Calls Tryd.prog 98 #[.pointer (some ⟨b, 0, none⟩)] w fun e w' => e = .returned (.tuple #[]) ∧ w'.heap[b]? = some (.cells #[.pointer (some ⟨b, 0, none⟩), v] 87 (0, 0)) ∧ (w' = w ∨ w' = w.setCell ⟨b, 0, none⟩ (.pointer (some ⟨b, 0, none⟩))) := by
 have c0 : w.cell? ⟨b, 0, none⟩ = some p := (blk_cell hb 0).trans rfl
 rcases hp with rfl | rfl
 ·refine (Any.Builder_copyCheck_fresh lays240 bX72 b w c0 (by simp [World.shape?, hb]; rfl) (blk_frozen hb 0)).mono ?_;rintro e w' ⟨rfl, rfl⟩;exact ⟨rfl, blk_put hb 0 _ rfl, Or.inr rfl⟩
 refine (Any.Builder_copyCheck_used lays240 bX72 b w c0).mono ?_;rintro e w' ⟨rfl, rfl⟩;exact ⟨rfl, hb, Or.inl rfl⟩

def BKeep (B b : Nat) (w w' : World) : Prop := w.heap.size ≤ w'.heap.size ∧ (∀ i, i < B → i ≠ b → w'.heap[i]? = w.heap[i]?) ∧ (∀ x, x ≤ b → Below x w w')
theorem bld_byte (B b : Nat) (p v : Value) (bs : List Value) (c : Int) (w : World) (hb : w.heap[b]? = some (.cells #[p, v] 87 (0, 0))) (hp : p = .pointer none ∨ p = .pointer (some ⟨b, 0, none⟩))
  (hown : w.ownsRow B 5 1 v bs.length bs) (hbB : b < B) (hB : B ≤ w.heap.size) (hlen : bs.length + 1 ≤ 140737488355328) :
  Calls Tryd.prog 80 #[.pointer (some ⟨b, 0, none⟩), .int .u8 c] w fun e w' => e = .returned .nilIface ∧ ∃ v', w'.heap[b]? = some (.cells #[.pointer (some ⟨b, 0, none⟩), v'] 87 (0, 0)) ∧ w'.ownsRow B 5 1 v' (bs ++ [Value.int .u8 c]).length (bs ++ [Value.int .u8 c]) ∧ BKeep B b w w' := by
 obtain ⟨i0, hi, hz0, hz1, hz2⟩ := info_parts (show (Tryd.prog.info? 5).map (fun i => (i.zero, i.size, i.bytes)) = some (some (.int .u8 0), 1, 1) by kernel_rfl);have u85 := Tryd.underlying85;have u87 := Tryd.underlying87;go_enter Tryd.func80, Tryd.ntmps80;go_wp2_with (go_at_call 98; refine (bld_copy b p v _ hb hp).mono ?_);rintro e w1 ⟨rfl, hb1, hw1⟩
 have hk1 : BKeep B b w w1 := by
  rcases hw1 with rfl | rfl
  ·exact ⟨Nat.le_refl _, fun _ _ _ => rfl, fun x _ => Below.refl _ _⟩
  exact ⟨by simp [World.setCell], fun i _ h => Below.heap_setCell w ⟨b, 0, none⟩ _ i h, fun x hx => (Below.refl x w).setCell (p := ⟨b, 0, none⟩) hx _⟩
 have hown1 : w1.ownsRow B 5 1 v bs.length bs := by
  rcases hw1 with rfl | rfl
  ·exact hown
  exact hown.kept (row := some b) ⟨rfl, rfl, rfl, by simp [World.setCell], fun k _ hk => Below.heap_setCell _ _ _ _ (fun e => hk (by simp [e]))⟩ (Or.inr (Lib.ownBlock_ne hown hb (by decide)))
 have c1 : w1.cell? ⟨b, 1, none⟩ = some v := (blk_cell hb1 1).trans rfl;go_wp2_with (at_builtin; refine wpList_append_own _ rfl _ _ 85 rfl B 5 i0 (.int .u8 0) 1 1 Tryd.underlying85 hi hz0 hz1 hz2 rfl (by decide) _ _ _ rfl (hown1.alloc _) ⟨w1.heap.size, 0, none⟩ 1 1 [.int .u8 c] rfl rfl ?c1 ?c2 ?c3 ?c4 ?c5 ?_)
 case c1 =>
  intro j u hj
  match j, hj with
  | 0, hj => simp at hj; subst hj; simp [Addr.add]
 case c2 => intro u hu; simp at hu; subst hu; rfl
 case c3 => unfold maxLen; omega
 case c4 => omega
 case c5 => have := hk1.1; simp; omega
 intro v' w2 hown' hgrow _;have hne := Lib.ownBlock_ne hown1 hb1 (by decide);have hlt : b < w1.heap.size := by have := hk1.1; omega
 have hb2 : w2.heap[b]? = some (.cells #[.pointer (some ⟨b, 0, none⟩), v] 87 (0, 0)) := by
  rw [hgrow.block b (by simp; omega) (fun e => hne e.symm), Lib.alloc_old w1 _ b hlt];exact hb1
 have d0 : w2.cell? ⟨b, 0, none⟩ = some (.pointer (some ⟨b, 0, none⟩)) := by rw [Lib.cell_of_heap hb2]; rfl
 have d1 : w2.cell? ⟨b, 1, none⟩ = some v := by rw [Lib.cell_of_heap hb2]; rfl
 have f1 : w2.frozen? ⟨b, 1, none⟩ = false := Lib.frozen_of_heap hb2 1;have hlt' : ∀ k, v.ownBlock = some k → B ≤ k := fun k hk => (hown1.lt k hk).1
 obtain ⟨g, cap, rfl⟩ : ∃ g cap, v' = .slice (some ⟨g, 0, none⟩) (bs.length + 1) cap := by
  rcases hown'.2 with ⟨_, h0⟩ | ⟨g, cap, cur, hv, _⟩
  ·omega
  exact ⟨g, cap, hv⟩
 go_wp2;go_ret;have hown2 : w2.ownsRow B 5 1 (.slice (some ⟨g, 0, none⟩) (bs.length + 1) cap) (bs ++ [Value.int .u8 c]).length (bs ++ [Value.int .u8 c]) := by simpa using hown'
 refine ⟨rfl, _, blk_put hb2 1 _ rfl, ?_, ?_, ?_, ?_⟩
 ·exact hown2.kept (row := some b) ⟨rfl, rfl, rfl, by simp [World.setCell], fun k _ hk => Below.heap_setCell _ _ _ _ (fun e => hk (by simp [e]))⟩ (Or.inr (Lib.ownBlock_ne hown2 hb2 (by decide)))
 ·have := hk1.1; have := hgrow.size; simp [World.setCell] at *; omega
 ·intro i hi hib;have h1 : i < w1.heap.size := by have := hk1.1; omega
  rw [Below.heap_setCell w2 ⟨b, 1, none⟩ _ i hib, hgrow.block i (by simp; omega) (fun e => by have := hlt' i e.symm; omega), Lib.alloc_old w1 _ i h1];exact hk1.2.1 i hi hib
 intro x hx;have hx1 := hk1.2.2 x hx;exact ((hx1.alloc (by have := hk1.1; omega) _).grown hgrow (by have := hk1.1; simp; omega) (fun k hk => by have := hlt' k hk; omega)).setCell (p := ⟨b, 1, none⟩) hx _
open Go.Shelf in
def lays169_ren : Go.Shelf.Ren := ⟨fun | 169 => 81 | n => n, fun | 70 => 84 | 9 => 9 | 0 => 0 | 72 => 87 | 37 => 85 | 127 => 98 | 3 => 3 | 5 => 5 | n => n, fun | n => n⟩
open Go.Shelf in
theorem lays169 : Go.Proofs.Lays.n169 Tryd.prog lays169_ren := {
 mixed := by kernel_rfl
 f169 := Tryd.func81.trans (congrArg some (by kernel_rfl))
 t0 := Tryd.underlying0
 a0 := Tryd.isAgg0
 z0 := Tryd.sizeOf0
 v0 := Tryd.zeroValue0
 t3 := Tryd.underlying3
 a3 := Tryd.isAgg3
 z3 := Tryd.sizeOf3
 v3 := Tryd.zeroValue3
 t9 := Tryd.underlying9
 a9 := Tryd.isAgg9
 z9 := Tryd.sizeOf9
 v9 := Tryd.zeroValue9
 t37 := Tryd.underlying85
 a37 := Tryd.isAgg85
 z37 := Tryd.sizeOf85
 v37 := Tryd.zeroValue85
 t70 := Tryd.underlying84
 a70 := Tryd.isAgg84
 z70 := Tryd.sizeOf84
 v70 := Tryd.zeroValue84
 t72 := Tryd.underlying87
 a72 := Tryd.isAgg87
 z72 := Tryd.sizeOf87
 v72 := Tryd.zeroValue87
 t127 := Tryd.underlying98
 a127 := Tryd.isAgg98
 z127 := Tryd.sizeOf98
 v127 := Tryd.zeroValue98 }
open Go.Shelf in
theorem bExtra169 : Builder.Extra Tryd.prog lays169_ren := {
  sizeBuilder := by kernel_rfl
  liesBuilder := by kernel_rfl
  t5 := Tryd.underlying5
  a5 := Tryd.isAgg5
  z5 := Tryd.sizeOf5
  v5 := Tryd.zeroValue5
  infoByte := by kernel_rfl
  cellsByte := by kernel_rfl
  sizeByte := by kernel_rfl
  neB5 := by decide }

def lowC (c : UInt8) : Bool := decide (c.toNat ≤ 32)
def keepC (c : UInt8) : Bool := c.toNat != 9 && (c.toNat != 10 && c.toNat != 13)
def tidyL (l : List UInt8) : List UInt8 := (l.dropWhile lowC).filter keepC
def scheme_tidy.f (a0 : ByteArray) : Option (ByteArray) := if a0.size ≤ 140737488351232 then some ⟨(tidyL a0.data.toList).toArray⟩ else none
theorem drop_at (s : ByteArray) (x : Int) (h0 : 0 ≤ x) (h1 : x < (s.size : Int)) : ∃ c, s.data.toList.drop x.toNat = c :: s.data.toList.drop (x + 1).toNat ∧ bt s x = (c.toNat : Int) := by
 have hl : s.data.toList.length = s.size := by simp
 have h : x.toNat < s.data.toList.length := by omega
 refine ⟨s.data.toList[x.toNat], ?_, ?_⟩
 ·rw [List.drop_eq_getElem_cons h, show (x + 1).toNat = x.toNat + 1 by omega]
 unfold bt;rw [dif_pos (by omega)];rfl
theorem drop_low (s : ByteArray) (x : Int) (h0 : 0 ≤ x) (h1 : x < (s.size : Int)) (h : bt s x ≤ 32) : (s.data.toList.drop (x + 1).toNat).dropWhile lowC = (s.data.toList.drop x.toNat).dropWhile lowC := by
  obtain ⟨c, e, hb⟩ := drop_at s x h0 h1
  rw [e, List.dropWhile_cons_of_pos]
  simp [lowC]; omega
theorem drop_high (s : ByteArray) (x : Int) (h0 : 0 ≤ x) (h1 : x < (s.size : Int)) (h : 32 < bt s x) : (s.data.toList.drop x.toNat).dropWhile lowC = s.data.toList.drop x.toNat := by
  obtain ⟨c, e, hb⟩ := drop_at s x h0 h1
  rw [e, List.dropWhile_cons_of_neg]
  simp [lowC]; omega
theorem keep_yes (l : List UInt8) (j : Nat) (c : UInt8) (h : l[j]? = some c) (h1 : (c.toNat : Int) ≠ 9) (h2 : (c.toNat : Int) ≠ 10) (h3 : (c.toNat : Int) ≠ 13) : (l.take (j + 1)).filter keepC = (l.take j).filter keepC ++ [c] := by
  rw [List.take_add_one, h]
  have : keepC c = true := by simp [keepC]; omega
  simp [List.filter_append, this]
theorem keep_no (l : List UInt8) (j : Nat) (c : UInt8) (h : l[j]? = some c) (h1 : (c.toNat : Int) = 9 ∨ (c.toNat : Int) = 10 ∨ (c.toNat : Int) = 13) : (l.take (j + 1)).filter keepC = (l.take j).filter keepC := by
  rw [List.take_add_one, h]
  have : keepC c = false := by simp [keepC]; omega
  simp [List.filter_append, this]
theorem BKeep.trans {B b : Nat} {w w1 w2 : World} (h : BKeep B b w w1) (hb : b < B) (k : BKeep B b w1 w2) : BKeep B b w w2 :=
  ⟨Nat.le_trans h.1 k.1, fun i h1 h2 => (k.2.1 i h1 h2).trans (h.2.1 i h1 h2), fun x hx => (h.2.2 x hx).trans (k.2.2 x hx)⟩
theorem BKeep.bytes_le {b : Nat} {w3 wr : World} {s : ByteArray} (h : BKeep (w3.heap.size + 1) b (Lib.bytesWorld w3 5 s) wr) : w3.heap.size + 1 ≤ wr.heap.size := by
  have := h.1
  rw [Lib.bytesWorld_size] at this
  exact this
theorem keepN_le (l : List UInt8) (j : Nat) : (Lib.byteCells ((l.take j).filter keepC)).length ≤ j := by
  rw [Lib.byteCells_length]
  exact Nat.le_trans (List.length_filter_le _ _) (by rw [List.length_take]; omega)
theorem keepN_snoc (l : List UInt8) (j : Nat) (c : UInt8) (n : Int) (hn : n = (c.toNat : Int)) (h : l[j]? = some c) (h1 : n ≠ 9) (h2 : n ≠ 10) (h3 : n ≠ 13) : Lib.byteCells ((l.take (j + 1)).filter keepC) = Lib.byteCells ((l.take j).filter keepC) ++ [Value.int .u8 n] := by
  subst hn
  rw [keep_yes l j c h h1 h2 h3]
  simp [Lib.byteCells]
theorem bld_string (B b : Nat) (p v : Value) (l : List UInt8) (w : World) (hb : w.heap[b]? = some (.cells #[p, v] 87 (0, 0))) (hp : p = .pointer none ∨ p = .pointer (some ⟨b, 0, none⟩)) (hown : w.ownsRow B 5 1 v (Lib.byteCells l).length (Lib.byteCells l)) (hbB : b < B) :
  Calls Tryd.prog 81 #[.pointer (some ⟨b, 0, none⟩)] w fun e w' => e = .returned (.string ⟨l.toArray⟩) ∧ Below b w w' := by
 have hI : Lib.IsBuilder 87 5 b b (Lib.byteCells l) w := by
  have h2 : w.ownsRow b 5 1 v (Lib.byteCells l).length (Lib.byteCells l) := Kd.own_raise hown (fun k hk => by have := own_base hown k hk; omega);have h3 : v.ownBlock ≠ some b := fun e => by have := own_base hown b e; omega
  rcases hp with rfl | rfl
  ·exact .inl ⟨Nat.le_refl _, v, hb, h2, h3⟩
  exact .inr ⟨Nat.le_refl _, v, hb, h2, h3⟩
 exact Any.Builder_String_any lays169 bExtra169 b b l w hI (Nat.le_of_lt (blk_lt hb))
theorem tidyL_end (a0 : ByteArray) (x : Int) (h : a0.data.toList.drop x.toNat = a0.data.toList.dropWhile lowC) : ((a0.data.toList.drop x.toNat).take (a0.size - x.toNat)).filter keepC = tidyL a0.data.toList := by
  rw [List.take_of_length_le (by simp), h]
  rfl
theorem tidy_below (gb : Nat) (wc w3 wr w1 : World) (hg : gb = wc.heap.size) (h3 : Below wc.heap.size wc w3) (hlt : gb < w3.heap.size) (s : ByteArray) (hk : BKeep (w3.heap.size + 1) gb (Lib.bytesWorld w3 5 s) wr) (hb : Below gb wr w1) : Below wc.heap.size wc w1 := by
 subst hg;have h4 : Below wc.heap.size wc (Lib.bytesWorld w3 5 s) := bytes_below h3 (Nat.le_of_lt hlt) 5 s;exact (h4.trans (hk.2.2 _ (Nat.le_refl _))).trans hb
theorem tidy_cell (a0 : ByteArray) (x : Int) (w3 wr : World) (gb j : Nat) (c : UInt8) (hc : (a0.data.toList.drop x.toNat)[j]? = some c) (hg : gb < w3.heap.size) (hk : BKeep (w3.heap.size + 1) gb (Lib.bytesWorld w3 5 (a0.extract x.toNat a0.size)) wr) : wr.cell? ⟨w3.heap.size, j, none⟩ = some (.int .u8 (c.toNat : Int)) := by
 have e := Lib.extract_to_end a0 x.toNat
 have hl : j < (a0.extract x.toNat a0.size).size := by
  have h1 := (List.getElem?_eq_some_iff.1 hc).1;rw [← e] at h1
  simpa using h1
 have h := Lib.bytesWorld_cell w3 5 (a0.extract x.toNat a0.size) j hl;rw [e, List.getD_eq_getElem?_getD, hc] at h;rw [show wr.cell? ⟨w3.heap.size, j, none⟩ = (Lib.bytesWorld w3 5 (a0.extract x.toNat a0.size)).cell? ⟨w3.heap.size, j, none⟩ by simp only [World.cell?, hk.2.1 w3.heap.size (by omega) (by omega)]];exact h
theorem scheme_tidy.calls (a0 : ByteArray) (r : ByteArray) (w : World) (h : scheme_tidy.f a0 = some r) :
  Calls Tryd.prog 57 #[.string a0] w fun e w' => e = .returned (.string r) ∧ Below w.heap.size w w' := by
 obtain ⟨hs, rfl⟩ : a0.size ≤ 140737488351232 ∧ (⟨(tidyL a0.data.toList).toArray⟩ : ByteArray) = r := by
  unfold scheme_tidy.f at h
  split at h
  ·next hs => exact ⟨hs, by simpa using h⟩
  simp at h
 clear h;have hcv := fun W s => Lib.run_convert_string_bytes (P := Tryd.prog) W 9 85 5 s Tryd.underlying9 Tryd.underlying85 Tryd.underlying5
 go_enter Tryd.func57, Tryd.ntmps57
 go_upto_block 0 with (fail)
 go_cut [3] (fun v3 wc => ∃ x : Int, 0 ≤ x ∧ x ≤ (a0.size : Int) ∧ v3 = .int .i64 x ∧ Aside0 (wc = w) ∧ Aside0 (a0.data.toList.drop x.toNat = a0.data.toList.dropWhile lowC))
 case first =>
  go_wp2
  go_loopw [3] (fun i wr => ∃ x : Int, 0 ≤ x ∧ x ≤ (a0.size : Int) ∧ i = .int .i64 x ∧ wr = w ∧ (a0.data.toList.drop x.toNat).dropWhile lowC = a0.data.toList.dropWhile lowC) (fun i _ => a0.size - (intOf i).toNat)
  case atStart => exact ⟨0, by omega, by omega, rfl, by first | rfl | trivial, rfl⟩
  case round =>
   obtain ⟨x, hx0, hx1, rfl, rfl, hdw⟩ := hrel;have HD := Am hdw;clear hdw
   by_cases hlt : x < (a0.size : Int)
   ·have cq : decide (x < (a0.size : Int)) = true := decide_eq_true hlt;have hx := bt_at a0 x;have p_ : (0 ≤ x) = True := eq_true hx0;have q_ : (x < (a0.size : Int)) = True := eq_true hlt
    by_cases c1 : bt a0 x ≤ 32
    ·have c1b : decide (bt a0 x ≤ 32) = true := decide_eq_true c1;go_wp2;go_roundw
     case rel => exact ⟨x + 1, by omega, by omega, by go_num, by first | rfl | trivial, (drop_low a0 x hx0 hlt c1).trans HD.out⟩
     case measure => simp [intOf]; omega
    have c1b : decide (bt a0 x ≤ 32) = false := decide_eq_false c1;go_wp2;go_meet
    case rel => exact ⟨_, hx0, hx1, rfl, ⟨by first | rfl | trivial⟩, ⟨(drop_high a0 x hx0 hlt c1).symm.trans HD.out⟩⟩
   have cq : decide (x < (a0.size : Int)) = false := decide_eq_false hlt;go_wp2;go_meet
   case rel => exact ⟨_, hx0, hx1, rfl, ⟨by first | rfl | trivial⟩, ⟨by rw [← HD.out, List.drop_of_length_le (by simp; omega)]; rfl⟩⟩
 case rest =>
  obtain ⟨x, hx0, hx1, rfl, hw, HD⟩ := hcut;have hw' := hw.out;subst hw';clear hw;go_wp2_with (first | ((with_reducible refine gate_dst (N := 4) rfl ?_); refine boxE 87 4 (cs := #[.pointer none, .slice none 0 0]) ?_; intro gb hg w3 hbox hb; have BK := Am hbox; have HB3 := Am hb; have GE := Am hg; clear hbox hb hg))
  go_loopw [24] (fun i wr => ∃ (j : Nat) (p v : Value), j ≤ (a0.size - x.toNat) ∧ i = .int .i64 j ∧ Aside0 (wr.heap[gb]? = some (.cells #[p, v] 87 (0, 0))) ∧ Aside0 (p = .pointer none ∨ p = .pointer (some ⟨gb, 0, none⟩)) ∧ Aside0 (wr.ownsRow (w3.heap.size + 1) 5 1 v (Lib.byteCells (((a0.data.toList.drop x.toNat).take j).filter keepC)).length (Lib.byteCells (((a0.data.toList.drop x.toNat).take j).filter keepC))) ∧ Aside0 (BKeep (w3.heap.size + 1) gb (Lib.bytesWorld w3 5 (a0.extract x.toNat a0.size)) wr)) (fun i _ => a0.size - x.toNat - (intOf i).toNat)
  case atStart => exact ⟨0, .pointer none, .slice none 0 0, Nat.zero_le _, by go_num, ⟨by rw [Lib.bytesWorld_at_old _ _ _ _ (blk_lt BK.out)]; exact BK.out⟩, ⟨.inl rfl⟩, ⟨own_nil _ _ _ _⟩, ⟨Nat.le_refl _, fun _ _ _ => rfl, fun _ _ => Below.refl _ _⟩⟩
  case round =>
   obtain ⟨j, p, v, hj, rfl, HBk, HP, HO, HK⟩ := hrel
   by_cases hlt : j < a0.size - x.toNat
   ·obtain ⟨c, hc⟩ : ∃ c, (a0.data.toList.drop x.toNat)[j]? = some c := ⟨_, List.getElem?_eq_getElem (by simp; omega)⟩;have hcell : wr.cell? ⟨w3.heap.size, j, none⟩ = some (.int .u8 (c.toNat : Int)) := tidy_cell a0 x w3 wr gb j c hc (blk_lt BK.out) HK.out;have HC := Am hc;clear hc;obtain ⟨n, hn⟩ : ∃ n : Int, n = (c.toNat : Int) := ⟨_, rfl⟩;rw [← hn] at hcell;have HN := Am hn;have hn0 : 0 ≤ n := by omega
    have hn1 : n ≤ 255 := by have := c.toNat_lt; omega
    clear hn
    by_cases h9 : n = 9
    ·have b9 : (n != 9) = false := bne_eq_false_iff_eq.mpr h9;have H9 := Am h9;clear h9;go_wp2;go_roundw
     case rel => exact ⟨j + 1, p, v, by omega, by go_num, HBk, HP, ⟨by rw [keep_no _ j c HC.out (by rw [← HN.out]; exact .inl H9.out)]; exact HO.out⟩, HK⟩
     case measure => simp [intOf]; omega
    have b9 : (n != 9) = true := bne_iff_ne.mpr h9;have N9 := Am h9;clear h9
    by_cases h10 : n = 10
    ·have b10 : (n != 10) = false := bne_eq_false_iff_eq.mpr h10;have H10 := Am h10;clear h10;go_wp2;go_roundw
     case rel => exact ⟨j + 1, p, v, by omega, by go_num, HBk, HP, ⟨by rw [keep_no _ j c HC.out (by rw [← HN.out]; exact .inr (.inl H10.out))]; exact HO.out⟩, HK⟩
     case measure => simp [intOf]; omega
    have b10 : (n != 10) = true := bne_iff_ne.mpr h10;have N10 := Am h10;clear h10
    by_cases h13 : n = 13
    ·have b13 : (n != 13) = false := bne_eq_false_iff_eq.mpr h13;have H13 := Am h13;clear h13;go_wp2;go_roundw
     case rel => exact ⟨j + 1, p, v, by omega, by go_num, HBk, HP, ⟨by rw [keep_no _ j c HC.out (by rw [← HN.out]; exact .inr (.inr H13.out))]; exact HO.out⟩, HK⟩
     case measure => simp [intOf]; omega
    have b13 : (n != 13) = true := bne_iff_ne.mpr h13;have N13 := Am h13;clear h13;go_wp2_with (go_at_call 80; (with_reducible refine (bld_byte (w3.heap.size + 1) gb p v _ n _ HBk.out HP.out HO.out ?side1 ?side2 ?side3).mono ?_); (case side1 => have := blk_lt BK.out; omega); (case side2 => exact HK.out.bytes_le); (case side3 => have := keepN_le (a0.data.toList.drop x.toNat) j; omega); rintro e w1 ⟨rfl, hx⟩; have HX := Am hx; clear hx);obtain ⟨v', hb', ho', hk'⟩ := HX.out;have HB' := Am hb';have HO' := Am ho';have HK' := Am hk';clear hb' ho' hk' HX;go_wp2;go_roundw
    case rel => exact ⟨j + 1, _, v', by omega, by go_num, HB', ⟨.inr rfl⟩, ⟨by rw [keepN_snoc _ j c n HN.out HC.out N9.out N10.out N13.out]; exact HO'.out⟩, ⟨HK.out.trans (Nat.lt_succ_of_lt (blk_lt BK.out)) HK'.out⟩⟩
    case measure => simp [intOf]; omega
   obtain rfl : j = a0.size - x.toNat := by omega
   have HO' := Am (show wr.ownsRow (w3.heap.size + 1) 5 1 v (Lib.byteCells (tidyL a0.data.toList)).length (Lib.byteCells (tidyL a0.data.toList)) from by have := HO.out; rwa [tidyL_end a0 x HD.out] at this);clear HO;go_wp2_with (go_at_call 81; (with_reducible refine (bld_string (w3.heap.size + 1) gb p v (tidyL a0.data.toList) _ HBk.out HP.out HO'.out (Nat.lt_succ_of_lt (blk_lt BK.out))).mono ?_); rintro e w1 ⟨rfl, hb⟩; have HBX := Am hb; clear hb);go_ret;exact ⟨rfl, tidy_below gb wc w3 wr w1 GE.out HB3.out (blk_lt BK.out) (a0.extract x.toNat a0.size) HK.out HBX.out⟩


end Go.Proofs.YtnbghhddmlohoaaDoor.PAll

end
