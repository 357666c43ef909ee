-- Written by a program of this session (hprint.py: the kit's print over several laws at once, with functions proved by hand). Lean checks it.
import Derived.Test.YtobdmbebgdkelaaPAllx0
import Derived.Test.YtobdmbebgdkelaaPAllx5
import Derived.Test.YtobdmbebgdkelaaPAllx6
import Derived.Test.YtobdmbebgdkelaaPAllx7
import Derived.Test.YtobdmbebgdkelaaPAllx8
namespace Go.Proofs.Ytobdmbebgdkelaa.PAll
open Go.RowKit Go.Proofs.YtobdmbebgdkelaaW.PrintWords Go.Proofs.YtobdmbebgdkelaaW.PrintLast Go.Proofs.YtobdmbebgdkelaaW.PrintMore
attribute [local go_sem] max2_int min2_int max_two min_two max_three min_three max_four min_four   -- for this text's walks alone
set_option linter.unusedVariables false
set_option linter.unusedSimpArgs false

/-! ### marginalialaw06_alive: function 10 -/
def marginalialaw06_alive.f (k : Nat)  : Option (Bool) := (some (([(⟨0, 0, (⟨#[104, 116, 109, 108]⟩ : ByteArray)⟩ : S35), (⟨1, 0, (⟨#[116, 97, 98, 108, 101]⟩ : ByteArray)⟩ : S35), (⟨2, 0, (⟨#[116, 100]⟩ : ByteArray)⟩ : S35), (⟨3, 0, (⟨#[112]⟩ : ByteArray)⟩ : S35)] : List (S35)) : List (S35))).bind fun y169 => ((opens_Has.f k y169 (([(⟨#[116, 97, 98, 108, 101]⟩ : ByteArray)] : List ByteArray)) 1).bind fun t175 => (if t175 = true then (some false) else ((opens_Has.f k y169 (([(⟨#[116, 97, 98, 108, 101]⟩ : ByteArray)] : List ByteArray)) 4).bind fun t179 => (if t179 = true then ((opens_Cut.f k y169 (([(⟨#[116, 97, 98, 108, 101]⟩ : ByteArray)] : List ByteArray))).bind fun t183 => (if t183 = 1 then ((opens_Implied.f k y169 (⟨#[]⟩ : ByteArray)).bind fun t184 => (if t184 = 3 then ((opens_Find.f k y169 2).bind fun t185 => (some (t185 == 2))) else (some false))) else (some false))) else (some false)))))
theorem marginalialaw06_alive.mono : ∀ k, LeO (marginalialaw06_alive.f k ) (marginalialaw06_alive.f (k + 1) ) := by
  intro  k
  unfold marginalialaw06_alive.f
  repeat' first
      | (with_reducible exact opens_Cut.mono _ _ _)
      | (with_reducible exact opens_Find.mono _ _ _)
      | (with_reducible exact opens_Has.mono _ _ _ _)
      | (with_reducible exact opens_Implied.mono _ _ _)
      | (with_reducible exact LeO.refl _)
      | (with_reducible exact LeO.none _)
      | (with_reducible refine LeO.ite ?_ ?_)
      | (with_reducible refine LeO.bind ?_ (fun _ => ?_))
      | exact opens_Cut.mono _ _ _
      | exact opens_Find.mono _ _ _
      | exact opens_Has.mono _ _ _ _
      | exact opens_Implied.mono _ _ _
      | exact LeO.none _
      | refine LeO.ite ?_ ?_
      | refine LeO.bind ?_ (fun _ => ?_)
set_option maxHeartbeats 8000000 in
set_option maxRecDepth 100000 in
theorem marginalialaw06_alive.calls (k : Nat)  (r : Bool) (w : World) (h : marginalialaw06_alive.f k  = some r) :
    Calls Try.prog 10 #[] w fun e w' => e = .returned (.bool r) ∧ Below w.heap.size w w' := by
  have hu35 := Try.underlying35
  have HB := Aside0.mk (Below.refl w.heap.size w)
  have H : ((some (([(⟨0, 0, (⟨#[104, 116, 109, 108]⟩ : ByteArray)⟩ : S35), (⟨1, 0, (⟨#[116, 97, 98, 108, 101]⟩ : ByteArray)⟩ : S35), (⟨2, 0, (⟨#[116, 100]⟩ : ByteArray)⟩ : S35), (⟨3, 0, (⟨#[112]⟩ : ByteArray)⟩ : S35)] : List (S35)) : List (S35))).bind fun y169 => ((opens_Has.f k y169 (([(⟨#[116, 97, 98, 108, 101]⟩ : ByteArray)] : List ByteArray)) 1).bind fun t175 => (if t175 = true then (some false) else ((opens_Has.f k y169 (([(⟨#[116, 97, 98, 108, 101]⟩ : ByteArray)] : List ByteArray)) 4).bind fun t179 => (if t179 = true then ((opens_Cut.f k y169 (([(⟨#[116, 97, 98, 108, 101]⟩ : ByteArray)] : List ByteArray))).bind fun t183 => (if t183 = 1 then ((opens_Implied.f k y169 (⟨#[]⟩ : ByteArray)).bind fun t184 => (if t184 = 3 then ((opens_Find.f k y169 2).bind fun t185 => (some (t185 == 2))) else (some false))) else (some false))) else (some false)))))) = some r := h
  clear h
  obtain ⟨y169, hy169⟩ : ∃ y_ : List (S35), y_ = (([(⟨0, 0, (⟨#[104, 116, 109, 108]⟩ : ByteArray)⟩ : S35), (⟨1, 0, (⟨#[116, 97, 98, 108, 101]⟩ : ByteArray)⟩ : S35), (⟨2, 0, (⟨#[116, 100]⟩ : ByteArray)⟩ : S35), (⟨3, 0, (⟨#[112]⟩ : ByteArray)⟩ : S35)] : List (S35))) := ⟨_, rfl⟩
  replace H : ((opens_Has.f k y169 (([(⟨#[116, 97, 98, 108, 101]⟩ : ByteArray)] : List ByteArray)) 1).bind fun t175 => (if t175 = true then (some false) else ((opens_Has.f k y169 (([(⟨#[116, 97, 98, 108, 101]⟩ : ByteArray)] : List ByteArray)) 4).bind fun t179 => (if t179 = true then ((opens_Cut.f k y169 (([(⟨#[116, 97, 98, 108, 101]⟩ : ByteArray)] : List ByteArray))).bind fun t183 => (if t183 = 1 then ((opens_Implied.f k y169 (⟨#[]⟩ : ByteArray)).bind fun t184 => (if t184 = 3 then ((opens_Find.f k y169 2).bind fun t185 => (some (t185 == 2))) else (some false))) else (some false))) else (some false))))) = some r := by first | (rw [hy169]; with_reducible exact H) | (have H2_ := (Option.bind_some _ _).symm.trans H; rw [hy169]; with_reducible exact H2_) | (have H2_ := (Option.bind_some _ _).symm.trans H; with_reducible exact H2_) | with_reducible exact H | (rw [hy169]; exact H) | exact H
  have Ny169 := Aside0.mk hy169
  clear hy169
  obtain ⟨y172, hy172⟩ : ∃ y_ : List ByteArray, y_ = (([(⟨#[116, 97, 98, 108, 101]⟩ : ByteArray)] : List ByteArray)) := ⟨_, rfl⟩
  replace H : ((opens_Has.f k y169 y172 1).bind fun t175 => (if t175 = true then (some false) else ((opens_Has.f k y169 (([(⟨#[116, 97, 98, 108, 101]⟩ : ByteArray)] : List ByteArray)) 4).bind fun t179 => (if t179 = true then ((opens_Cut.f k y169 (([(⟨#[116, 97, 98, 108, 101]⟩ : ByteArray)] : List ByteArray))).bind fun t183 => (if t183 = 1 then ((opens_Implied.f k y169 (⟨#[]⟩ : ByteArray)).bind fun t184 => (if t184 = 3 then ((opens_Find.f k y169 2).bind fun t185 => (some (t185 == 2))) else (some false))) else (some false))) else (some false))))) = some r := by first | (rw [hy172]; with_reducible exact H) | (have H2_ := (Option.bind_some _ _).symm.trans H; rw [hy172]; with_reducible exact H2_) | (have H2_ := (Option.bind_some _ _).symm.trans H; with_reducible exact H2_) | with_reducible exact H | (rw [hy172]; exact H) | exact H
  have Ny172 := Aside0.mk hy172
  clear hy172
  replace H := Option.bind_eq_some_iff.mp H
  obtain ⟨t175, A10, H⟩ := H
  replace H : (if t175 = true then (some false) else ((opens_Has.f k y169 (([(⟨#[116, 97, 98, 108, 101]⟩ : ByteArray)] : List ByteArray)) 4).bind fun t179 => (if t179 = true then ((opens_Cut.f k y169 (([(⟨#[116, 97, 98, 108, 101]⟩ : ByteArray)] : List ByteArray))).bind fun t183 => (if t183 = 1 then ((opens_Implied.f k y169 (⟨#[]⟩ : ByteArray)).bind fun t184 => (if t184 = 3 then ((opens_Find.f k y169 2).bind fun t185 => (some (t185 == 2))) else (some false))) else (some false))) else (some false)))) = some r := H
  have A1 := Aside0.mk A10
  clear A10
  by_cases c2 : t175 = true
  · subst c2
    have H1 : (some false) = some r := by rw [if_pos rfl] at H; exact H
    clear H
    have H := H1
    clear H1
    obtain rfl := Option.some.inj H
    go_enter Try.func10, Try.ntmps10
    go_wp2_with (first | ((with_reducible refine gate_dst (N := 6) rfl ?_); (try (refine gate_guard (by rfl) ?_; dsimp only)); refine Kd.R_lit k35 _ 35 ?hg (N := 6) ?hd (xs := ([(⟨0, 0, (⟨#[104, 116, 109, 108]⟩ : ByteArray)⟩ : S35), (⟨1, 0, (⟨#[116, 97, 98, 108, 101]⟩ : ByteArray)⟩ : S35), (⟨2, 0, (⟨#[116, 100]⟩ : ByteArray)⟩ : S35), (⟨3, 0, (⟨#[112]⟩ : ByteArray)⟩ : S35)] : List (S35))) (inner := [.int .i64 0, .int .i64 0, .string (⟨#[104, 116, 109, 108]⟩ : ByteArray), .int .i64 1, .int .i64 0, .string (⟨#[116, 97, 98, 108, 101]⟩ : ByteArray), .int .i64 2, .int .i64 0, .string (⟨#[116, 100]⟩ : ByteArray), .int .i64 3, .int .i64 0, .string (⟨#[112]⟩ : ByteArray)]) (ok := fun _ => True) (okp := fun _ => True) ?hr ?hp (fun _ hk => hk) trivial (Below.refl _ _) (Nat.le_refl _) (by simp) ?_; (case hd => rfl); (case hg => rfl); (case hr => first | (go_simp; done) | (go_simp; rfl)); (case hp => exact (Reps.c3 (show Kd.M k35 _ _ _ (⟨0, 0, (⟨#[104, 116, 109, 108]⟩ : ByteArray)⟩ : S35) [.int .i64 0, .int .i64 0, .string (⟨#[104, 116, 109, 108]⟩ : ByteArray)] from (k35_mkM _ _ _ (⟨0, 0, (⟨#[104, 116, 109, 108]⟩ : ByteArray)⟩ : S35) )) (Reps.c3 (show Kd.M k35 _ _ _ (⟨1, 0, (⟨#[116, 97, 98, 108, 101]⟩ : ByteArray)⟩ : S35) [.int .i64 1, .int .i64 0, .string (⟨#[116, 97, 98, 108, 101]⟩ : ByteArray)] from (k35_mkM _ _ _ (⟨1, 0, (⟨#[116, 97, 98, 108, 101]⟩ : ByteArray)⟩ : S35) )) (Reps.c3 (show Kd.M k35 _ _ _ (⟨2, 0, (⟨#[116, 100]⟩ : ByteArray)⟩ : S35) [.int .i64 2, .int .i64 0, .string (⟨#[116, 100]⟩ : ByteArray)] from (k35_mkM _ _ _ (⟨2, 0, (⟨#[116, 100]⟩ : ByteArray)⟩ : S35) )) (Reps.c3 (show Kd.M k35 _ _ _ (⟨3, 0, (⟨#[112]⟩ : ByteArray)⟩ : S35) [.int .i64 3, .int .i64 0, .string (⟨#[112]⟩ : ByteArray)] from (k35_mkM _ _ _ (⟨3, 0, (⟨#[112]⟩ : ByteArray)⟩ : S35) )) (Reps.none _ _)))))); intro v170 w3 ho4 hb hg_ hnew_; clear hg_ hnew_; (first | rw [← Ny169.out] at ho4 | (simp only [Int.reduceToNat] at ho4; rw [← Ny169.out] at ho4)); have n0_ := Aside0.mk (Kd.R_lower ho4 (below_size (by repeat (first | (with_reducible first | exact HB.out | apply below_alloc | apply pw_below_drewN | apply below_drew1) | exact HB.out)))); have n1_ := Aside0.mk (below_step (by repeat (first | (with_reducible first | exact HB.out | apply below_alloc | apply pw_below_drewN | apply below_drew1) | exact HB.out)) hb); clear HB; have HO171 := n0_; have HB := n1_; clear n0_ n1_; clear hb ho4) | ((with_reducible refine gate_dst (N := 8) rfl ?_); (try (refine gate_guard (by rfl) ?_; dsimp only)); refine Kd.R_lit Kd.string _ 9 ?hg (N := 8) ?hd (xs := ([(⟨#[116, 97, 98, 108, 101]⟩ : ByteArray)] : List ByteArray)) (inner := [.string (⟨#[116, 97, 98, 108, 101]⟩ : ByteArray)]) (ok := fun _ => True) (okp := fun _ => True) ?hr ?hp (fun _ hk => hk) trivial (Below.refl _ _) (Nat.le_refl _) (by simp) ?_; (case hd => rfl); (case hg => rfl); (case hr => first | (go_simp; done) | (go_simp; rfl)); (case hp => exact (Reps.one (show Kd.M Kd.string _ _ _ (⟨#[116, 97, 98, 108, 101]⟩ : ByteArray) [.string (⟨#[116, 97, 98, 108, 101]⟩ : ByteArray)] from rfl) (Reps.none _ _))); intro v173 w5 ho6 hb hg_ hnew_; clear hg_ hnew_; (first | rw [← Ny172.out] at ho6 | (simp only [Int.reduceToNat] at ho6; rw [← Ny172.out] at ho6)); have n0_ := Aside0.mk (Kd.R_below (by (with_reducible repeat (first | apply Kd.R_alloc | apply Kd.R_drewN | apply Kd.R_drew)); exact HO171.out) hb); have n1_ := Aside0.mk (Kd.R_lower ho6 (below_size (by repeat (first | (with_reducible first | exact HB.out | apply below_alloc | apply pw_below_drewN | apply below_drew1) | exact HB.out)))); have n2_ := Aside0.mk (below_step (by repeat (first | (with_reducible first | exact HB.out | apply below_alloc | apply pw_below_drewN | apply below_drew1) | exact HB.out)) hb); clear HO171; clear HB; have HO171 := n0_; have HO174 := n1_; have HB := n2_; clear n0_ n1_ n2_; clear hb ho6; obtain ⟨Ao7, co7, eo7⟩ := Kd.R_slice HO171.out; subst eo7; obtain ⟨Ao8, co8, eo8⟩ := Kd.R_slice HO174.out; subst eo8) | ((with_reducible refine gate_callee (f := 11) rfl ?_); refine goesL_ (some 9) rfl rfl Try.func11 (by kernel_rfl) rfl #[.slice Ao7 y169.length co7, .slice Ao8 y172.length co8, .int .i64 1] rfl (by (try simp only [List.map_toArray, List.map_cons, List.map_nil]); first | done | rfl | (simp only [List.length_drop, List.length_take]; rfl)) ?_; (with_reducible refine (opens_Has.calls k _ _ y169 _ _ y172 1 true _ ?side1 ?side2 ?side3 ?side4 A1.out).mono ?_); (case side1 => repeat (first | exact (Kd.R_reads' HO171.out).2.2 | (with_reducible refine Kd.C_alloc ?_ _) | (with_reducible refine Kd.C_drewN ?_ _) | (with_reducible refine Kd.C_drew ?_))); (case side2 => exact (Kd.R_reads' HO171.out).2.1); (case side3 => repeat (first | exact (Kd.R_reads' HO174.out).2.2 | (with_reducible refine Kd.C_alloc ?_ _) | (with_reducible refine Kd.C_drewN ?_ _) | (with_reducible refine Kd.C_drew ?_))); (case side4 => exact (Kd.R_reads' HO174.out).2.1); rintro e w9 ⟨rfl, hb⟩; refine ⟨_, rfl, ?_⟩; have n0_ := Aside0.mk (Kd.R_below (by (with_reducible repeat (first | apply Kd.R_alloc | apply Kd.R_drewN | apply Kd.R_drew)); exact HO171.out) hb); have n1_ := Aside0.mk (Kd.R_below (by (with_reducible repeat (first | apply Kd.R_alloc | apply Kd.R_drewN | apply Kd.R_drew)); exact HO174.out) hb); have n2_ := Aside0.mk (below_step (by repeat (first | (with_reducible first | exact HB.out | apply below_alloc | apply pw_below_drewN | apply below_drew1) | exact HB.out)) hb); clear HO171; clear HO174; clear HB; have HO171 := n0_; have HO174 := n1_; have HB := n2_; clear n0_ n1_ n2_; (try clear hb); (try clear hb2); (try clear hk); (try clear hi)))
    go_ret
    exact ⟨by first | rfl | (simp [errW_none, errW_some] <;> rfl) | (simp [*, errW_none, errW_some] <;> rfl), by repeat (first | (with_reducible first | exact HB.out | apply below_alloc | apply pw_below_drewN | apply below_drew1) | exact HB.out)⟩
  · replace c2 := Bool.eq_false_iff.mpr c2
    subst c2
    have H1 : ((opens_Has.f k y169 (([(⟨#[116, 97, 98, 108, 101]⟩ : ByteArray)] : List ByteArray)) 4).bind fun t179 => (if t179 = true then ((opens_Cut.f k y169 (([(⟨#[116, 97, 98, 108, 101]⟩ : ByteArray)] : List ByteArray))).bind fun t183 => (if t183 = 1 then ((opens_Implied.f k y169 (⟨#[]⟩ : ByteArray)).bind fun t184 => (if t184 = 3 then ((opens_Find.f k y169 2).bind fun t185 => (some (t185 == 2))) else (some false))) else (some false))) else (some false))) = some r := by rw [if_neg (show ¬ (false = true) by decide)] at H; exact H
    clear H
    have H := H1
    clear H1
    obtain ⟨y176, hy176⟩ : ∃ y_ : List ByteArray, y_ = (([(⟨#[116, 97, 98, 108, 101]⟩ : ByteArray)] : List ByteArray)) := ⟨_, rfl⟩
    replace H : ((opens_Has.f k y169 y176 4).bind fun t179 => (if t179 = true then ((opens_Cut.f k y169 (([(⟨#[116, 97, 98, 108, 101]⟩ : ByteArray)] : List ByteArray))).bind fun t183 => (if t183 = 1 then ((opens_Implied.f k y169 (⟨#[]⟩ : ByteArray)).bind fun t184 => (if t184 = 3 then ((opens_Find.f k y169 2).bind fun t185 => (some (t185 == 2))) else (some false))) else (some false))) else (some false))) = some r := by first | (rw [hy176]; with_reducible exact H) | (have H2_ := (Option.bind_some _ _).symm.trans H; rw [hy176]; with_reducible exact H2_) | (have H2_ := (Option.bind_some _ _).symm.trans H; with_reducible exact H2_) | with_reducible exact H | (rw [hy176]; exact H) | exact H
    have Ny176 := Aside0.mk hy176
    clear hy176
    replace H := Option.bind_eq_some_iff.mp H
    obtain ⟨t179, A100, H⟩ := H
    replace H : (if t179 = true then ((opens_Cut.f k y169 (([(⟨#[116, 97, 98, 108, 101]⟩ : ByteArray)] : List ByteArray))).bind fun t183 => (if t183 = 1 then ((opens_Implied.f k y169 (⟨#[]⟩ : ByteArray)).bind fun t184 => (if t184 = 3 then ((opens_Find.f k y169 2).bind fun t185 => (some (t185 == 2))) else (some false))) else (some false))) else (some false)) = some r := H
    have A10 := Aside0.mk A100
    clear A100
    by_cases c11 : t179 = true
    · subst c11
      have H1 : ((opens_Cut.f k y169 (([(⟨#[116, 97, 98, 108, 101]⟩ : ByteArray)] : List ByteArray))).bind fun t183 => (if t183 = 1 then ((opens_Implied.f k y169 (⟨#[]⟩ : ByteArray)).bind fun t184 => (if t184 = 3 then ((opens_Find.f k y169 2).bind fun t185 => (some (t185 == 2))) else (some false))) else (some false))) = some r := by rw [if_pos rfl] at H; exact H
      clear H
      have H := H1
      clear H1
      obtain ⟨y180, hy180⟩ : ∃ y_ : List ByteArray, y_ = (([(⟨#[116, 97, 98, 108, 101]⟩ : ByteArray)] : List ByteArray)) := ⟨_, rfl⟩
      replace H : ((opens_Cut.f k y169 y180).bind fun t183 => (if t183 = 1 then ((opens_Implied.f k y169 (⟨#[]⟩ : ByteArray)).bind fun t184 => (if t184 = 3 then ((opens_Find.f k y169 2).bind fun t185 => (some (t185 == 2))) else (some false))) else (some false))) = some r := by first | (rw [hy180]; with_reducible exact H) | (have H2_ := (Option.bind_some _ _).symm.trans H; rw [hy180]; with_reducible exact H2_) | (have H2_ := (Option.bind_some _ _).symm.trans H; with_reducible exact H2_) | with_reducible exact H | (rw [hy180]; exact H) | exact H
      have Ny180 := Aside0.mk hy180
      clear hy180
      replace H := Option.bind_eq_some_iff.mp H
      obtain ⟨t183, A120, H⟩ := H
      replace H : (if t183 = 1 then ((opens_Implied.f k y169 (⟨#[]⟩ : ByteArray)).bind fun t184 => (if t184 = 3 then ((opens_Find.f k y169 2).bind fun t185 => (some (t185 == 2))) else (some false))) else (some false)) = some r := H
      have A12 := Aside0.mk A120
      clear A120
      by_cases c13 : t183 = 1
      · rw [if_pos c13] at H
        have c13b0 : (t183 == 1) = true := beq_iff_eq.mpr c13
        have c13b1 : (t183 != 1) = false := bne_eq_false_iff_eq.mpr c13
        clear c13
        replace H := Option.bind_eq_some_iff.mp H
        obtain ⟨t184, A140, H⟩ := H
        replace H : (if t184 = 3 then ((opens_Find.f k y169 2).bind fun t185 => (some (t185 == 2))) else (some false)) = some r := H
        have A14 := Aside0.mk A140
        clear A140
        by_cases c15 : t184 = 3
        · rw [if_pos c15] at H
          have c15b0 : (t184 == 3) = true := beq_iff_eq.mpr c15
          have c15b1 : (t184 != 3) = false := bne_eq_false_iff_eq.mpr c15
          clear c15
          replace H := Option.bind_eq_some_iff.mp H
          obtain ⟨t185, A160, H⟩ := H
          replace H : (some (t185 == 2)) = some r := H
          have A16 := Aside0.mk A160
          clear A160
          obtain rfl := Option.some.inj H
          go_enter Try.func10, Try.ntmps10
          go_wp2_with (first | ((with_reducible refine gate_dst (N := 6) rfl ?_); (try (refine gate_guard (by rfl) ?_; dsimp only)); refine Kd.R_lit k35 _ 35 ?hg (N := 6) ?hd (xs := ([(⟨0, 0, (⟨#[104, 116, 109, 108]⟩ : ByteArray)⟩ : S35), (⟨1, 0, (⟨#[116, 97, 98, 108, 101]⟩ : ByteArray)⟩ : S35), (⟨2, 0, (⟨#[116, 100]⟩ : ByteArray)⟩ : S35), (⟨3, 0, (⟨#[112]⟩ : ByteArray)⟩ : S35)] : List (S35))) (inner := [.int .i64 0, .int .i64 0, .string (⟨#[104, 116, 109, 108]⟩ : ByteArray), .int .i64 1, .int .i64 0, .string (⟨#[116, 97, 98, 108, 101]⟩ : ByteArray), .int .i64 2, .int .i64 0, .string (⟨#[116, 100]⟩ : ByteArray), .int .i64 3, .int .i64 0, .string (⟨#[112]⟩ : ByteArray)]) (ok := fun _ => True) (okp := fun _ => True) ?hr ?hp (fun _ hk => hk) trivial (Below.refl _ _) (Nat.le_refl _) (by simp) ?_; (case hd => rfl); (case hg => rfl); (case hr => first | (go_simp; done) | (go_simp; rfl)); (case hp => exact (Reps.c3 (show Kd.M k35 _ _ _ (⟨0, 0, (⟨#[104, 116, 109, 108]⟩ : ByteArray)⟩ : S35) [.int .i64 0, .int .i64 0, .string (⟨#[104, 116, 109, 108]⟩ : ByteArray)] from (k35_mkM _ _ _ (⟨0, 0, (⟨#[104, 116, 109, 108]⟩ : ByteArray)⟩ : S35) )) (Reps.c3 (show Kd.M k35 _ _ _ (⟨1, 0, (⟨#[116, 97, 98, 108, 101]⟩ : ByteArray)⟩ : S35) [.int .i64 1, .int .i64 0, .string (⟨#[116, 97, 98, 108, 101]⟩ : ByteArray)] from (k35_mkM _ _ _ (⟨1, 0, (⟨#[116, 97, 98, 108, 101]⟩ : ByteArray)⟩ : S35) )) (Reps.c3 (show Kd.M k35 _ _ _ (⟨2, 0, (⟨#[116, 100]⟩ : ByteArray)⟩ : S35) [.int .i64 2, .int .i64 0, .string (⟨#[116, 100]⟩ : ByteArray)] from (k35_mkM _ _ _ (⟨2, 0, (⟨#[116, 100]⟩ : ByteArray)⟩ : S35) )) (Reps.c3 (show Kd.M k35 _ _ _ (⟨3, 0, (⟨#[112]⟩ : ByteArray)⟩ : S35) [.int .i64 3, .int .i64 0, .string (⟨#[112]⟩ : ByteArray)] from (k35_mkM _ _ _ (⟨3, 0, (⟨#[112]⟩ : ByteArray)⟩ : S35) )) (Reps.none _ _)))))); intro v170 w17 ho18 hb hg_ hnew_; clear hg_ hnew_; (first | rw [← Ny169.out] at ho18 | (simp only [Int.reduceToNat] at ho18; rw [← Ny169.out] at ho18)); have n0_ := Aside0.mk (Kd.R_lower ho18 (below_size (by repeat (first | (with_reducible first | exact HB.out | apply below_alloc | apply pw_below_drewN | apply below_drew1) | exact HB.out)))); have n1_ := Aside0.mk (below_step (by repeat (first | (with_reducible first | exact HB.out | apply below_alloc | apply pw_below_drewN | apply below_drew1) | exact HB.out)) hb); clear HB; have HO171 := n0_; have HB := n1_; clear n0_ n1_; clear hb ho18) | ((with_reducible refine gate_dst (N := 8) rfl ?_); (try (refine gate_guard (by rfl) ?_; dsimp only)); refine Kd.R_lit Kd.string _ 9 ?hg (N := 8) ?hd (xs := ([(⟨#[116, 97, 98, 108, 101]⟩ : ByteArray)] : List ByteArray)) (inner := [.string (⟨#[116, 97, 98, 108, 101]⟩ : ByteArray)]) (ok := fun _ => True) (okp := fun _ => True) ?hr ?hp (fun _ hk => hk) trivial (Below.refl _ _) (Nat.le_refl _) (by simp) ?_; (case hd => rfl); (case hg => rfl); (case hr => first | (go_simp; done) | (go_simp; rfl)); (case hp => exact (Reps.one (show Kd.M Kd.string _ _ _ (⟨#[116, 97, 98, 108, 101]⟩ : ByteArray) [.string (⟨#[116, 97, 98, 108, 101]⟩ : ByteArray)] from rfl) (Reps.none _ _))); intro v173 w19 ho20 hb hg_ hnew_; clear hg_ hnew_; (first | rw [← Ny172.out] at ho20 | (simp only [Int.reduceToNat] at ho20; rw [← Ny172.out] at ho20)); have n0_ := Aside0.mk (Kd.R_below (by (with_reducible repeat (first | apply Kd.R_alloc | apply Kd.R_drewN | apply Kd.R_drew)); exact HO171.out) hb); have n1_ := Aside0.mk (Kd.R_lower ho20 (below_size (by repeat (first | (with_reducible first | exact HB.out | apply below_alloc | apply pw_below_drewN | apply below_drew1) | exact HB.out)))); have n2_ := Aside0.mk (below_step (by repeat (first | (with_reducible first | exact HB.out | apply below_alloc | apply pw_below_drewN | apply below_drew1) | exact HB.out)) hb); clear HO171; clear HB; have HO171 := n0_; have HO174 := n1_; have HB := n2_; clear n0_ n1_ n2_; clear hb ho20; obtain ⟨Ao21, co21, eo21⟩ := Kd.R_slice HO171.out; subst eo21; obtain ⟨Ao22, co22, eo22⟩ := Kd.R_slice HO174.out; subst eo22) | ((with_reducible refine gate_callee (f := 11) rfl ?_); refine goesL_ (some 9) rfl rfl Try.func11 (by kernel_rfl) rfl #[.slice Ao21 y169.length co21, .slice Ao22 y172.length co22, .int .i64 1] rfl (by (try simp only [List.map_toArray, List.map_cons, List.map_nil]); first | done | rfl | (simp only [List.length_drop, List.length_take]; rfl)) ?_; (with_reducible refine (opens_Has.calls k _ _ y169 _ _ y172 1 false _ ?side1 ?side2 ?side3 ?side4 A1.out).mono ?_); (case side1 => repeat (first | exact (Kd.R_reads' HO171.out).2.2 | (with_reducible refine Kd.C_alloc ?_ _) | (with_reducible refine Kd.C_drewN ?_ _) | (with_reducible refine Kd.C_drew ?_))); (case side2 => exact (Kd.R_reads' HO171.out).2.1); (case side3 => repeat (first | exact (Kd.R_reads' HO174.out).2.2 | (with_reducible refine Kd.C_alloc ?_ _) | (with_reducible refine Kd.C_drewN ?_ _) | (with_reducible refine Kd.C_drew ?_))); (case side4 => exact (Kd.R_reads' HO174.out).2.1); rintro e w23 ⟨rfl, hb⟩; refine ⟨_, rfl, ?_⟩; have n0_ := Aside0.mk (Kd.R_below (by (with_reducible repeat (first | apply Kd.R_alloc | apply Kd.R_drewN | apply Kd.R_drew)); exact HO171.out) hb); have n1_ := Aside0.mk (Kd.R_below (by (with_reducible repeat (first | apply Kd.R_alloc | apply Kd.R_drewN | apply Kd.R_drew)); exact HO174.out) hb); have n2_ := Aside0.mk (below_step (by repeat (first | (with_reducible first | exact HB.out | apply below_alloc | apply pw_below_drewN | apply below_drew1) | exact HB.out)) hb); clear HO171; clear HO174; clear HB; have HO171 := n0_; have HO174 := n1_; have HB := n2_; clear n0_ n1_ n2_; (try clear hb); (try clear hb2); (try clear hk); (try clear hi)) | ((with_reducible refine gate_dst (N := 13) rfl ?_); (try (refine gate_guard (by rfl) ?_; dsimp only)); refine Kd.R_lit Kd.string _ 9 ?hg (N := 13) ?hd (xs := ([(⟨#[116, 97, 98, 108, 101]⟩ : ByteArray)] : List ByteArray)) (inner := [.string (⟨#[116, 97, 98, 108, 101]⟩ : ByteArray)]) (ok := fun _ => True) (okp := fun _ => True) ?hr ?hp (fun _ hk => hk) trivial (Below.refl _ _) (Nat.le_refl _) (by simp) ?_; (case hd => rfl); (case hg => rfl); (case hr => first | (go_simp; done) | (go_simp; rfl)); (case hp => exact (Reps.one (show Kd.M Kd.string _ _ _ (⟨#[116, 97, 98, 108, 101]⟩ : ByteArray) [.string (⟨#[116, 97, 98, 108, 101]⟩ : ByteArray)] from rfl) (Reps.none _ _))); intro v177 w24 ho25 hb hg_ hnew_; clear hg_ hnew_; (first | rw [← Ny176.out] at ho25 | (simp only [Int.reduceToNat] at ho25; rw [← Ny176.out] at ho25)); have n0_ := Aside0.mk (Kd.R_below (by (with_reducible repeat (first | apply Kd.R_alloc | apply Kd.R_drewN | apply Kd.R_drew)); exact HO171.out) hb); have n1_ := Aside0.mk (Kd.R_elder' (by (with_reducible repeat (first | apply Kd.R_alloc | apply Kd.R_drewN | apply Kd.R_drew)); exact HO174.out) (Kd.R_base ho25) hb); have n2_ := Aside0.mk (Kd.R_lower (Kd.R_new' ho25 (Kd.R_lt (by (with_reducible repeat (first | apply Kd.R_alloc | apply Kd.R_drewN | apply Kd.R_drew)); exact HO174.out))) (below_size (by repeat (first | (with_reducible first | exact HB.out | apply below_alloc | apply pw_below_drewN | apply below_drew1) | exact HB.out)))); have n3_ := Aside0.mk (below_step (by repeat (first | (with_reducible first | exact HB.out | apply below_alloc | apply pw_below_drewN | apply below_drew1) | exact HB.out)) hb); clear HO171; clear HO174; clear HB; have HO171 := n0_; have HO174 := n1_; have HO178 := n2_; have HB := n3_; clear n0_ n1_ n2_ n3_; clear hb ho25; obtain ⟨Ao26, co26, eo26⟩ := Kd.R_slice HO178.out; subst eo26) | (go_at_call 11; (with_reducible refine (opens_Has.calls k _ _ y169 _ _ y176 4 true _ ?side1 ?side2 ?side3 ?side4 A10.out).mono ?_); (case side1 => repeat (first | exact (Kd.R_reads' HO171.out).2.2 | (with_reducible refine Kd.C_alloc ?_ _) | (with_reducible refine Kd.C_drewN ?_ _) | (with_reducible refine Kd.C_drew ?_))); (case side2 => exact (Kd.R_reads' HO171.out).2.1); (case side3 => repeat (first | exact (Kd.R_reads' HO178.out).2.2 | (with_reducible refine Kd.C_alloc ?_ _) | (with_reducible refine Kd.C_drewN ?_ _) | (with_reducible refine Kd.C_drew ?_))); (case side4 => exact (Kd.R_reads' HO178.out).2.1); rintro e w27 ⟨rfl, hb⟩; have n0_ := Aside0.mk (Kd.R_below (by (with_reducible repeat (first | apply Kd.R_alloc | apply Kd.R_drewN | apply Kd.R_drew)); exact HO171.out) hb); have n1_ := Aside0.mk (Kd.R_below (by (with_reducible repeat (first | apply Kd.R_alloc | apply Kd.R_drewN | apply Kd.R_drew)); exact HO174.out) hb); have n2_ := Aside0.mk (Kd.R_below (by (with_reducible repeat (first | apply Kd.R_alloc | apply Kd.R_drewN | apply Kd.R_drew)); exact HO178.out) hb); have n3_ := Aside0.mk (below_step (by repeat (first | (with_reducible first | exact HB.out | apply below_alloc | apply pw_below_drewN | apply below_drew1) | exact HB.out)) hb); clear HO171; clear HO174; clear HO178; clear HB; have HO171 := n0_; have HO174 := n1_; have HO178 := n2_; have HB := n3_; clear n0_ n1_ n2_ n3_; (try clear hb); (try clear hb2); (try clear hk); (try clear hi)) | ((with_reducible refine gate_dst (N := 18) rfl ?_); (try (refine gate_guard (by rfl) ?_; dsimp only)); refine Kd.R_lit Kd.string _ 9 ?hg (N := 18) ?hd (xs := ([(⟨#[116, 97, 98, 108, 101]⟩ : ByteArray)] : List ByteArray)) (inner := [.string (⟨#[116, 97, 98, 108, 101]⟩ : ByteArray)]) (ok := fun _ => True) (okp := fun _ => True) ?hr ?hp (fun _ hk => hk) trivial (Below.refl _ _) (Nat.le_refl _) (by simp) ?_; (case hd => rfl); (case hg => rfl); (case hr => first | (go_simp; done) | (go_simp; rfl)); (case hp => exact (Reps.one (show Kd.M Kd.string _ _ _ (⟨#[116, 97, 98, 108, 101]⟩ : ByteArray) [.string (⟨#[116, 97, 98, 108, 101]⟩ : ByteArray)] from rfl) (Reps.none _ _))); intro v181 w28 ho29 hb hg_ hnew_; clear hg_ hnew_; (first | rw [← Ny180.out] at ho29 | (simp only [Int.reduceToNat] at ho29; rw [← Ny180.out] at ho29)); have n0_ := Aside0.mk (Kd.R_below (by (with_reducible repeat (first | apply Kd.R_alloc | apply Kd.R_drewN | apply Kd.R_drew)); exact HO171.out) hb); have n1_ := Aside0.mk (Kd.R_elder' (by (with_reducible repeat (first | apply Kd.R_alloc | apply Kd.R_drewN | apply Kd.R_drew)); exact HO174.out) (Kd.R_base ho29) hb); have n2_ := Aside0.mk (Kd.R_elder' (by (with_reducible repeat (first | apply Kd.R_alloc | apply Kd.R_drewN | apply Kd.R_drew)); exact HO178.out) (Kd.R_base ho29) hb); have n3_ := Aside0.mk (Kd.R_lower (Kd.R_new' (Kd.R_new' ho29 (Kd.R_lt (by (with_reducible repeat (first | apply Kd.R_alloc | apply Kd.R_drewN | apply Kd.R_drew)); exact HO174.out))) (Kd.R_lt (by (with_reducible repeat (first | apply Kd.R_alloc | apply Kd.R_drewN | apply Kd.R_drew)); exact HO178.out))) (below_size (by repeat (first | (with_reducible first | exact HB.out | apply below_alloc | apply pw_below_drewN | apply below_drew1) | exact HB.out)))); have n4_ := Aside0.mk (below_step (by repeat (first | (with_reducible first | exact HB.out | apply below_alloc | apply pw_below_drewN | apply below_drew1) | exact HB.out)) hb); clear HO171; clear HO174; clear HO178; clear HB; have HO171 := n0_; have HO174 := n1_; have HO178 := n2_; have HO182 := n3_; have HB := n4_; clear n0_ n1_ n2_ n3_ n4_; clear hb ho29; obtain ⟨Ao30, co30, eo30⟩ := Kd.R_slice HO182.out; subst eo30) | (go_at_call 13; (with_reducible refine (opens_Cut.calls k _ _ y169 _ _ y180 t183 _ ?side1 ?side2 ?side3 ?side4 A12.out).mono ?_); (case side1 => repeat (first | exact (Kd.R_reads' HO171.out).2.2 | (with_reducible refine Kd.C_alloc ?_ _) | (with_reducible refine Kd.C_drewN ?_ _) | (with_reducible refine Kd.C_drew ?_))); (case side2 => exact (Kd.R_reads' HO171.out).2.1); (case side3 => repeat (first | exact (Kd.R_reads' HO182.out).2.2 | (with_reducible refine Kd.C_alloc ?_ _) | (with_reducible refine Kd.C_drewN ?_ _) | (with_reducible refine Kd.C_drew ?_))); (case side4 => exact (Kd.R_reads' HO182.out).2.1); rintro e w31 ⟨rfl, hb⟩; have n0_ := Aside0.mk (Kd.R_below (by (with_reducible repeat (first | apply Kd.R_alloc | apply Kd.R_drewN | apply Kd.R_drew)); exact HO171.out) hb); have n1_ := Aside0.mk (Kd.R_below (by (with_reducible repeat (first | apply Kd.R_alloc | apply Kd.R_drewN | apply Kd.R_drew)); exact HO174.out) hb); have n2_ := Aside0.mk (Kd.R_below (by (with_reducible repeat (first | apply Kd.R_alloc | apply Kd.R_drewN | apply Kd.R_drew)); exact HO178.out) hb); have n3_ := Aside0.mk (Kd.R_below (by (with_reducible repeat (first | apply Kd.R_alloc | apply Kd.R_drewN | apply Kd.R_drew)); exact HO182.out) hb); have n4_ := Aside0.mk (below_step (by repeat (first | (with_reducible first | exact HB.out | apply below_alloc | apply pw_below_drewN | apply below_drew1) | exact HB.out)) hb); clear HO171; clear HO174; clear HO178; clear HO182; clear HB; have HO171 := n0_; have HO174 := n1_; have HO178 := n2_; have HO182 := n3_; have HB := n4_; clear n0_ n1_ n2_ n3_ n4_; (try clear hb); (try clear hb2); (try clear hk); (try clear hi)) | (go_at_call 14; (with_reducible refine (opens_Implied.calls k _ _ y169 (⟨#[]⟩ : ByteArray) t184 _ ?side1 ?side2 A14.out).mono ?_); (case side1 => repeat (first | exact (Kd.R_reads' HO171.out).2.2 | (with_reducible refine Kd.C_alloc ?_ _) | (with_reducible refine Kd.C_drewN ?_ _) | (with_reducible refine Kd.C_drew ?_))); (case side2 => exact (Kd.R_reads' HO171.out).2.1); rintro e w32 ⟨rfl, hb⟩; have n0_ := Aside0.mk (Kd.R_below (by (with_reducible repeat (first | apply Kd.R_alloc | apply Kd.R_drewN | apply Kd.R_drew)); exact HO171.out) hb); have n1_ := Aside0.mk (Kd.R_below (by (with_reducible repeat (first | apply Kd.R_alloc | apply Kd.R_drewN | apply Kd.R_drew)); exact HO174.out) hb); have n2_ := Aside0.mk (Kd.R_below (by (with_reducible repeat (first | apply Kd.R_alloc | apply Kd.R_drewN | apply Kd.R_drew)); exact HO178.out) hb); have n3_ := Aside0.mk (Kd.R_below (by (with_reducible repeat (first | apply Kd.R_alloc | apply Kd.R_drewN | apply Kd.R_drew)); exact HO182.out) hb); have n4_ := Aside0.mk (below_step (by repeat (first | (with_reducible first | exact HB.out | apply below_alloc | apply pw_below_drewN | apply below_drew1) | exact HB.out)) hb); clear HO171; clear HO174; clear HO178; clear HO182; clear HB; have HO171 := n0_; have HO174 := n1_; have HO178 := n2_; have HO182 := n3_; have HB := n4_; clear n0_ n1_ n2_ n3_ n4_; (try clear hb); (try clear hb2); (try clear hk); (try clear hi)) | (go_at_call 15; (with_reducible refine (opens_Find.calls k _ _ y169 2 t185 _ ?side1 ?side2 A16.out).mono ?_); (case side1 => repeat (first | exact (Kd.R_reads' HO171.out).2.2 | (with_reducible refine Kd.C_alloc ?_ _) | (with_reducible refine Kd.C_drewN ?_ _) | (with_reducible refine Kd.C_drew ?_))); (case side2 => exact (Kd.R_reads' HO171.out).2.1); rintro e w33 ⟨rfl, hb⟩; have n0_ := Aside0.mk (Kd.R_below (by (with_reducible repeat (first | apply Kd.R_alloc | apply Kd.R_drewN | apply Kd.R_drew)); exact HO171.out) hb); have n1_ := Aside0.mk (Kd.R_below (by (with_reducible repeat (first | apply Kd.R_alloc | apply Kd.R_drewN | apply Kd.R_drew)); exact HO174.out) hb); have n2_ := Aside0.mk (Kd.R_below (by (with_reducible repeat (first | apply Kd.R_alloc | apply Kd.R_drewN | apply Kd.R_drew)); exact HO178.out) hb); have n3_ := Aside0.mk (Kd.R_below (by (with_reducible repeat (first | apply Kd.R_alloc | apply Kd.R_drewN | apply Kd.R_drew)); exact HO182.out) hb); have n4_ := Aside0.mk (below_step (by repeat (first | (with_reducible first | exact HB.out | apply below_alloc | apply pw_below_drewN | apply below_drew1) | exact HB.out)) hb); clear HO171; clear HO174; clear HO178; clear HO182; clear HB; have HO171 := n0_; have HO174 := n1_; have HO178 := n2_; have HO182 := n3_; have HB := n4_; clear n0_ n1_ n2_ n3_ n4_; (try clear hb); (try clear hb2); (try clear hk); (try clear hi)))
          go_ret
          exact ⟨by first | rfl | (simp [errW_none, errW_some] <;> rfl) | (simp [*, errW_none, errW_some] <;> rfl), by repeat (first | (with_reducible first | exact HB.out | apply below_alloc | apply pw_below_drewN | apply below_drew1) | exact HB.out)⟩
        · rw [if_neg c15] at H
          have c15b0 : (t184 == 3) = false := beq_eq_false_iff_ne.mpr c15
          have c15b1 : (t184 != 3) = true := bne_iff_ne.mpr c15
          obtain rfl := Option.some.inj H
          go_enter Try.func10, Try.ntmps10
          go_wp2_with (first | ((with_reducible refine gate_dst (N := 6) rfl ?_); (try (refine gate_guard (by rfl) ?_; dsimp only)); refine Kd.R_lit k35 _ 35 ?hg (N := 6) ?hd (xs := ([(⟨0, 0, (⟨#[104, 116, 109, 108]⟩ : ByteArray)⟩ : S35), (⟨1, 0, (⟨#[116, 97, 98, 108, 101]⟩ : ByteArray)⟩ : S35), (⟨2, 0, (⟨#[116, 100]⟩ : ByteArray)⟩ : S35), (⟨3, 0, (⟨#[112]⟩ : ByteArray)⟩ : S35)] : List (S35))) (inner := [.int .i64 0, .int .i64 0, .string (⟨#[104, 116, 109, 108]⟩ : ByteArray), .int .i64 1, .int .i64 0, .string (⟨#[116, 97, 98, 108, 101]⟩ : ByteArray), .int .i64 2, .int .i64 0, .string (⟨#[116, 100]⟩ : ByteArray), .int .i64 3, .int .i64 0, .string (⟨#[112]⟩ : ByteArray)]) (ok := fun _ => True) (okp := fun _ => True) ?hr ?hp (fun _ hk => hk) trivial (Below.refl _ _) (Nat.le_refl _) (by simp) ?_; (case hd => rfl); (case hg => rfl); (case hr => first | (go_simp; done) | (go_simp; rfl)); (case hp => exact (Reps.c3 (show Kd.M k35 _ _ _ (⟨0, 0, (⟨#[104, 116, 109, 108]⟩ : ByteArray)⟩ : S35) [.int .i64 0, .int .i64 0, .string (⟨#[104, 116, 109, 108]⟩ : ByteArray)] from (k35_mkM _ _ _ (⟨0, 0, (⟨#[104, 116, 109, 108]⟩ : ByteArray)⟩ : S35) )) (Reps.c3 (show Kd.M k35 _ _ _ (⟨1, 0, (⟨#[116, 97, 98, 108, 101]⟩ : ByteArray)⟩ : S35) [.int .i64 1, .int .i64 0, .string (⟨#[116, 97, 98, 108, 101]⟩ : ByteArray)] from (k35_mkM _ _ _ (⟨1, 0, (⟨#[116, 97, 98, 108, 101]⟩ : ByteArray)⟩ : S35) )) (Reps.c3 (show Kd.M k35 _ _ _ (⟨2, 0, (⟨#[116, 100]⟩ : ByteArray)⟩ : S35) [.int .i64 2, .int .i64 0, .string (⟨#[116, 100]⟩ : ByteArray)] from (k35_mkM _ _ _ (⟨2, 0, (⟨#[116, 100]⟩ : ByteArray)⟩ : S35) )) (Reps.c3 (show Kd.M k35 _ _ _ (⟨3, 0, (⟨#[112]⟩ : ByteArray)⟩ : S35) [.int .i64 3, .int .i64 0, .string (⟨#[112]⟩ : ByteArray)] from (k35_mkM _ _ _ (⟨3, 0, (⟨#[112]⟩ : ByteArray)⟩ : S35) )) (Reps.none _ _)))))); intro v170 w34 ho35 hb hg_ hnew_; clear hg_ hnew_; (first | rw [← Ny169.out] at ho35 | (simp only [Int.reduceToNat] at ho35; rw [← Ny169.out] at ho35)); have n0_ := Aside0.mk (Kd.R_lower ho35 (below_size (by repeat (first | (with_reducible first | exact HB.out | apply below_alloc | apply pw_below_drewN | apply below_drew1) | exact HB.out)))); have n1_ := Aside0.mk (below_step (by repeat (first | (with_reducible first | exact HB.out | apply below_alloc | apply pw_below_drewN | apply below_drew1) | exact HB.out)) hb); clear HB; have HO171 := n0_; have HB := n1_; clear n0_ n1_; clear hb ho35) | ((with_reducible refine gate_dst (N := 8) rfl ?_); (try (refine gate_guard (by rfl) ?_; dsimp only)); refine Kd.R_lit Kd.string _ 9 ?hg (N := 8) ?hd (xs := ([(⟨#[116, 97, 98, 108, 101]⟩ : ByteArray)] : List ByteArray)) (inner := [.string (⟨#[116, 97, 98, 108, 101]⟩ : ByteArray)]) (ok := fun _ => True) (okp := fun _ => True) ?hr ?hp (fun _ hk => hk) trivial (Below.refl _ _) (Nat.le_refl _) (by simp) ?_; (case hd => rfl); (case hg => rfl); (case hr => first | (go_simp; done) | (go_simp; rfl)); (case hp => exact (Reps.one (show Kd.M Kd.string _ _ _ (⟨#[116, 97, 98, 108, 101]⟩ : ByteArray) [.string (⟨#[116, 97, 98, 108, 101]⟩ : ByteArray)] from rfl) (Reps.none _ _))); intro v173 w36 ho37 hb hg_ hnew_; clear hg_ hnew_; (first | rw [← Ny172.out] at ho37 | (simp only [Int.reduceToNat] at ho37; rw [← Ny172.out] at ho37)); have n0_ := Aside0.mk (Kd.R_below (by (with_reducible repeat (first | apply Kd.R_alloc | apply Kd.R_drewN | apply Kd.R_drew)); exact HO171.out) hb); have n1_ := Aside0.mk (Kd.R_lower ho37 (below_size (by repeat (first | (with_reducible first | exact HB.out | apply below_alloc | apply pw_below_drewN | apply below_drew1) | exact HB.out)))); have n2_ := Aside0.mk (below_step (by repeat (first | (with_reducible first | exact HB.out | apply below_alloc | apply pw_below_drewN | apply below_drew1) | exact HB.out)) hb); clear HO171; clear HB; have HO171 := n0_; have HO174 := n1_; have HB := n2_; clear n0_ n1_ n2_; clear hb ho37; obtain ⟨Ao38, co38, eo38⟩ := Kd.R_slice HO171.out; subst eo38; obtain ⟨Ao39, co39, eo39⟩ := Kd.R_slice HO174.out; subst eo39) | ((with_reducible refine gate_callee (f := 11) rfl ?_); refine goesL_ (some 9) rfl rfl Try.func11 (by kernel_rfl) rfl #[.slice Ao38 y169.length co38, .slice Ao39 y172.length co39, .int .i64 1] rfl (by (try simp only [List.map_toArray, List.map_cons, List.map_nil]); first | done | rfl | (simp only [List.length_drop, List.length_take]; rfl)) ?_; (with_reducible refine (opens_Has.calls k _ _ y169 _ _ y172 1 false _ ?side1 ?side2 ?side3 ?side4 A1.out).mono ?_); (case side1 => repeat (first | exact (Kd.R_reads' HO171.out).2.2 | (with_reducible refine Kd.C_alloc ?_ _) | (with_reducible refine Kd.C_drewN ?_ _) | (with_reducible refine Kd.C_drew ?_))); (case side2 => exact (Kd.R_reads' HO171.out).2.1); (case side3 => repeat (first | exact (Kd.R_reads' HO174.out).2.2 | (with_reducible refine Kd.C_alloc ?_ _) | (with_reducible refine Kd.C_drewN ?_ _) | (with_reducible refine Kd.C_drew ?_))); (case side4 => exact (Kd.R_reads' HO174.out).2.1); rintro e w40 ⟨rfl, hb⟩; refine ⟨_, rfl, ?_⟩; have n0_ := Aside0.mk (Kd.R_below (by (with_reducible repeat (first | apply Kd.R_alloc | apply Kd.R_drewN | apply Kd.R_drew)); exact HO171.out) hb); have n1_ := Aside0.mk (Kd.R_below (by (with_reducible repeat (first | apply Kd.R_alloc | apply Kd.R_drewN | apply Kd.R_drew)); exact HO174.out) hb); have n2_ := Aside0.mk (below_step (by repeat (first | (with_reducible first | exact HB.out | apply below_alloc | apply pw_below_drewN | apply below_drew1) | exact HB.out)) hb); clear HO171; clear HO174; clear HB; have HO171 := n0_; have HO174 := n1_; have HB := n2_; clear n0_ n1_ n2_; (try clear hb); (try clear hb2); (try clear hk); (try clear hi)) | ((with_reducible refine gate_dst (N := 13) rfl ?_); (try (refine gate_guard (by rfl) ?_; dsimp only)); refine Kd.R_lit Kd.string _ 9 ?hg (N := 13) ?hd (xs := ([(⟨#[116, 97, 98, 108, 101]⟩ : ByteArray)] : List ByteArray)) (inner := [.string (⟨#[116, 97, 98, 108, 101]⟩ : ByteArray)]) (ok := fun _ => True) (okp := fun _ => True) ?hr ?hp (fun _ hk => hk) trivial (Below.refl _ _) (Nat.le_refl _) (by simp) ?_; (case hd => rfl); (case hg => rfl); (case hr => first | (go_simp; done) | (go_simp; rfl)); (case hp => exact (Reps.one (show Kd.M Kd.string _ _ _ (⟨#[116, 97, 98, 108, 101]⟩ : ByteArray) [.string (⟨#[116, 97, 98, 108, 101]⟩ : ByteArray)] from rfl) (Reps.none _ _))); intro v177 w41 ho42 hb hg_ hnew_; clear hg_ hnew_; (first | rw [← Ny176.out] at ho42 | (simp only [Int.reduceToNat] at ho42; rw [← Ny176.out] at ho42)); have n0_ := Aside0.mk (Kd.R_below (by (with_reducible repeat (first | apply Kd.R_alloc | apply Kd.R_drewN | apply Kd.R_drew)); exact HO171.out) hb); have n1_ := Aside0.mk (Kd.R_elder' (by (with_reducible repeat (first | apply Kd.R_alloc | apply Kd.R_drewN | apply Kd.R_drew)); exact HO174.out) (Kd.R_base ho42) hb); have n2_ := Aside0.mk (Kd.R_lower (Kd.R_new' ho42 (Kd.R_lt (by (with_reducible repeat (first | apply Kd.R_alloc | apply Kd.R_drewN | apply Kd.R_drew)); exact HO174.out))) (below_size (by repeat (first | (with_reducible first | exact HB.out | apply below_alloc | apply pw_below_drewN | apply below_drew1) | exact HB.out)))); have n3_ := Aside0.mk (below_step (by repeat (first | (with_reducible first | exact HB.out | apply below_alloc | apply pw_below_drewN | apply below_drew1) | exact HB.out)) hb); clear HO171; clear HO174; clear HB; have HO171 := n0_; have HO174 := n1_; have HO178 := n2_; have HB := n3_; clear n0_ n1_ n2_ n3_; clear hb ho42; obtain ⟨Ao43, co43, eo43⟩ := Kd.R_slice HO178.out; subst eo43) | (go_at_call 11; (with_reducible refine (opens_Has.calls k _ _ y169 _ _ y176 4 true _ ?side1 ?side2 ?side3 ?side4 A10.out).mono ?_); (case side1 => repeat (first | exact (Kd.R_reads' HO171.out).2.2 | (with_reducible refine Kd.C_alloc ?_ _) | (with_reducible refine Kd.C_drewN ?_ _) | (with_reducible refine Kd.C_drew ?_))); (case side2 => exact (Kd.R_reads' HO171.out).2.1); (case side3 => repeat (first | exact (Kd.R_reads' HO178.out).2.2 | (with_reducible refine Kd.C_alloc ?_ _) | (with_reducible refine Kd.C_drewN ?_ _) | (with_reducible refine Kd.C_drew ?_))); (case side4 => exact (Kd.R_reads' HO178.out).2.1); rintro e w44 ⟨rfl, hb⟩; have n0_ := Aside0.mk (Kd.R_below (by (with_reducible repeat (first | apply Kd.R_alloc | apply Kd.R_drewN | apply Kd.R_drew)); exact HO171.out) hb); have n1_ := Aside0.mk (Kd.R_below (by (with_reducible repeat (first | apply Kd.R_alloc | apply Kd.R_drewN | apply Kd.R_drew)); exact HO174.out) hb); have n2_ := Aside0.mk (Kd.R_below (by (with_reducible repeat (first | apply Kd.R_alloc | apply Kd.R_drewN | apply Kd.R_drew)); exact HO178.out) hb); have n3_ := Aside0.mk (below_step (by repeat (first | (with_reducible first | exact HB.out | apply below_alloc | apply pw_below_drewN | apply below_drew1) | exact HB.out)) hb); clear HO171; clear HO174; clear HO178; clear HB; have HO171 := n0_; have HO174 := n1_; have HO178 := n2_; have HB := n3_; clear n0_ n1_ n2_ n3_; (try clear hb); (try clear hb2); (try clear hk); (try clear hi)) | ((with_reducible refine gate_dst (N := 18) rfl ?_); (try (refine gate_guard (by rfl) ?_; dsimp only)); refine Kd.R_lit Kd.string _ 9 ?hg (N := 18) ?hd (xs := ([(⟨#[116, 97, 98, 108, 101]⟩ : ByteArray)] : List ByteArray)) (inner := [.string (⟨#[116, 97, 98, 108, 101]⟩ : ByteArray)]) (ok := fun _ => True) (okp := fun _ => True) ?hr ?hp (fun _ hk => hk) trivial (Below.refl _ _) (Nat.le_refl _) (by simp) ?_; (case hd => rfl); (case hg => rfl); (case hr => first | (go_simp; done) | (go_simp; rfl)); (case hp => exact (Reps.one (show Kd.M Kd.string _ _ _ (⟨#[116, 97, 98, 108, 101]⟩ : ByteArray) [.string (⟨#[116, 97, 98, 108, 101]⟩ : ByteArray)] from rfl) (Reps.none _ _))); intro v181 w45 ho46 hb hg_ hnew_; clear hg_ hnew_; (first | rw [← Ny180.out] at ho46 | (simp only [Int.reduceToNat] at ho46; rw [← Ny180.out] at ho46)); have n0_ := Aside0.mk (Kd.R_below (by (with_reducible repeat (first | apply Kd.R_alloc | apply Kd.R_drewN | apply Kd.R_drew)); exact HO171.out) hb); have n1_ := Aside0.mk (Kd.R_elder' (by (with_reducible repeat (first | apply Kd.R_alloc | apply Kd.R_drewN | apply Kd.R_drew)); exact HO174.out) (Kd.R_base ho46) hb); have n2_ := Aside0.mk (Kd.R_elder' (by (with_reducible repeat (first | apply Kd.R_alloc | apply Kd.R_drewN | apply Kd.R_drew)); exact HO178.out) (Kd.R_base ho46) hb); have n3_ := Aside0.mk (Kd.R_lower (Kd.R_new' (Kd.R_new' ho46 (Kd.R_lt (by (with_reducible repeat (first | apply Kd.R_alloc | apply Kd.R_drewN | apply Kd.R_drew)); exact HO174.out))) (Kd.R_lt (by (with_reducible repeat (first | apply Kd.R_alloc | apply Kd.R_drewN | apply Kd.R_drew)); exact HO178.out))) (below_size (by repeat (first | (with_reducible first | exact HB.out | apply below_alloc | apply pw_below_drewN | apply below_drew1) | exact HB.out)))); have n4_ := Aside0.mk (below_step (by repeat (first | (with_reducible first | exact HB.out | apply below_alloc | apply pw_below_drewN | apply below_drew1) | exact HB.out)) hb); clear HO171; clear HO174; clear HO178; clear HB; have HO171 := n0_; have HO174 := n1_; have HO178 := n2_; have HO182 := n3_; have HB := n4_; clear n0_ n1_ n2_ n3_ n4_; clear hb ho46; obtain ⟨Ao47, co47, eo47⟩ := Kd.R_slice HO182.out; subst eo47) | (go_at_call 13; (with_reducible refine (opens_Cut.calls k _ _ y169 _ _ y180 t183 _ ?side1 ?side2 ?side3 ?side4 A12.out).mono ?_); (case side1 => repeat (first | exact (Kd.R_reads' HO171.out).2.2 | (with_reducible refine Kd.C_alloc ?_ _) | (with_reducible refine Kd.C_drewN ?_ _) | (with_reducible refine Kd.C_drew ?_))); (case side2 => exact (Kd.R_reads' HO171.out).2.1); (case side3 => repeat (first | exact (Kd.R_reads' HO182.out).2.2 | (with_reducible refine Kd.C_alloc ?_ _) | (with_reducible refine Kd.C_drewN ?_ _) | (with_reducible refine Kd.C_drew ?_))); (case side4 => exact (Kd.R_reads' HO182.out).2.1); rintro e w48 ⟨rfl, hb⟩; have n0_ := Aside0.mk (Kd.R_below (by (with_reducible repeat (first | apply Kd.R_alloc | apply Kd.R_drewN | apply Kd.R_drew)); exact HO171.out) hb); have n1_ := Aside0.mk (Kd.R_below (by (with_reducible repeat (first | apply Kd.R_alloc | apply Kd.R_drewN | apply Kd.R_drew)); exact HO174.out) hb); have n2_ := Aside0.mk (Kd.R_below (by (with_reducible repeat (first | apply Kd.R_alloc | apply Kd.R_drewN | apply Kd.R_drew)); exact HO178.out) hb); have n3_ := Aside0.mk (Kd.R_below (by (with_reducible repeat (first | apply Kd.R_alloc | apply Kd.R_drewN | apply Kd.R_drew)); exact HO182.out) hb); have n4_ := Aside0.mk (below_step (by repeat (first | (with_reducible first | exact HB.out | apply below_alloc | apply pw_below_drewN | apply below_drew1) | exact HB.out)) hb); clear HO171; clear HO174; clear HO178; clear HO182; clear HB; have HO171 := n0_; have HO174 := n1_; have HO178 := n2_; have HO182 := n3_; have HB := n4_; clear n0_ n1_ n2_ n3_ n4_; (try clear hb); (try clear hb2); (try clear hk); (try clear hi)) | (go_at_call 14; (with_reducible refine (opens_Implied.calls k _ _ y169 (⟨#[]⟩ : ByteArray) t184 _ ?side1 ?side2 A14.out).mono ?_); (case side1 => repeat (first | exact (Kd.R_reads' HO171.out).2.2 | (with_reducible refine Kd.C_alloc ?_ _) | (with_reducible refine Kd.C_drewN ?_ _) | (with_reducible refine Kd.C_drew ?_))); (case side2 => exact (Kd.R_reads' HO171.out).2.1); rintro e w49 ⟨rfl, hb⟩; have n0_ := Aside0.mk (Kd.R_below (by (with_reducible repeat (first | apply Kd.R_alloc | apply Kd.R_drewN | apply Kd.R_drew)); exact HO171.out) hb); have n1_ := Aside0.mk (Kd.R_below (by (with_reducible repeat (first | apply Kd.R_alloc | apply Kd.R_drewN | apply Kd.R_drew)); exact HO174.out) hb); have n2_ := Aside0.mk (Kd.R_below (by (with_reducible repeat (first | apply Kd.R_alloc | apply Kd.R_drewN | apply Kd.R_drew)); exact HO178.out) hb); have n3_ := Aside0.mk (Kd.R_below (by (with_reducible repeat (first | apply Kd.R_alloc | apply Kd.R_drewN | apply Kd.R_drew)); exact HO182.out) hb); have n4_ := Aside0.mk (below_step (by repeat (first | (with_reducible first | exact HB.out | apply below_alloc | apply pw_below_drewN | apply below_drew1) | exact HB.out)) hb); clear HO171; clear HO174; clear HO178; clear HO182; clear HB; have HO171 := n0_; have HO174 := n1_; have HO178 := n2_; have HO182 := n3_; have HB := n4_; clear n0_ n1_ n2_ n3_ n4_; (try clear hb); (try clear hb2); (try clear hk); (try clear hi)))
          go_ret
          exact ⟨by first | rfl | (simp [errW_none, errW_some] <;> rfl) | (simp [*, errW_none, errW_some] <;> rfl), by repeat (first | (with_reducible first | exact HB.out | apply below_alloc | apply pw_below_drewN | apply below_drew1) | exact HB.out)⟩
      · rw [if_neg c13] at H
        have c13b0 : (t183 == 1) = false := beq_eq_false_iff_ne.mpr c13
        have c13b1 : (t183 != 1) = true := bne_iff_ne.mpr c13
        obtain rfl := Option.some.inj H
        go_enter Try.func10, Try.ntmps10
        go_wp2_with (first | ((with_reducible refine gate_dst (N := 6) rfl ?_); (try (refine gate_guard (by rfl) ?_; dsimp only)); refine Kd.R_lit k35 _ 35 ?hg (N := 6) ?hd (xs := ([(⟨0, 0, (⟨#[104, 116, 109, 108]⟩ : ByteArray)⟩ : S35), (⟨1, 0, (⟨#[116, 97, 98, 108, 101]⟩ : ByteArray)⟩ : S35), (⟨2, 0, (⟨#[116, 100]⟩ : ByteArray)⟩ : S35), (⟨3, 0, (⟨#[112]⟩ : ByteArray)⟩ : S35)] : List (S35))) (inner := [.int .i64 0, .int .i64 0, .string (⟨#[104, 116, 109, 108]⟩ : ByteArray), .int .i64 1, .int .i64 0, .string (⟨#[116, 97, 98, 108, 101]⟩ : ByteArray), .int .i64 2, .int .i64 0, .string (⟨#[116, 100]⟩ : ByteArray), .int .i64 3, .int .i64 0, .string (⟨#[112]⟩ : ByteArray)]) (ok := fun _ => True) (okp := fun _ => True) ?hr ?hp (fun _ hk => hk) trivial (Below.refl _ _) (Nat.le_refl _) (by simp) ?_; (case hd => rfl); (case hg => rfl); (case hr => first | (go_simp; done) | (go_simp; rfl)); (case hp => exact (Reps.c3 (show Kd.M k35 _ _ _ (⟨0, 0, (⟨#[104, 116, 109, 108]⟩ : ByteArray)⟩ : S35) [.int .i64 0, .int .i64 0, .string (⟨#[104, 116, 109, 108]⟩ : ByteArray)] from (k35_mkM _ _ _ (⟨0, 0, (⟨#[104, 116, 109, 108]⟩ : ByteArray)⟩ : S35) )) (Reps.c3 (show Kd.M k35 _ _ _ (⟨1, 0, (⟨#[116, 97, 98, 108, 101]⟩ : ByteArray)⟩ : S35) [.int .i64 1, .int .i64 0, .string (⟨#[116, 97, 98, 108, 101]⟩ : ByteArray)] from (k35_mkM _ _ _ (⟨1, 0, (⟨#[116, 97, 98, 108, 101]⟩ : ByteArray)⟩ : S35) )) (Reps.c3 (show Kd.M k35 _ _ _ (⟨2, 0, (⟨#[116, 100]⟩ : ByteArray)⟩ : S35) [.int .i64 2, .int .i64 0, .string (⟨#[116, 100]⟩ : ByteArray)] from (k35_mkM _ _ _ (⟨2, 0, (⟨#[116, 100]⟩ : ByteArray)⟩ : S35) )) (Reps.c3 (show Kd.M k35 _ _ _ (⟨3, 0, (⟨#[112]⟩ : ByteArray)⟩ : S35) [.int .i64 3, .int .i64 0, .string (⟨#[112]⟩ : ByteArray)] from (k35_mkM _ _ _ (⟨3, 0, (⟨#[112]⟩ : ByteArray)⟩ : S35) )) (Reps.none _ _)))))); intro v170 w50 ho51 hb hg_ hnew_; clear hg_ hnew_; (first | rw [← Ny169.out] at ho51 | (simp only [Int.reduceToNat] at ho51; rw [← Ny169.out] at ho51)); have n0_ := Aside0.mk (Kd.R_lower ho51 (below_size (by repeat (first | (with_reducible first | exact HB.out | apply below_alloc | apply pw_below_drewN | apply below_drew1) | exact HB.out)))); have n1_ := Aside0.mk (below_step (by repeat (first | (with_reducible first | exact HB.out | apply below_alloc | apply pw_below_drewN | apply below_drew1) | exact HB.out)) hb); clear HB; have HO171 := n0_; have HB := n1_; clear n0_ n1_; clear hb ho51) | ((with_reducible refine gate_dst (N := 8) rfl ?_); (try (refine gate_guard (by rfl) ?_; dsimp only)); refine Kd.R_lit Kd.string _ 9 ?hg (N := 8) ?hd (xs := ([(⟨#[116, 97, 98, 108, 101]⟩ : ByteArray)] : List ByteArray)) (inner := [.string (⟨#[116, 97, 98, 108, 101]⟩ : ByteArray)]) (ok := fun _ => True) (okp := fun _ => True) ?hr ?hp (fun _ hk => hk) trivial (Below.refl _ _) (Nat.le_refl _) (by simp) ?_; (case hd => rfl); (case hg => rfl); (case hr => first | (go_simp; done) | (go_simp; rfl)); (case hp => exact (Reps.one (show Kd.M Kd.string _ _ _ (⟨#[116, 97, 98, 108, 101]⟩ : ByteArray) [.string (⟨#[116, 97, 98, 108, 101]⟩ : ByteArray)] from rfl) (Reps.none _ _))); intro v173 w52 ho53 hb hg_ hnew_; clear hg_ hnew_; (first | rw [← Ny172.out] at ho53 | (simp only [Int.reduceToNat] at ho53; rw [← Ny172.out] at ho53)); have n0_ := Aside0.mk (Kd.R_below (by (with_reducible repeat (first | apply Kd.R_alloc | apply Kd.R_drewN | apply Kd.R_drew)); exact HO171.out) hb); have n1_ := Aside0.mk (Kd.R_lower ho53 (below_size (by repeat (first | (with_reducible first | exact HB.out | apply below_alloc | apply pw_below_drewN | apply below_drew1) | exact HB.out)))); have n2_ := Aside0.mk (below_step (by repeat (first | (with_reducible first | exact HB.out | apply below_alloc | apply pw_below_drewN | apply below_drew1) | exact HB.out)) hb); clear HO171; clear HB; have HO171 := n0_; have HO174 := n1_; have HB := n2_; clear n0_ n1_ n2_; clear hb ho53; obtain ⟨Ao54, co54, eo54⟩ := Kd.R_slice HO171.out; subst eo54; obtain ⟨Ao55, co55, eo55⟩ := Kd.R_slice HO174.out; subst eo55) | ((with_reducible refine gate_callee (f := 11) rfl ?_); refine goesL_ (some 9) rfl rfl Try.func11 (by kernel_rfl) rfl #[.slice Ao54 y169.length co54, .slice Ao55 y172.length co55, .int .i64 1] rfl (by (try simp only [List.map_toArray, List.map_cons, List.map_nil]); first | done | rfl | (simp only [List.length_drop, List.length_take]; rfl)) ?_; (with_reducible refine (opens_Has.calls k _ _ y169 _ _ y172 1 false _ ?side1 ?side2 ?side3 ?side4 A1.out).mono ?_); (case side1 => repeat (first | exact (Kd.R_reads' HO171.out).2.2 | (with_reducible refine Kd.C_alloc ?_ _) | (with_reducible refine Kd.C_drewN ?_ _) | (with_reducible refine Kd.C_drew ?_))); (case side2 => exact (Kd.R_reads' HO171.out).2.1); (case side3 => repeat (first | exact (Kd.R_reads' HO174.out).2.2 | (with_reducible refine Kd.C_alloc ?_ _) | (with_reducible refine Kd.C_drewN ?_ _) | (with_reducible refine Kd.C_drew ?_))); (case side4 => exact (Kd.R_reads' HO174.out).2.1); rintro e w56 ⟨rfl, hb⟩; refine ⟨_, rfl, ?_⟩; have n0_ := Aside0.mk (Kd.R_below (by (with_reducible repeat (first | apply Kd.R_alloc | apply Kd.R_drewN | apply Kd.R_drew)); exact HO171.out) hb); have n1_ := Aside0.mk (Kd.R_below (by (with_reducible repeat (first | apply Kd.R_alloc | apply Kd.R_drewN | apply Kd.R_drew)); exact HO174.out) hb); have n2_ := Aside0.mk (below_step (by repeat (first | (with_reducible first | exact HB.out | apply below_alloc | apply pw_below_drewN | apply below_drew1) | exact HB.out)) hb); clear HO171; clear HO174; clear HB; have HO171 := n0_; have HO174 := n1_; have HB := n2_; clear n0_ n1_ n2_; (try clear hb); (try clear hb2); (try clear hk); (try clear hi)) | ((with_reducible refine gate_dst (N := 13) rfl ?_); (try (refine gate_guard (by rfl) ?_; dsimp only)); refine Kd.R_lit Kd.string _ 9 ?hg (N := 13) ?hd (xs := ([(⟨#[116, 97, 98, 108, 101]⟩ : ByteArray)] : List ByteArray)) (inner := [.string (⟨#[116, 97, 98, 108, 101]⟩ : ByteArray)]) (ok := fun _ => True) (okp := fun _ => True) ?hr ?hp (fun _ hk => hk) trivial (Below.refl _ _) (Nat.le_refl _) (by simp) ?_; (case hd => rfl); (case hg => rfl); (case hr => first | (go_simp; done) | (go_simp; rfl)); (case hp => exact (Reps.one (show Kd.M Kd.string _ _ _ (⟨#[116, 97, 98, 108, 101]⟩ : ByteArray) [.string (⟨#[116, 97, 98, 108, 101]⟩ : ByteArray)] from rfl) (Reps.none _ _))); intro v177 w57 ho58 hb hg_ hnew_; clear hg_ hnew_; (first | rw [← Ny176.out] at ho58 | (simp only [Int.reduceToNat] at ho58; rw [← Ny176.out] at ho58)); have n0_ := Aside0.mk (Kd.R_below (by (with_reducible repeat (first | apply Kd.R_alloc | apply Kd.R_drewN | apply Kd.R_drew)); exact HO171.out) hb); have n1_ := Aside0.mk (Kd.R_elder' (by (with_reducible repeat (first | apply Kd.R_alloc | apply Kd.R_drewN | apply Kd.R_drew)); exact HO174.out) (Kd.R_base ho58) hb); have n2_ := Aside0.mk (Kd.R_lower (Kd.R_new' ho58 (Kd.R_lt (by (with_reducible repeat (first | apply Kd.R_alloc | apply Kd.R_drewN | apply Kd.R_drew)); exact HO174.out))) (below_size (by repeat (first | (with_reducible first | exact HB.out | apply below_alloc | apply pw_below_drewN | apply below_drew1) | exact HB.out)))); have n3_ := Aside0.mk (below_step (by repeat (first | (with_reducible first | exact HB.out | apply below_alloc | apply pw_below_drewN | apply below_drew1) | exact HB.out)) hb); clear HO171; clear HO174; clear HB; have HO171 := n0_; have HO174 := n1_; have HO178 := n2_; have HB := n3_; clear n0_ n1_ n2_ n3_; clear hb ho58; obtain ⟨Ao59, co59, eo59⟩ := Kd.R_slice HO178.out; subst eo59) | (go_at_call 11; (with_reducible refine (opens_Has.calls k _ _ y169 _ _ y176 4 true _ ?side1 ?side2 ?side3 ?side4 A10.out).mono ?_); (case side1 => repeat (first | exact (Kd.R_reads' HO171.out).2.2 | (with_reducible refine Kd.C_alloc ?_ _) | (with_reducible refine Kd.C_drewN ?_ _) | (with_reducible refine Kd.C_drew ?_))); (case side2 => exact (Kd.R_reads' HO171.out).2.1); (case side3 => repeat (first | exact (Kd.R_reads' HO178.out).2.2 | (with_reducible refine Kd.C_alloc ?_ _) | (with_reducible refine Kd.C_drewN ?_ _) | (with_reducible refine Kd.C_drew ?_))); (case side4 => exact (Kd.R_reads' HO178.out).2.1); rintro e w60 ⟨rfl, hb⟩; have n0_ := Aside0.mk (Kd.R_below (by (with_reducible repeat (first | apply Kd.R_alloc | apply Kd.R_drewN | apply Kd.R_drew)); exact HO171.out) hb); have n1_ := Aside0.mk (Kd.R_below (by (with_reducible repeat (first | apply Kd.R_alloc | apply Kd.R_drewN | apply Kd.R_drew)); exact HO174.out) hb); have n2_ := Aside0.mk (Kd.R_below (by (with_reducible repeat (first | apply Kd.R_alloc | apply Kd.R_drewN | apply Kd.R_drew)); exact HO178.out) hb); have n3_ := Aside0.mk (below_step (by repeat (first | (with_reducible first | exact HB.out | apply below_alloc | apply pw_below_drewN | apply below_drew1) | exact HB.out)) hb); clear HO171; clear HO174; clear HO178; clear HB; have HO171 := n0_; have HO174 := n1_; have HO178 := n2_; have HB := n3_; clear n0_ n1_ n2_ n3_; (try clear hb); (try clear hb2); (try clear hk); (try clear hi)) | ((with_reducible refine gate_dst (N := 18) rfl ?_); (try (refine gate_guard (by rfl) ?_; dsimp only)); refine Kd.R_lit Kd.string _ 9 ?hg (N := 18) ?hd (xs := ([(⟨#[116, 97, 98, 108, 101]⟩ : ByteArray)] : List ByteArray)) (inner := [.string (⟨#[116, 97, 98, 108, 101]⟩ : ByteArray)]) (ok := fun _ => True) (okp := fun _ => True) ?hr ?hp (fun _ hk => hk) trivial (Below.refl _ _) (Nat.le_refl _) (by simp) ?_; (case hd => rfl); (case hg => rfl); (case hr => first | (go_simp; done) | (go_simp; rfl)); (case hp => exact (Reps.one (show Kd.M Kd.string _ _ _ (⟨#[116, 97, 98, 108, 101]⟩ : ByteArray) [.string (⟨#[116, 97, 98, 108, 101]⟩ : ByteArray)] from rfl) (Reps.none _ _))); intro v181 w61 ho62 hb hg_ hnew_; clear hg_ hnew_; (first | rw [← Ny180.out] at ho62 | (simp only [Int.reduceToNat] at ho62; rw [← Ny180.out] at ho62)); have n0_ := Aside0.mk (Kd.R_below (by (with_reducible repeat (first | apply Kd.R_alloc | apply Kd.R_drewN | apply Kd.R_drew)); exact HO171.out) hb); have n1_ := Aside0.mk (Kd.R_elder' (by (with_reducible repeat (first | apply Kd.R_alloc | apply Kd.R_drewN | apply Kd.R_drew)); exact HO174.out) (Kd.R_base ho62) hb); have n2_ := Aside0.mk (Kd.R_elder' (by (with_reducible repeat (first | apply Kd.R_alloc | apply Kd.R_drewN | apply Kd.R_drew)); exact HO178.out) (Kd.R_base ho62) hb); have n3_ := Aside0.mk (Kd.R_lower (Kd.R_new' (Kd.R_new' ho62 (Kd.R_lt (by (with_reducible repeat (first | apply Kd.R_alloc | apply Kd.R_drewN | apply Kd.R_drew)); exact HO174.out))) (Kd.R_lt (by (with_reducible repeat (first | apply Kd.R_alloc | apply Kd.R_drewN | apply Kd.R_drew)); exact HO178.out))) (below_size (by repeat (first | (with_reducible first | exact HB.out | apply below_alloc | apply pw_below_drewN | apply below_drew1) | exact HB.out)))); have n4_ := Aside0.mk (below_step (by repeat (first | (with_reducible first | exact HB.out | apply below_alloc | apply pw_below_drewN | apply below_drew1) | exact HB.out)) hb); clear HO171; clear HO174; clear HO178; clear HB; have HO171 := n0_; have HO174 := n1_; have HO178 := n2_; have HO182 := n3_; have HB := n4_; clear n0_ n1_ n2_ n3_ n4_; clear hb ho62; obtain ⟨Ao63, co63, eo63⟩ := Kd.R_slice HO182.out; subst eo63) | (go_at_call 13; (with_reducible refine (opens_Cut.calls k _ _ y169 _ _ y180 t183 _ ?side1 ?side2 ?side3 ?side4 A12.out).mono ?_); (case side1 => repeat (first | exact (Kd.R_reads' HO171.out).2.2 | (with_reducible refine Kd.C_alloc ?_ _) | (with_reducible refine Kd.C_drewN ?_ _) | (with_reducible refine Kd.C_drew ?_))); (case side2 => exact (Kd.R_reads' HO171.out).2.1); (case side3 => repeat (first | exact (Kd.R_reads' HO182.out).2.2 | (with_reducible refine Kd.C_alloc ?_ _) | (with_reducible refine Kd.C_drewN ?_ _) | (with_reducible refine Kd.C_drew ?_))); (case side4 => exact (Kd.R_reads' HO182.out).2.1); rintro e w64 ⟨rfl, hb⟩; have n0_ := Aside0.mk (Kd.R_below (by (with_reducible repeat (first | apply Kd.R_alloc | apply Kd.R_drewN | apply Kd.R_drew)); exact HO171.out) hb); have n1_ := Aside0.mk (Kd.R_below (by (with_reducible repeat (first | apply Kd.R_alloc | apply Kd.R_drewN | apply Kd.R_drew)); exact HO174.out) hb); have n2_ := Aside0.mk (Kd.R_below (by (with_reducible repeat (first | apply Kd.R_alloc | apply Kd.R_drewN | apply Kd.R_drew)); exact HO178.out) hb); have n3_ := Aside0.mk (Kd.R_below (by (with_reducible repeat (first | apply Kd.R_alloc | apply Kd.R_drewN | apply Kd.R_drew)); exact HO182.out) hb); have n4_ := Aside0.mk (below_step (by repeat (first | (with_reducible first | exact HB.out | apply below_alloc | apply pw_below_drewN | apply below_drew1) | exact HB.out)) hb); clear HO171; clear HO174; clear HO178; clear HO182; clear HB; have HO171 := n0_; have HO174 := n1_; have HO178 := n2_; have HO182 := n3_; have HB := n4_; clear n0_ n1_ n2_ n3_ n4_; (try clear hb); (try clear hb2); (try clear hk); (try clear hi)))
        go_ret
        exact ⟨by first | rfl | (simp [errW_none, errW_some] <;> rfl) | (simp [*, errW_none, errW_some] <;> rfl), by repeat (first | (with_reducible first | exact HB.out | apply below_alloc | apply pw_below_drewN | apply below_drew1) | exact HB.out)⟩
    · replace c11 := Bool.eq_false_iff.mpr c11
      subst c11
      have H1 : (some false) = some r := by rw [if_neg (show ¬ (false = true) by decide)] at H; exact H
      clear H
      have H := H1
      clear H1
      obtain rfl := Option.some.inj H
      go_enter Try.func10, Try.ntmps10
      go_wp2_with (first | ((with_reducible refine gate_dst (N := 6) rfl ?_); (try (refine gate_guard (by rfl) ?_; dsimp only)); refine Kd.R_lit k35 _ 35 ?hg (N := 6) ?hd (xs := ([(⟨0, 0, (⟨#[104, 116, 109, 108]⟩ : ByteArray)⟩ : S35), (⟨1, 0, (⟨#[116, 97, 98, 108, 101]⟩ : ByteArray)⟩ : S35), (⟨2, 0, (⟨#[116, 100]⟩ : ByteArray)⟩ : S35), (⟨3, 0, (⟨#[112]⟩ : ByteArray)⟩ : S35)] : List (S35))) (inner := [.int .i64 0, .int .i64 0, .string (⟨#[104, 116, 109, 108]⟩ : ByteArray), .int .i64 1, .int .i64 0, .string (⟨#[116, 97, 98, 108, 101]⟩ : ByteArray), .int .i64 2, .int .i64 0, .string (⟨#[116, 100]⟩ : ByteArray), .int .i64 3, .int .i64 0, .string (⟨#[112]⟩ : ByteArray)]) (ok := fun _ => True) (okp := fun _ => True) ?hr ?hp (fun _ hk => hk) trivial (Below.refl _ _) (Nat.le_refl _) (by simp) ?_; (case hd => rfl); (case hg => rfl); (case hr => first | (go_simp; done) | (go_simp; rfl)); (case hp => exact (Reps.c3 (show Kd.M k35 _ _ _ (⟨0, 0, (⟨#[104, 116, 109, 108]⟩ : ByteArray)⟩ : S35) [.int .i64 0, .int .i64 0, .string (⟨#[104, 116, 109, 108]⟩ : ByteArray)] from (k35_mkM _ _ _ (⟨0, 0, (⟨#[104, 116, 109, 108]⟩ : ByteArray)⟩ : S35) )) (Reps.c3 (show Kd.M k35 _ _ _ (⟨1, 0, (⟨#[116, 97, 98, 108, 101]⟩ : ByteArray)⟩ : S35) [.int .i64 1, .int .i64 0, .string (⟨#[116, 97, 98, 108, 101]⟩ : ByteArray)] from (k35_mkM _ _ _ (⟨1, 0, (⟨#[116, 97, 98, 108, 101]⟩ : ByteArray)⟩ : S35) )) (Reps.c3 (show Kd.M k35 _ _ _ (⟨2, 0, (⟨#[116, 100]⟩ : ByteArray)⟩ : S35) [.int .i64 2, .int .i64 0, .string (⟨#[116, 100]⟩ : ByteArray)] from (k35_mkM _ _ _ (⟨2, 0, (⟨#[116, 100]⟩ : ByteArray)⟩ : S35) )) (Reps.c3 (show Kd.M k35 _ _ _ (⟨3, 0, (⟨#[112]⟩ : ByteArray)⟩ : S35) [.int .i64 3, .int .i64 0, .string (⟨#[112]⟩ : ByteArray)] from (k35_mkM _ _ _ (⟨3, 0, (⟨#[112]⟩ : ByteArray)⟩ : S35) )) (Reps.none _ _)))))); intro v170 w65 ho66 hb hg_ hnew_; clear hg_ hnew_; (first | rw [← Ny169.out] at ho66 | (simp only [Int.reduceToNat] at ho66; rw [← Ny169.out] at ho66)); have n0_ := Aside0.mk (Kd.R_lower ho66 (below_size (by repeat (first | (with_reducible first | exact HB.out | apply below_alloc | apply pw_below_drewN | apply below_drew1) | exact HB.out)))); have n1_ := Aside0.mk (below_step (by repeat (first | (with_reducible first | exact HB.out | apply below_alloc | apply pw_below_drewN | apply below_drew1) | exact HB.out)) hb); clear HB; have HO171 := n0_; have HB := n1_; clear n0_ n1_; clear hb ho66) | ((with_reducible refine gate_dst (N := 8) rfl ?_); (try (refine gate_guard (by rfl) ?_; dsimp only)); refine Kd.R_lit Kd.string _ 9 ?hg (N := 8) ?hd (xs := ([(⟨#[116, 97, 98, 108, 101]⟩ : ByteArray)] : List ByteArray)) (inner := [.string (⟨#[116, 97, 98, 108, 101]⟩ : ByteArray)]) (ok := fun _ => True) (okp := fun _ => True) ?hr ?hp (fun _ hk => hk) trivial (Below.refl _ _) (Nat.le_refl _) (by simp) ?_; (case hd => rfl); (case hg => rfl); (case hr => first | (go_simp; done) | (go_simp; rfl)); (case hp => exact (Reps.one (show Kd.M Kd.string _ _ _ (⟨#[116, 97, 98, 108, 101]⟩ : ByteArray) [.string (⟨#[116, 97, 98, 108, 101]⟩ : ByteArray)] from rfl) (Reps.none _ _))); intro v173 w67 ho68 hb hg_ hnew_; clear hg_ hnew_; (first | rw [← Ny172.out] at ho68 | (simp only [Int.reduceToNat] at ho68; rw [← Ny172.out] at ho68)); have n0_ := Aside0.mk (Kd.R_below (by (with_reducible repeat (first | apply Kd.R_alloc | apply Kd.R_drewN | apply Kd.R_drew)); exact HO171.out) hb); have n1_ := Aside0.mk (Kd.R_lower ho68 (below_size (by repeat (first | (with_reducible first | exact HB.out | apply below_alloc | apply pw_below_drewN | apply below_drew1) | exact HB.out)))); have n2_ := Aside0.mk (below_step (by repeat (first | (with_reducible first | exact HB.out | apply below_alloc | apply pw_below_drewN | apply below_drew1) | exact HB.out)) hb); clear HO171; clear HB; have HO171 := n0_; have HO174 := n1_; have HB := n2_; clear n0_ n1_ n2_; clear hb ho68; obtain ⟨Ao69, co69, eo69⟩ := Kd.R_slice HO171.out; subst eo69; obtain ⟨Ao70, co70, eo70⟩ := Kd.R_slice HO174.out; subst eo70) | ((with_reducible refine gate_callee (f := 11) rfl ?_); refine goesL_ (some 9) rfl rfl Try.func11 (by kernel_rfl) rfl #[.slice Ao69 y169.length co69, .slice Ao70 y172.length co70, .int .i64 1] rfl (by (try simp only [List.map_toArray, List.map_cons, List.map_nil]); first | done | rfl | (simp only [List.length_drop, List.length_take]; rfl)) ?_; (with_reducible refine (opens_Has.calls k _ _ y169 _ _ y172 1 false _ ?side1 ?side2 ?side3 ?side4 A1.out).mono ?_); (case side1 => repeat (first | exact (Kd.R_reads' HO171.out).2.2 | (with_reducible refine Kd.C_alloc ?_ _) | (with_reducible refine Kd.C_drewN ?_ _) | (with_reducible refine Kd.C_drew ?_))); (case side2 => exact (Kd.R_reads' HO171.out).2.1); (case side3 => repeat (first | exact (Kd.R_reads' HO174.out).2.2 | (with_reducible refine Kd.C_alloc ?_ _) | (with_reducible refine Kd.C_drewN ?_ _) | (with_reducible refine Kd.C_drew ?_))); (case side4 => exact (Kd.R_reads' HO174.out).2.1); rintro e w71 ⟨rfl, hb⟩; refine ⟨_, rfl, ?_⟩; have n0_ := Aside0.mk (Kd.R_below (by (with_reducible repeat (first | apply Kd.R_alloc | apply Kd.R_drewN | apply Kd.R_drew)); exact HO171.out) hb); have n1_ := Aside0.mk (Kd.R_below (by (with_reducible repeat (first | apply Kd.R_alloc | apply Kd.R_drewN | apply Kd.R_drew)); exact HO174.out) hb); have n2_ := Aside0.mk (below_step (by repeat (first | (with_reducible first | exact HB.out | apply below_alloc | apply pw_below_drewN | apply below_drew1) | exact HB.out)) hb); clear HO171; clear HO174; clear HB; have HO171 := n0_; have HO174 := n1_; have HB := n2_; clear n0_ n1_ n2_; (try clear hb); (try clear hb2); (try clear hk); (try clear hi)) | ((with_reducible refine gate_dst (N := 13) rfl ?_); (try (refine gate_guard (by rfl) ?_; dsimp only)); refine Kd.R_lit Kd.string _ 9 ?hg (N := 13) ?hd (xs := ([(⟨#[116, 97, 98, 108, 101]⟩ : ByteArray)] : List ByteArray)) (inner := [.string (⟨#[116, 97, 98, 108, 101]⟩ : ByteArray)]) (ok := fun _ => True) (okp := fun _ => True) ?hr ?hp (fun _ hk => hk) trivial (Below.refl _ _) (Nat.le_refl _) (by simp) ?_; (case hd => rfl); (case hg => rfl); (case hr => first | (go_simp; done) | (go_simp; rfl)); (case hp => exact (Reps.one (show Kd.M Kd.string _ _ _ (⟨#[116, 97, 98, 108, 101]⟩ : ByteArray) [.string (⟨#[116, 97, 98, 108, 101]⟩ : ByteArray)] from rfl) (Reps.none _ _))); intro v177 w72 ho73 hb hg_ hnew_; clear hg_ hnew_; (first | rw [← Ny176.out] at ho73 | (simp only [Int.reduceToNat] at ho73; rw [← Ny176.out] at ho73)); have n0_ := Aside0.mk (Kd.R_below (by (with_reducible repeat (first | apply Kd.R_alloc | apply Kd.R_drewN | apply Kd.R_drew)); exact HO171.out) hb); have n1_ := Aside0.mk (Kd.R_elder' (by (with_reducible repeat (first | apply Kd.R_alloc | apply Kd.R_drewN | apply Kd.R_drew)); exact HO174.out) (Kd.R_base ho73) hb); have n2_ := Aside0.mk (Kd.R_lower (Kd.R_new' ho73 (Kd.R_lt (by (with_reducible repeat (first | apply Kd.R_alloc | apply Kd.R_drewN | apply Kd.R_drew)); exact HO174.out))) (below_size (by repeat (first | (with_reducible first | exact HB.out | apply below_alloc | apply pw_below_drewN | apply below_drew1) | exact HB.out)))); have n3_ := Aside0.mk (below_step (by repeat (first | (with_reducible first | exact HB.out | apply below_alloc | apply pw_below_drewN | apply below_drew1) | exact HB.out)) hb); clear HO171; clear HO174; clear HB; have HO171 := n0_; have HO174 := n1_; have HO178 := n2_; have HB := n3_; clear n0_ n1_ n2_ n3_; clear hb ho73; obtain ⟨Ao74, co74, eo74⟩ := Kd.R_slice HO178.out; subst eo74) | (go_at_call 11; (with_reducible refine (opens_Has.calls k _ _ y169 _ _ y176 4 false _ ?side1 ?side2 ?side3 ?side4 A10.out).mono ?_); (case side1 => repeat (first | exact (Kd.R_reads' HO171.out).2.2 | (with_reducible refine Kd.C_alloc ?_ _) | (with_reducible refine Kd.C_drewN ?_ _) | (with_reducible refine Kd.C_drew ?_))); (case side2 => exact (Kd.R_reads' HO171.out).2.1); (case side3 => repeat (first | exact (Kd.R_reads' HO178.out).2.2 | (with_reducible refine Kd.C_alloc ?_ _) | (with_reducible refine Kd.C_drewN ?_ _) | (with_reducible refine Kd.C_drew ?_))); (case side4 => exact (Kd.R_reads' HO178.out).2.1); rintro e w75 ⟨rfl, hb⟩; have n0_ := Aside0.mk (Kd.R_below (by (with_reducible repeat (first | apply Kd.R_alloc | apply Kd.R_drewN | apply Kd.R_drew)); exact HO171.out) hb); have n1_ := Aside0.mk (Kd.R_below (by (with_reducible repeat (first | apply Kd.R_alloc | apply Kd.R_drewN | apply Kd.R_drew)); exact HO174.out) hb); have n2_ := Aside0.mk (Kd.R_below (by (with_reducible repeat (first | apply Kd.R_alloc | apply Kd.R_drewN | apply Kd.R_drew)); exact HO178.out) hb); have n3_ := Aside0.mk (below_step (by repeat (first | (with_reducible first | exact HB.out | apply below_alloc | apply pw_below_drewN | apply below_drew1) | exact HB.out)) hb); clear HO171; clear HO174; clear HO178; clear HB; have HO171 := n0_; have HO174 := n1_; have HO178 := n2_; have HB := n3_; clear n0_ n1_ n2_ n3_; (try clear hb); (try clear hb2); (try clear hk); (try clear hi)))
      go_ret
      exact ⟨by first | rfl | (simp [errW_none, errW_some] <;> rfl) | (simp [*, errW_none, errW_some] <;> rfl), by repeat (first | (with_reducible first | exact HB.out | apply below_alloc | apply pw_below_drewN | apply below_drew1) | exact HB.out)⟩

/-! ### marginaliaref02_In: function 44 -/
mutual
def marginaliaref02_In.l0 : Nat → ByteArray → ByteArray → Int → Int → Option (Bool)
  | 0, _, _, _, _ => none
  | k + 1, x0, x1, x5, x6 => if x6 ≤ (x0.size : Int) then (if x6 = (x0.size : Int) then (marginaliaref02_In.j1 k x0 x1 x5 x6 true) else (if 0 ≤ x6 then (if x6 < (x0.size : Int) then (marginaliaref02_In.j1 k x0 x1 x5 x6 ((bt x0 x6) == 32)) else (none)) else (none))) else (some false)
def marginaliaref02_In.j1 : Nat → ByteArray → ByteArray → Int → Int → Bool → Option (Bool)
  | 0, _, _, _, _, _ => none
  | k + 1, x0, x1, x5, x6, x22 => if x22 = true then (if 0 ≤ x5 then (if x5 ≤ x6 then (if x6 ≤ (x0.size : Int) then (if (x0.extract (x5 : Int).toNat (x6 : Int).toNat).toList = x1.toList then (some true) else (marginaliaref02_In.l0 k x0 x1 (wrap64 (x6 + 1)) (wrap64 (x6 + 1)))) else (none)) else (none)) else (none)) else (marginaliaref02_In.l0 k x0 x1 x5 (wrap64 (x6 + 1)))
end
def marginaliaref02_In.f (k : Nat) (a0 : ByteArray) (a1 : ByteArray) : Option (Bool) := marginaliaref02_In.l0 k a0 a1 0 0
theorem marginaliaref02_In.mono_l : ∀ k, (∀ y0 y1 y2 y3, LeO (marginaliaref02_In.l0 k y0 y1 y2 y3) (marginaliaref02_In.l0 (k + 1) y0 y1 y2 y3)) ∧ (∀ y0 y1 y2 y3 y4, LeO (marginaliaref02_In.j1 k y0 y1 y2 y3 y4) (marginaliaref02_In.j1 (k + 1) y0 y1 y2 y3 y4))
  | 0 => ⟨fun _ _ _ _ r h => by simp [marginaliaref02_In.l0] at h, fun _ _ _ _ _ r h => by simp [marginaliaref02_In.j1] at h⟩
  | k + 1 => by
    obtain ⟨ih0, ih1⟩ := marginaliaref02_In.mono_l k
    refine ⟨?_, ?_⟩
    · intro y0 y1 y2 y3
      unfold marginaliaref02_In.l0
      repeat' first
      | (with_reducible exact ih0 _ _ _ _)
      | (with_reducible exact ih1 _ _ _ _ _)
      | (with_reducible exact LeO.refl _)
      | (with_reducible exact LeO.none _)
      | (with_reducible refine LeO.ite ?_ ?_)
      | (with_reducible refine LeO.bind ?_ (fun _ => ?_))
      | exact ih0 _ _ _ _
      | exact ih1 _ _ _ _ _
      | exact LeO.none _
      | refine LeO.ite ?_ ?_
      | refine LeO.bind ?_ (fun _ => ?_)
    · intro y0 y1 y2 y3 y4
      unfold marginaliaref02_In.j1
      repeat' first
      | (with_reducible exact ih0 _ _ _ _)
      | (with_reducible exact ih1 _ _ _ _ _)
      | (with_reducible exact LeO.refl _)
      | (with_reducible exact LeO.none _)
      | (with_reducible refine LeO.ite ?_ ?_)
      | (with_reducible refine LeO.bind ?_ (fun _ => ?_))
      | exact ih0 _ _ _ _
      | exact ih1 _ _ _ _ _
      | exact LeO.none _
      | refine LeO.ite ?_ ?_
      | refine LeO.bind ?_ (fun _ => ?_)
theorem marginaliaref02_In.mono : ∀ a0 a1 k, LeO (marginaliaref02_In.f k a0 a1) (marginaliaref02_In.f (k + 1) a0 a1) := by
  intro a0 a1 k
  obtain ⟨ih0, ih1⟩ := marginaliaref02_In.mono_l k
  unfold marginaliaref02_In.f
  repeat' first
      | (with_reducible exact ih0 _ _ _ _)
      | (with_reducible exact ih1 _ _ _ _ _)
      | (with_reducible exact LeO.refl _)
      | (with_reducible exact LeO.none _)
      | (with_reducible refine LeO.ite ?_ ?_)
      | (with_reducible refine LeO.bind ?_ (fun _ => ?_))
      | exact ih0 _ _ _ _
      | exact ih1 _ _ _ _ _
      | exact LeO.none _
      | refine LeO.ite ?_ ?_
      | refine LeO.bind ?_ (fun _ => ?_)
set_option maxHeartbeats 8000000 in
set_option maxRecDepth 100000 in
theorem marginaliaref02_In.calls (k : Nat) (a0 : ByteArray) (a1 : ByteArray) (r : Bool) (w : World) (h : marginaliaref02_In.f k a0 a1 = some r) :
    Calls Try.prog 44 #[.string a0, .string a1] w fun e w' => e = .returned (.bool r) ∧ Drawn0 w w' := by
  have H : (marginaliaref02_In.l0 k a0 a1 0 0) = some r := h
  clear h
  have H' := Aside0.mk H
  clear H
  go_enter Try.func44, Try.ntmps44
  go_wp2
  go_loopg [5, 6] k (fun kq v5 v6 w' => ∃ (x5_1 : Int) (x6_1 : Int), v5 = .int .i64 x5_1 ∧ v6 = .int .i64 x6_1 ∧ Aside0 (marginaliaref02_In.l0 kq a0 a1 x5_1 x6_1 = some r) ∧ Aside0 (kq ≤ k) ∧ Drawn0 w w')
  case atStart => exact ⟨(0), (0), (by first | rfl | (simp; done) | (simp [*]; done)), (by first | rfl | (simp; done) | (simp [*]; done)), H', ⟨Nat.le_refl _⟩, by repeat (first | exact Drawn0.refl _ | apply Drawn0.step)⟩
  case round =>
    clear H'
    try clear p2
    obtain ⟨x5_1, x6_1, rfl, rfl, HA, HK1, ⟨m1, rfl⟩⟩ := hrel
    cases gk with
    | zero => exact absurd HA.out (by simp [marginaliaref02_In.l0])
    | succ k1 =>
      have H := HA.out
      clear HA
      simp only [marginaliaref02_In.l0] at H
      by_cases c3 : x6_1 ≤ (a0.size : Int)
      · rw [if_pos c3] at H
        have c3b0 : decide (x6_1 ≤ (a0.size : Int)) = true := decide_eq_true c3
        clear c3
        have HC4 := Aside0.mk H
        clear H
        go_upto_region 5 with (fail)
        go_cut [22] (fun v22 wc => ∃ (kq : Nat) (x22_3 : Bool), v22 = .bool x22_3 ∧ Aside0 (marginaliaref02_In.j1 kq a0 a1 x5_1 x6_1 x22_3 = some r) ∧ Aside0 (kq ≤ k1) ∧ Drawn0 w wc)
        case first =>
          have H := HC4.out
          clear HC4
          by_cases c5 : x6_1 = (a0.size : Int)
          · rw [if_pos c5] at H
            have c5b0 : (x6_1 == (a0.size : Int)) = true := beq_iff_eq.mpr c5
            have c5b1 : (x6_1 != (a0.size : Int)) = false := bne_eq_false_iff_eq.mpr c5
            clear c5
            (first | rw [c5b0] | (simp only [i64_w, i32_w]; rw [c5b0]) | skip)
            have H' := Aside0.mk H
            clear H
            go_wp2
            go_meet
            case rel => exact ⟨_, (true), (by first | rfl | (simp; done) | (simp [*]; done)), H', ⟨by have := HK1.out; first | omega | exact Nat.le_refl _⟩, by repeat (first | exact Drawn0.refl _ | apply Drawn0.step)⟩
          · rw [if_neg c5] at H
            have c5b0 : (x6_1 == (a0.size : Int)) = false := beq_eq_false_iff_ne.mpr c5
            have c5b1 : (x6_1 != (a0.size : Int)) = true := bne_iff_ne.mpr c5
            (first | rw [c5b0] | (simp only [i64_w, i32_w]; rw [c5b0]) | skip)
            by_cases c6 : 0 ≤ x6_1
            · rw [if_pos c6] at H
              have c6b0 : decide (0 ≤ x6_1) = true := decide_eq_true c6
              clear c6
              by_cases c7 : x6_1 < (a0.size : Int)
              · rw [if_pos c7] at H
                have c7b0 : decide (x6_1 < (a0.size : Int)) = true := decide_eq_true c7
                clear c7
                have H' := Aside0.mk H
                clear H
                have p8 : 0 ≤ (x6_1 : Int) := of_decide_eq_true (by first | (with_reducible assumption) | assumption)
                have q8 : x6_1 < (a0.size : Int) := of_decide_eq_true (by first | (with_reducible assumption) | assumption)
                have hx8 := bt_at a0 x6_1
                replace p8 := eq_true p8
                replace q8 := eq_true q8
                go_wp2
                go_meet
                case rel => exact ⟨_, (((bt a0 x6_1) == 32)), (by first | rfl | (simp; done) | (simp [*]; done)), H', ⟨by have := HK1.out; first | omega | exact Nat.le_refl _⟩, by repeat (first | exact Drawn0.refl _ | apply Drawn0.step)⟩
              · rw [if_neg c7] at H
                exact absurd H (by simp)
            · rw [if_neg c6] at H
              exact absurd H (by simp)
        case rest =>
          clear HC4
          try clear p2
          try clear c3
          try clear c3b0
          try clear c4
          try clear c5
          try clear c5b0
          try clear c5b1
          try clear c6
          try clear c6b0
          try clear c7
          try clear c7b0
          try clear p8
          try clear q8
          try clear hx8
          try clear p2
          try clear p8
          try clear q8
          obtain ⟨kq, x22_3, rfl, HA, HJ3, ⟨mc3, rfl⟩⟩ := hcut
          cases kq with
          | zero => exact absurd HA.out (by simp [marginaliaref02_In.j1])
          | succ kj3 =>
            have H := HA.out
            clear HA
            simp only [marginaliaref02_In.j1] at H
            by_cases c9 : x22_3 = true
            · subst c9
              have H1 : (if 0 ≤ x5_1 then (if x5_1 ≤ x6_1 then (if x6_1 ≤ (a0.size : Int) then (if (a0.extract (x5_1 : Int).toNat (x6_1 : Int).toNat).toList = a1.toList then (some true) else (marginaliaref02_In.l0 kj3 a0 a1 (wrap64 (x6_1 + 1)) (wrap64 (x6_1 + 1)))) else (none)) else (none)) else (none)) = some r := by rw [if_pos rfl] at H; exact H
              clear H
              have H := H1
              clear H1
              by_cases c10 : 0 ≤ x5_1
              · rw [if_pos c10] at H
                have c10b0 := eq_true c10
                have c10b1 : decide (0 ≤ x5_1) = true := decide_eq_true c10
                clear c10
                by_cases c11 : x5_1 ≤ x6_1
                · rw [if_pos c11] at H
                  have c11b0 := eq_true c11
                  have c11b1 : decide (x5_1 ≤ x6_1) = true := decide_eq_true c11
                  clear c11
                  by_cases c12 : x6_1 ≤ (a0.size : Int)
                  · rw [if_pos c12] at H
                    have c12b0 := eq_true c12
                    have c12b1 : decide (x6_1 ≤ (a0.size : Int)) = true := decide_eq_true c12
                    clear c12
                    by_cases c13 : (a0.extract (x5_1 : Int).toNat (x6_1 : Int).toNat).toList = a1.toList
                    · rw [if_pos c13] at H
                      have c13b0 : ((a0.extract (x5_1 : Int).toNat (x6_1 : Int).toNat).toList == a1.toList) = true := beq_iff_eq.mpr c13
                      have c13b1 : ((a0.extract (x5_1 : Int).toNat (x6_1 : Int).toNat).toList != a1.toList) = false := bne_eq_false_iff_eq.mpr c13
                      clear c13
                      obtain rfl := Option.some.inj H
                      go_wp2
                      go_ret
                      exact ⟨by first | rfl | (simp; done) | (simp [*]; done), by repeat (first | exact Drawn0.refl _ | apply Drawn0.step)⟩
                    · rw [if_neg c13] at H
                      have c13b0 : ((a0.extract (x5_1 : Int).toNat (x6_1 : Int).toNat).toList == a1.toList) = false := beq_eq_false_iff_ne.mpr c13
                      have c13b1 : ((a0.extract (x5_1 : Int).toNat (x6_1 : Int).toNat).toList != a1.toList) = true := bne_iff_ne.mpr c13
                      have H' := Aside0.mk H
                      clear H
                      go_wp2
                      go_roundg kj3
                      case measure => have := HK1.out; have := HJ3.out; omega
                      case rel => exact ⟨(wrap64 (x6_1 + 1)), (wrap64 (x6_1 + 1)), (by first | rfl | (simp; done) | (simp [*]; done)), (by first | rfl | (simp; done) | (simp [*]; done)), H', ⟨by have := HK1.out; have := HJ3.out; omega⟩, by repeat (first | exact Drawn0.refl _ | apply Drawn0.step)⟩
                  · rw [if_neg c12] at H
                    exact absurd H (by simp)
                · rw [if_neg c11] at H
                  exact absurd H (by simp)
              · rw [if_neg c10] at H
                exact absurd H (by simp)
            · replace c9 := Bool.eq_false_iff.mpr c9
              subst c9
              have H1 : (marginaliaref02_In.l0 kj3 a0 a1 x5_1 (wrap64 (x6_1 + 1))) = some r := by rw [if_neg (show ¬ (false = true) by decide)] at H; exact H
              clear H
              have H := H1
              clear H1
              have H' := Aside0.mk H
              clear H
              go_wp2
              go_roundg kj3
              case measure => have := HK1.out; have := HJ3.out; omega
              case rel => exact ⟨(x5_1), (wrap64 (x6_1 + 1)), (by first | rfl | (simp; done) | (simp [*]; done)), (by first | rfl | (simp; done) | (simp [*]; done)), H', ⟨by have := HK1.out; have := HJ3.out; omega⟩, by repeat (first | exact Drawn0.refl _ | apply Drawn0.step)⟩
      · rw [if_neg c3] at H
        have c3b0 : decide (x6_1 ≤ (a0.size : Int)) = false := decide_eq_false c3
        clear c3
        obtain rfl := Option.some.inj H
        go_wp2
        go_ret
        exact ⟨by first | rfl | (simp; done) | (simp [*]; done), by repeat (first | exact Drawn0.refl _ | apply Drawn0.step)⟩

/-! ### marginaliaref06_Point: function 23 -/
def marginaliaref06_Point.f (k : Nat) (a0_0 : Int) (a0_1 : Int) (a0_2 : ByteArray) : Option (Bool) := if a0_1 = 1 then ((marginaliaref02_In.f k (⟨#[102, 111, 114, 101, 105, 103, 110, 111, 98, 106, 101, 99, 116, 32, 100, 101, 115, 99, 32, 116, 105, 116, 108, 101]⟩ : ByteArray) a0_2).bind fun t187 => (if t187 = true then (some true) else (if a0_1 = 2 then ((marginaliaref02_In.f k (⟨#[109, 105, 32, 109, 111, 32, 109, 110, 32, 109, 115, 32, 109, 116, 101, 120, 116]⟩ : ByteArray) a0_2).bind fun t188 => (some t188)) else (some false)))) else (if a0_1 = 2 then ((marginaliaref02_In.f k (⟨#[109, 105, 32, 109, 111, 32, 109, 110, 32, 109, 115, 32, 109, 116, 101, 120, 116]⟩ : ByteArray) a0_2).bind fun t189 => (some t189)) else (some false))
theorem marginaliaref06_Point.mono : ∀ a0 a1 a2 k, LeO (marginaliaref06_Point.f k a0 a1 a2) (marginaliaref06_Point.f (k + 1) a0 a1 a2) := by
  intro a0 a1 a2 k
  unfold marginaliaref06_Point.f
  repeat' first
      | (with_reducible exact marginaliaref02_In.mono _ _ _)
      | (with_reducible exact LeO.refl _)
      | (with_reducible exact LeO.none _)
      | (with_reducible refine LeO.ite ?_ ?_)
      | (with_reducible refine LeO.bind ?_ (fun _ => ?_))
      | exact marginaliaref02_In.mono _ _ _
      | exact LeO.none _
      | refine LeO.ite ?_ ?_
      | refine LeO.bind ?_ (fun _ => ?_)
set_option maxHeartbeats 8000000 in
set_option maxRecDepth 100000 in
theorem marginaliaref06_Point.calls (k : Nat) (a0_0 : Int) (a0_1 : Int) (a0_2 : ByteArray) (r : Bool) (w : World) (h : marginaliaref06_Point.f k a0_0 a0_1 a0_2 = some r) :
    Calls Try.prog 23 #[.agg #[.int .i64 a0_0, .int .i64 a0_1, .string a0_2]] w fun e w' => e = .returned (.bool r) ∧ Below w.heap.size w w' := by
  have hu35 := Try.underlying35
  have HB := Aside0.mk (Below.refl w.heap.size w)
  have H : (if a0_1 = 1 then ((marginaliaref02_In.f k (⟨#[102, 111, 114, 101, 105, 103, 110, 111, 98, 106, 101, 99, 116, 32, 100, 101, 115, 99, 32, 116, 105, 116, 108, 101]⟩ : ByteArray) a0_2).bind fun t187 => (if t187 = true then (some true) else (if a0_1 = 2 then ((marginaliaref02_In.f k (⟨#[109, 105, 32, 109, 111, 32, 109, 110, 32, 109, 115, 32, 109, 116, 101, 120, 116]⟩ : ByteArray) a0_2).bind fun t188 => (some t188)) else (some false)))) else (if a0_1 = 2 then ((marginaliaref02_In.f k (⟨#[109, 105, 32, 109, 111, 32, 109, 110, 32, 109, 115, 32, 109, 116, 101, 120, 116]⟩ : ByteArray) a0_2).bind fun t189 => (some t189)) else (some false))) = some r := h
  clear h
  by_cases c2 : a0_1 = 1
  · rw [if_pos c2] at H
    have c2b0 : (a0_1 == 1) = true := beq_iff_eq.mpr c2
    have c2b1 : (a0_1 != 1) = false := bne_eq_false_iff_eq.mpr c2
    clear c2
    replace H := Option.bind_eq_some_iff.mp H
    obtain ⟨t187, A30, H⟩ := H
    replace H : (if t187 = true then (some true) else (if a0_1 = 2 then ((marginaliaref02_In.f k (⟨#[109, 105, 32, 109, 111, 32, 109, 110, 32, 109, 115, 32, 109, 116, 101, 120, 116]⟩ : ByteArray) a0_2).bind fun t188 => (some t188)) else (some false))) = some r := H
    have A3 := Aside0.mk A30
    clear A30
    by_cases c4 : t187 = true
    · subst c4
      have H1 : (some true) = some r := by rw [if_pos rfl] at H; exact H
      clear H
      have H := H1
      clear H1
      obtain rfl := Option.some.inj H
      go_enter Try.func23, Try.ntmps23
      go_wp2_with (first | ((with_reducible refine gate_dst (N := 1) rfl ?_); refine box_event ?hg (N := 1) ?hd (cs := #[.int .i64 a0_0, .int .i64 a0_1, .string a0_2]) (t := 35) ?hr ?_; (case hd => rfl); (case hg => rfl); (case hr => first | (go_simp; done) | (go_simp; rfl)); intro gb186 hg w5 hbox hb; have n0_ := Aside0.mk (below_step (by repeat (first | (with_reducible first | exact HB.out | apply below_alloc | apply pw_below_drewN | apply below_drew1) | exact HB.out)) hb); have n1_ := Aside0.mk (hbox); have n2_ := Aside0.mk ((by rw [hg]; exact (below_size (by repeat (first | (with_reducible first | exact HB.out | apply below_alloc | apply pw_below_drewN | apply below_drew1) | exact HB.out))) : w.heap.size ≤ gb186)); have n3_ := Aside0.mk ((by rw [hg]; exact (below_size (by repeat (first | (with_reducible first | exact HB.out | apply below_alloc | apply pw_below_drewN | apply below_drew1) | exact HB.out))) : w.heap.size ≤ gb186)); clear HB; have HB := n0_; have BK186 := n1_; have GW186 := n2_; have GE186 := n3_; clear n0_ n1_ n2_ n3_; clear hb hbox hg; have hcz6_0 : w5.cell? ⟨gb186, 0, none⟩ = some (.int .i64 a0_0) := (blk_cell BK186.out 0).trans rfl; have hcz6_1 : w5.cell? ⟨gb186, 1, none⟩ = some (.int .i64 a0_1) := (blk_cell BK186.out 1).trans rfl; have hcz6_2 : w5.cell? ⟨gb186, 2, none⟩ = some (.string a0_2) := (blk_cell BK186.out 2).trans rfl; have hfz6_0 := blk_frozen BK186.out 0; have hfz6_1 := blk_frozen BK186.out 1; have hfz6_2 := blk_frozen BK186.out 2) | (go_at_call 44; (with_reducible refine (marginaliaref02_In.calls k (⟨#[102, 111, 114, 101, 105, 103, 110, 111, 98, 106, 101, 99, 116, 32, 100, 101, 115, 99, 32, 116, 105, 116, 108, 101]⟩ : ByteArray) a0_2 true _ A3.out).mono ?_); rintro e w' ⟨rfl, ⟨nd, rfl⟩⟩))
      go_ret
      exact ⟨by first | rfl | (simp [errW_none, errW_some] <;> rfl) | (simp [*, errW_none, errW_some] <;> rfl), by repeat (first | (with_reducible first | exact HB.out | apply below_alloc | apply pw_below_drewN | apply below_drew1 | refine below_set ?_ GE186.out) | exact HB.out)⟩
    · replace c4 := Bool.eq_false_iff.mpr c4
      subst c4
      have H1 : (if a0_1 = 2 then ((marginaliaref02_In.f k (⟨#[109, 105, 32, 109, 111, 32, 109, 110, 32, 109, 115, 32, 109, 116, 101, 120, 116]⟩ : ByteArray) a0_2).bind fun t188 => (some t188)) else (some false)) = some r := by rw [if_neg (show ¬ (false = true) by decide)] at H; exact H
      clear H
      have H := H1
      clear H1
      by_cases c7 : a0_1 = 2
      · rw [if_pos c7] at H
        have c7b0 : (a0_1 == 2) = true := beq_iff_eq.mpr c7
        have c7b1 : (a0_1 != 2) = false := bne_eq_false_iff_eq.mpr c7
        clear c7
        replace H := Option.bind_eq_some_iff.mp H
        obtain ⟨t188, A80, H⟩ := H
        replace H : (some t188) = some r := H
        have A8 := Aside0.mk A80
        clear A80
        obtain rfl := Option.some.inj H
        go_enter Try.func23, Try.ntmps23
        go_wp2_with (first | ((with_reducible refine gate_dst (N := 1) rfl ?_); refine box_event ?hg (N := 1) ?hd (cs := #[.int .i64 a0_0, .int .i64 a0_1, .string a0_2]) (t := 35) ?hr ?_; (case hd => rfl); (case hg => rfl); (case hr => first | (go_simp; done) | (go_simp; rfl)); intro gb186 hg w9 hbox hb; have n0_ := Aside0.mk (below_step (by repeat (first | (with_reducible first | exact HB.out | apply below_alloc | apply pw_below_drewN | apply below_drew1) | exact HB.out)) hb); have n1_ := Aside0.mk (hbox); have n2_ := Aside0.mk ((by rw [hg]; exact (below_size (by repeat (first | (with_reducible first | exact HB.out | apply below_alloc | apply pw_below_drewN | apply below_drew1) | exact HB.out))) : w.heap.size ≤ gb186)); have n3_ := Aside0.mk ((by rw [hg]; exact (below_size (by repeat (first | (with_reducible first | exact HB.out | apply below_alloc | apply pw_below_drewN | apply below_drew1) | exact HB.out))) : w.heap.size ≤ gb186)); clear HB; have HB := n0_; have BK186 := n1_; have GW186 := n2_; have GE186 := n3_; clear n0_ n1_ n2_ n3_; clear hb hbox hg; have hcz10_0 : w9.cell? ⟨gb186, 0, none⟩ = some (.int .i64 a0_0) := (blk_cell BK186.out 0).trans rfl; have hcz10_1 : w9.cell? ⟨gb186, 1, none⟩ = some (.int .i64 a0_1) := (blk_cell BK186.out 1).trans rfl; have hcz10_2 : w9.cell? ⟨gb186, 2, none⟩ = some (.string a0_2) := (blk_cell BK186.out 2).trans rfl; have hfz10_0 := blk_frozen BK186.out 0; have hfz10_1 := blk_frozen BK186.out 1; have hfz10_2 := blk_frozen BK186.out 2) | (go_at_call 44; (with_reducible refine (marginaliaref02_In.calls k (⟨#[102, 111, 114, 101, 105, 103, 110, 111, 98, 106, 101, 99, 116, 32, 100, 101, 115, 99, 32, 116, 105, 116, 108, 101]⟩ : ByteArray) a0_2 false _ A3.out).mono ?_); rintro e w' ⟨rfl, ⟨nd, rfl⟩⟩) | (go_at_call 44; (with_reducible refine (marginaliaref02_In.calls k (⟨#[109, 105, 32, 109, 111, 32, 109, 110, 32, 109, 115, 32, 109, 116, 101, 120, 116]⟩ : ByteArray) a0_2 t188 _ A8.out).mono ?_); rintro e w' ⟨rfl, ⟨nd, rfl⟩⟩))
        go_ret
        exact ⟨by first | rfl | (simp [errW_none, errW_some] <;> rfl) | (simp [*, errW_none, errW_some] <;> rfl), by repeat (first | (with_reducible first | exact HB.out | apply below_alloc | apply pw_below_drewN | apply below_drew1 | refine below_set ?_ GE186.out) | exact HB.out)⟩
      · rw [if_neg c7] at H
        have c7b0 : (a0_1 == 2) = false := beq_eq_false_iff_ne.mpr c7
        have c7b1 : (a0_1 != 2) = true := bne_iff_ne.mpr c7
        obtain rfl := Option.some.inj H
        go_enter Try.func23, Try.ntmps23
        go_wp2_with (first | ((with_reducible refine gate_dst (N := 1) rfl ?_); refine box_event ?hg (N := 1) ?hd (cs := #[.int .i64 a0_0, .int .i64 a0_1, .string a0_2]) (t := 35) ?hr ?_; (case hd => rfl); (case hg => rfl); (case hr => first | (go_simp; done) | (go_simp; rfl)); intro gb186 hg w11 hbox hb; have n0_ := Aside0.mk (below_step (by repeat (first | (with_reducible first | exact HB.out | apply below_alloc | apply pw_below_drewN | apply below_drew1) | exact HB.out)) hb); have n1_ := Aside0.mk (hbox); have n2_ := Aside0.mk ((by rw [hg]; exact (below_size (by repeat (first | (with_reducible first | exact HB.out | apply below_alloc | apply pw_below_drewN | apply below_drew1) | exact HB.out))) : w.heap.size ≤ gb186)); have n3_ := Aside0.mk ((by rw [hg]; exact (below_size (by repeat (first | (with_reducible first | exact HB.out | apply below_alloc | apply pw_below_drewN | apply below_drew1) | exact HB.out))) : w.heap.size ≤ gb186)); clear HB; have HB := n0_; have BK186 := n1_; have GW186 := n2_; have GE186 := n3_; clear n0_ n1_ n2_ n3_; clear hb hbox hg; have hcz12_0 : w11.cell? ⟨gb186, 0, none⟩ = some (.int .i64 a0_0) := (blk_cell BK186.out 0).trans rfl; have hcz12_1 : w11.cell? ⟨gb186, 1, none⟩ = some (.int .i64 a0_1) := (blk_cell BK186.out 1).trans rfl; have hcz12_2 : w11.cell? ⟨gb186, 2, none⟩ = some (.string a0_2) := (blk_cell BK186.out 2).trans rfl; have hfz12_0 := blk_frozen BK186.out 0; have hfz12_1 := blk_frozen BK186.out 1; have hfz12_2 := blk_frozen BK186.out 2) | (go_at_call 44; (with_reducible refine (marginaliaref02_In.calls k (⟨#[102, 111, 114, 101, 105, 103, 110, 111, 98, 106, 101, 99, 116, 32, 100, 101, 115, 99, 32, 116, 105, 116, 108, 101]⟩ : ByteArray) a0_2 false _ A3.out).mono ?_); rintro e w' ⟨rfl, ⟨nd, rfl⟩⟩))
        go_ret
        exact ⟨by first | rfl | (simp [errW_none, errW_some] <;> rfl) | (simp [*, errW_none, errW_some] <;> rfl), by repeat (first | (with_reducible first | exact HB.out | apply below_alloc | apply pw_below_drewN | apply below_drew1 | refine below_set ?_ GE186.out) | exact HB.out)⟩
  · rw [if_neg c2] at H
    have c2b0 : (a0_1 == 1) = false := beq_eq_false_iff_ne.mpr c2
    have c2b1 : (a0_1 != 1) = true := bne_iff_ne.mpr c2
    by_cases c13 : a0_1 = 2
    · rw [if_pos c13] at H
      have c13b0 : (a0_1 == 2) = true := beq_iff_eq.mpr c13
      have c13b1 : (a0_1 != 2) = false := bne_eq_false_iff_eq.mpr c13
      clear c13
      replace H := Option.bind_eq_some_iff.mp H
      obtain ⟨t189, A140, H⟩ := H
      replace H : (some t189) = some r := H
      have A14 := Aside0.mk A140
      clear A140
      obtain rfl := Option.some.inj H
      go_enter Try.func23, Try.ntmps23
      go_wp2_with (first | ((with_reducible refine gate_dst (N := 1) rfl ?_); refine box_event ?hg (N := 1) ?hd (cs := #[.int .i64 a0_0, .int .i64 a0_1, .string a0_2]) (t := 35) ?hr ?_; (case hd => rfl); (case hg => rfl); (case hr => first | (go_simp; done) | (go_simp; rfl)); intro gb186 hg w15 hbox hb; have n0_ := Aside0.mk (below_step (by repeat (first | (with_reducible first | exact HB.out | apply below_alloc | apply pw_below_drewN | apply below_drew1) | exact HB.out)) hb); have n1_ := Aside0.mk (hbox); have n2_ := Aside0.mk ((by rw [hg]; exact (below_size (by repeat (first | (with_reducible first | exact HB.out | apply below_alloc | apply pw_below_drewN | apply below_drew1) | exact HB.out))) : w.heap.size ≤ gb186)); have n3_ := Aside0.mk ((by rw [hg]; exact (below_size (by repeat (first | (with_reducible first | exact HB.out | apply below_alloc | apply pw_below_drewN | apply below_drew1) | exact HB.out))) : w.heap.size ≤ gb186)); clear HB; have HB := n0_; have BK186 := n1_; have GW186 := n2_; have GE186 := n3_; clear n0_ n1_ n2_ n3_; clear hb hbox hg; have hcz16_0 : w15.cell? ⟨gb186, 0, none⟩ = some (.int .i64 a0_0) := (blk_cell BK186.out 0).trans rfl; have hcz16_1 : w15.cell? ⟨gb186, 1, none⟩ = some (.int .i64 a0_1) := (blk_cell BK186.out 1).trans rfl; have hcz16_2 : w15.cell? ⟨gb186, 2, none⟩ = some (.string a0_2) := (blk_cell BK186.out 2).trans rfl; have hfz16_0 := blk_frozen BK186.out 0; have hfz16_1 := blk_frozen BK186.out 1; have hfz16_2 := blk_frozen BK186.out 2) | (go_at_call 44; (with_reducible refine (marginaliaref02_In.calls k (⟨#[109, 105, 32, 109, 111, 32, 109, 110, 32, 109, 115, 32, 109, 116, 101, 120, 116]⟩ : ByteArray) a0_2 t189 _ A14.out).mono ?_); rintro e w' ⟨rfl, ⟨nd, rfl⟩⟩))
      go_ret
      exact ⟨by first | rfl | (simp [errW_none, errW_some] <;> rfl) | (simp [*, errW_none, errW_some] <;> rfl), by repeat (first | (with_reducible first | exact HB.out | apply below_alloc | apply pw_below_drewN | apply below_drew1 | refine below_set ?_ GE186.out) | exact HB.out)⟩
    · rw [if_neg c13] at H
      have c13b0 : (a0_1 == 2) = false := beq_eq_false_iff_ne.mpr c13
      have c13b1 : (a0_1 != 2) = true := bne_iff_ne.mpr c13
      obtain rfl := Option.some.inj H
      go_enter Try.func23, Try.ntmps23
      go_wp2_with (first | ((with_reducible refine gate_dst (N := 1) rfl ?_); refine box_event ?hg (N := 1) ?hd (cs := #[.int .i64 a0_0, .int .i64 a0_1, .string a0_2]) (t := 35) ?hr ?_; (case hd => rfl); (case hg => rfl); (case hr => first | (go_simp; done) | (go_simp; rfl)); intro gb186 hg w17 hbox hb; have n0_ := Aside0.mk (below_step (by repeat (first | (with_reducible first | exact HB.out | apply below_alloc | apply pw_below_drewN | apply below_drew1) | exact HB.out)) hb); have n1_ := Aside0.mk (hbox); have n2_ := Aside0.mk ((by rw [hg]; exact (below_size (by repeat (first | (with_reducible first | exact HB.out | apply below_alloc | apply pw_below_drewN | apply below_drew1) | exact HB.out))) : w.heap.size ≤ gb186)); have n3_ := Aside0.mk ((by rw [hg]; exact (below_size (by repeat (first | (with_reducible first | exact HB.out | apply below_alloc | apply pw_below_drewN | apply below_drew1) | exact HB.out))) : w.heap.size ≤ gb186)); clear HB; have HB := n0_; have BK186 := n1_; have GW186 := n2_; have GE186 := n3_; clear n0_ n1_ n2_ n3_; clear hb hbox hg; have hcz18_0 : w17.cell? ⟨gb186, 0, none⟩ = some (.int .i64 a0_0) := (blk_cell BK186.out 0).trans rfl; have hcz18_1 : w17.cell? ⟨gb186, 1, none⟩ = some (.int .i64 a0_1) := (blk_cell BK186.out 1).trans rfl; have hcz18_2 : w17.cell? ⟨gb186, 2, none⟩ = some (.string a0_2) := (blk_cell BK186.out 2).trans rfl; have hfz18_0 := blk_frozen BK186.out 0; have hfz18_1 := blk_frozen BK186.out 1; have hfz18_2 := blk_frozen BK186.out 2))
      go_ret
      exact ⟨by first | rfl | (simp [errW_none, errW_some] <;> rfl) | (simp [*, errW_none, errW_some] <;> rfl), by repeat (first | (with_reducible first | exact HB.out | apply below_alloc | apply pw_below_drewN | apply below_drew1 | refine below_set ?_ GE186.out) | exact HB.out)⟩

/-! ### marginaliaref06_Ends: function 21 -/
def marginaliaref06_Ends.f (k : Nat) (a0_0 : Int) (a0_1 : Int) (a0_2 : ByteArray) (a1 : Int) : Option (Bool) := if a1 = 4 then (if a0_1 = 0 then ((marginaliaref02_In.f k (⟨#[104, 116, 109, 108, 32, 116, 97, 98, 108, 101, 32, 116, 101, 109, 112, 108, 97, 116, 101]⟩ : ByteArray) a0_2).bind fun t191 => (some t191)) else (some false)) else (if a0_1 = 0 then ((marginaliaref02_In.f k (⟨#[97, 112, 112, 108, 101, 116, 32, 99, 97, 112, 116, 105, 111, 110, 32, 104, 116, 109, 108, 32, 109, 97, 114, 113, 117, 101, 101, 32, 111, 98, 106, 101, 99, 116, 32, 116, 97, 98, 108, 101, 32, 116, 100, 32, 116, 101, 109, 112, 108, 97, 116, 101, 32, 116, 104]⟩ : ByteArray) a0_2).bind fun t192 => (if t192 = true then (some true) else ((marginaliaref06_Point.f k a0_0 a0_1 a0_2).bind fun t193 => (if t193 = true then (some true) else (if a1 = 2 then ((marginaliaref02_In.f k (⟨#[111, 108, 32, 117, 108]⟩ : ByteArray) a0_2).bind fun t194 => (if t194 = true then (some true) else (if a1 = 3 then (some (a0_2.toList == ([98, 117, 116, 116, 111, 110] : List UInt8))) else (some false)))) else (if a1 = 3 then (some (a0_2.toList == ([98, 117, 116, 116, 111, 110] : List UInt8))) else (some false))))))) else ((marginaliaref06_Point.f k a0_0 a0_1 a0_2).bind fun t195 => (if t195 = true then (some true) else (some false))))
theorem marginaliaref06_Ends.mono : ∀ a0 a1 a2 a3 k, LeO (marginaliaref06_Ends.f k a0 a1 a2 a3) (marginaliaref06_Ends.f (k + 1) a0 a1 a2 a3) := by
  intro a0 a1 a2 a3 k
  unfold marginaliaref06_Ends.f
  repeat' first
      | (with_reducible exact marginaliaref02_In.mono _ _ _)
      | (with_reducible exact marginaliaref06_Point.mono _ _ _ _)
      | (with_reducible exact LeO.refl _)
      | (with_reducible exact LeO.none _)
      | (with_reducible refine LeO.ite ?_ ?_)
      | (with_reducible refine LeO.bind ?_ (fun _ => ?_))
      | exact marginaliaref02_In.mono _ _ _
      | exact marginaliaref06_Point.mono _ _ _ _
      | exact LeO.none _
      | refine LeO.ite ?_ ?_
      | refine LeO.bind ?_ (fun _ => ?_)
set_option maxHeartbeats 8000000 in
set_option maxRecDepth 100000 in
theorem marginaliaref06_Ends.calls (k : Nat) (a0_0 : Int) (a0_1 : Int) (a0_2 : ByteArray) (a1 : Int) (r : Bool) (w : World) (h : marginaliaref06_Ends.f k a0_0 a0_1 a0_2 a1 = some r) :
    Calls Try.prog 21 #[.agg #[.int .i64 a0_0, .int .i64 a0_1, .string a0_2], .int .i64 a1] w fun e w' => e = .returned (.bool r) ∧ Below w.heap.size w w' := by
  have hu35 := Try.underlying35
  have HB := Aside0.mk (Below.refl w.heap.size w)
  have H : (if a1 = 4 then (if a0_1 = 0 then ((marginaliaref02_In.f k (⟨#[104, 116, 109, 108, 32, 116, 97, 98, 108, 101, 32, 116, 101, 109, 112, 108, 97, 116, 101]⟩ : ByteArray) a0_2).bind fun t191 => (some t191)) else (some false)) else (if a0_1 = 0 then ((marginaliaref02_In.f k (⟨#[97, 112, 112, 108, 101, 116, 32, 99, 97, 112, 116, 105, 111, 110, 32, 104, 116, 109, 108, 32, 109, 97, 114, 113, 117, 101, 101, 32, 111, 98, 106, 101, 99, 116, 32, 116, 97, 98, 108, 101, 32, 116, 100, 32, 116, 101, 109, 112, 108, 97, 116, 101, 32, 116, 104]⟩ : ByteArray) a0_2).bind fun t192 => (if t192 = true then (some true) else ((marginaliaref06_Point.f k a0_0 a0_1 a0_2).bind fun t193 => (if t193 = true then (some true) else (if a1 = 2 then ((marginaliaref02_In.f k (⟨#[111, 108, 32, 117, 108]⟩ : ByteArray) a0_2).bind fun t194 => (if t194 = true then (some true) else (if a1 = 3 then (some (a0_2.toList == ([98, 117, 116, 116, 111, 110] : List UInt8))) else (some false)))) else (if a1 = 3 then (some (a0_2.toList == ([98, 117, 116, 116, 111, 110] : List UInt8))) else (some false))))))) else ((marginaliaref06_Point.f k a0_0 a0_1 a0_2).bind fun t195 => (if t195 = true then (some true) else (some false))))) = some r := h
  clear h
  by_cases c3 : a1 = 4
  · rw [if_pos c3] at H
    have c3b0 : (a1 == 4) = true := beq_iff_eq.mpr c3
    have c3b1 : (a1 != 4) = false := bne_eq_false_iff_eq.mpr c3
    clear c3
    by_cases c4 : a0_1 = 0
    · rw [if_pos c4] at H
      have c4b0 : (a0_1 == 0) = true := beq_iff_eq.mpr c4
      have c4b1 : (a0_1 != 0) = false := bne_eq_false_iff_eq.mpr c4
      clear c4
      replace H := Option.bind_eq_some_iff.mp H
      obtain ⟨t191, A50, H⟩ := H
      replace H : (some t191) = some r := H
      have A5 := Aside0.mk A50
      clear A50
      obtain rfl := Option.some.inj H
      go_enter Try.func21, Try.ntmps21
      go_wp2_with (first | ((with_reducible refine gate_dst (N := 2) rfl ?_); refine box_event ?hg (N := 2) ?hd (cs := #[.int .i64 a0_0, .int .i64 a0_1, .string a0_2]) (t := 35) ?hr ?_; (case hd => rfl); (case hg => rfl); (case hr => first | (go_simp; done) | (go_simp; rfl)); intro gb190 hg w6 hbox hb; have n0_ := Aside0.mk (below_step (by repeat (first | (with_reducible first | exact HB.out | apply below_alloc | apply pw_below_drewN | apply below_drew1) | exact HB.out)) hb); have n1_ := Aside0.mk (hbox); have n2_ := Aside0.mk ((by rw [hg]; exact (below_size (by repeat (first | (with_reducible first | exact HB.out | apply below_alloc | apply pw_below_drewN | apply below_drew1) | exact HB.out))) : w.heap.size ≤ gb190)); have n3_ := Aside0.mk ((by rw [hg]; exact (below_size (by repeat (first | (with_reducible first | exact HB.out | apply below_alloc | apply pw_below_drewN | apply below_drew1) | exact HB.out))) : w.heap.size ≤ gb190)); clear HB; have HB := n0_; have BK190 := n1_; have GW190 := n2_; have GE190 := n3_; clear n0_ n1_ n2_ n3_; clear hb hbox hg; have hcz7_0 : w6.cell? ⟨gb190, 0, none⟩ = some (.int .i64 a0_0) := (blk_cell BK190.out 0).trans rfl; have hcz7_1 : w6.cell? ⟨gb190, 1, none⟩ = some (.int .i64 a0_1) := (blk_cell BK190.out 1).trans rfl; have hcz7_2 : w6.cell? ⟨gb190, 2, none⟩ = some (.string a0_2) := (blk_cell BK190.out 2).trans rfl; have hfz7_0 := blk_frozen BK190.out 0; have hfz7_1 := blk_frozen BK190.out 1; have hfz7_2 := blk_frozen BK190.out 2) | (go_at_call 44; (with_reducible refine (marginaliaref02_In.calls k (⟨#[104, 116, 109, 108, 32, 116, 97, 98, 108, 101, 32, 116, 101, 109, 112, 108, 97, 116, 101]⟩ : ByteArray) a0_2 t191 _ A5.out).mono ?_); rintro e w' ⟨rfl, ⟨nd, rfl⟩⟩))
      go_ret
      exact ⟨by first | rfl | (simp [errW_none, errW_some] <;> rfl) | (simp [*, errW_none, errW_some] <;> rfl), by repeat (first | (with_reducible first | exact HB.out | apply below_alloc | apply pw_below_drewN | apply below_drew1 | refine below_set ?_ GE190.out) | exact HB.out)⟩
    · rw [if_neg c4] at H
      have c4b0 : (a0_1 == 0) = false := beq_eq_false_iff_ne.mpr c4
      have c4b1 : (a0_1 != 0) = true := bne_iff_ne.mpr c4
      obtain rfl := Option.some.inj H
      go_enter Try.func21, Try.ntmps21
      go_wp2_with (first | ((with_reducible refine gate_dst (N := 2) rfl ?_); refine box_event ?hg (N := 2) ?hd (cs := #[.int .i64 a0_0, .int .i64 a0_1, .string a0_2]) (t := 35) ?hr ?_; (case hd => rfl); (case hg => rfl); (case hr => first | (go_simp; done) | (go_simp; rfl)); intro gb190 hg w8 hbox hb; have n0_ := Aside0.mk (below_step (by repeat (first | (with_reducible first | exact HB.out | apply below_alloc | apply pw_below_drewN | apply below_drew1) | exact HB.out)) hb); have n1_ := Aside0.mk (hbox); have n2_ := Aside0.mk ((by rw [hg]; exact (below_size (by repeat (first | (with_reducible first | exact HB.out | apply below_alloc | apply pw_below_drewN | apply below_drew1) | exact HB.out))) : w.heap.size ≤ gb190)); have n3_ := Aside0.mk ((by rw [hg]; exact (below_size (by repeat (first | (with_reducible first | exact HB.out | apply below_alloc | apply pw_below_drewN | apply below_drew1) | exact HB.out))) : w.heap.size ≤ gb190)); clear HB; have HB := n0_; have BK190 := n1_; have GW190 := n2_; have GE190 := n3_; clear n0_ n1_ n2_ n3_; clear hb hbox hg; have hcz9_0 : w8.cell? ⟨gb190, 0, none⟩ = some (.int .i64 a0_0) := (blk_cell BK190.out 0).trans rfl; have hcz9_1 : w8.cell? ⟨gb190, 1, none⟩ = some (.int .i64 a0_1) := (blk_cell BK190.out 1).trans rfl; have hcz9_2 : w8.cell? ⟨gb190, 2, none⟩ = some (.string a0_2) := (blk_cell BK190.out 2).trans rfl; have hfz9_0 := blk_frozen BK190.out 0; have hfz9_1 := blk_frozen BK190.out 1; have hfz9_2 := blk_frozen BK190.out 2))
      go_ret
      exact ⟨by first | rfl | (simp [errW_none, errW_some] <;> rfl) | (simp [*, errW_none, errW_some] <;> rfl), by repeat (first | (with_reducible first | exact HB.out | apply below_alloc | apply pw_below_drewN | apply below_drew1 | refine below_set ?_ GE190.out) | exact HB.out)⟩
  · rw [if_neg c3] at H
    have c3b0 : (a1 == 4) = false := beq_eq_false_iff_ne.mpr c3
    have c3b1 : (a1 != 4) = true := bne_iff_ne.mpr c3
    by_cases c10 : a0_1 = 0
    · rw [if_pos c10] at H
      have c10b0 : (a0_1 == 0) = true := beq_iff_eq.mpr c10
      have c10b1 : (a0_1 != 0) = false := bne_eq_false_iff_eq.mpr c10
      clear c10
      replace H := Option.bind_eq_some_iff.mp H
      obtain ⟨t192, A110, H⟩ := H
      replace H : (if t192 = true then (some true) else ((marginaliaref06_Point.f k a0_0 a0_1 a0_2).bind fun t193 => (if t193 = true then (some true) else (if a1 = 2 then ((marginaliaref02_In.f k (⟨#[111, 108, 32, 117, 108]⟩ : ByteArray) a0_2).bind fun t194 => (if t194 = true then (some true) else (if a1 = 3 then (some (a0_2.toList == ([98, 117, 116, 116, 111, 110] : List UInt8))) else (some false)))) else (if a1 = 3 then (some (a0_2.toList == ([98, 117, 116, 116, 111, 110] : List UInt8))) else (some false)))))) = some r := H
      have A11 := Aside0.mk A110
      clear A110
      by_cases c12 : t192 = true
      · subst c12
        have H1 : (some true) = some r := by rw [if_pos rfl] at H; exact H
        clear H
        have H := H1
        clear H1
        obtain rfl := Option.some.inj H
        go_enter Try.func21, Try.ntmps21
        go_wp2_with (first | ((with_reducible refine gate_dst (N := 2) rfl ?_); refine box_event ?hg (N := 2) ?hd (cs := #[.int .i64 a0_0, .int .i64 a0_1, .string a0_2]) (t := 35) ?hr ?_; (case hd => rfl); (case hg => rfl); (case hr => first | (go_simp; done) | (go_simp; rfl)); intro gb190 hg w13 hbox hb; have n0_ := Aside0.mk (below_step (by repeat (first | (with_reducible first | exact HB.out | apply below_alloc | apply pw_below_drewN | apply below_drew1) | exact HB.out)) hb); have n1_ := Aside0.mk (hbox); have n2_ := Aside0.mk ((by rw [hg]; exact (below_size (by repeat (first | (with_reducible first | exact HB.out | apply below_alloc | apply pw_below_drewN | apply below_drew1) | exact HB.out))) : w.heap.size ≤ gb190)); have n3_ := Aside0.mk ((by rw [hg]; exact (below_size (by repeat (first | (with_reducible first | exact HB.out | apply below_alloc | apply pw_below_drewN | apply below_drew1) | exact HB.out))) : w.heap.size ≤ gb190)); clear HB; have HB := n0_; have BK190 := n1_; have GW190 := n2_; have GE190 := n3_; clear n0_ n1_ n2_ n3_; clear hb hbox hg; have hcz14_0 : w13.cell? ⟨gb190, 0, none⟩ = some (.int .i64 a0_0) := (blk_cell BK190.out 0).trans rfl; have hcz14_1 : w13.cell? ⟨gb190, 1, none⟩ = some (.int .i64 a0_1) := (blk_cell BK190.out 1).trans rfl; have hcz14_2 : w13.cell? ⟨gb190, 2, none⟩ = some (.string a0_2) := (blk_cell BK190.out 2).trans rfl; have hfz14_0 := blk_frozen BK190.out 0; have hfz14_1 := blk_frozen BK190.out 1; have hfz14_2 := blk_frozen BK190.out 2) | (go_at_call 44; (with_reducible refine (marginaliaref02_In.calls k (⟨#[97, 112, 112, 108, 101, 116, 32, 99, 97, 112, 116, 105, 111, 110, 32, 104, 116, 109, 108, 32, 109, 97, 114, 113, 117, 101, 101, 32, 111, 98, 106, 101, 99, 116, 32, 116, 97, 98, 108, 101, 32, 116, 100, 32, 116, 101, 109, 112, 108, 97, 116, 101, 32, 116, 104]⟩ : ByteArray) a0_2 true _ A11.out).mono ?_); rintro e w' ⟨rfl, ⟨nd, rfl⟩⟩))
        go_ret
        exact ⟨by first | rfl | (simp [errW_none, errW_some] <;> rfl) | (simp [*, errW_none, errW_some] <;> rfl), by repeat (first | (with_reducible first | exact HB.out | apply below_alloc | apply pw_below_drewN | apply below_drew1 | refine below_set ?_ GE190.out) | exact HB.out)⟩
      · replace c12 := Bool.eq_false_iff.mpr c12
        subst c12
        have H1 : ((marginaliaref06_Point.f k a0_0 a0_1 a0_2).bind fun t193 => (if t193 = true then (some true) else (if a1 = 2 then ((marginaliaref02_In.f k (⟨#[111, 108, 32, 117, 108]⟩ : ByteArray) a0_2).bind fun t194 => (if t194 = true then (some true) else (if a1 = 3 then (some (a0_2.toList == ([98, 117, 116, 116, 111, 110] : List UInt8))) else (some false)))) else (if a1 = 3 then (some (a0_2.toList == ([98, 117, 116, 116, 111, 110] : List UInt8))) else (some false))))) = some r := by rw [if_neg (show ¬ (false = true) by decide)] at H; exact H
        clear H
        have H := H1
        clear H1
        replace H := Option.bind_eq_some_iff.mp H
        obtain ⟨t193, A150, H⟩ := H
        replace H : (if t193 = true then (some true) else (if a1 = 2 then ((marginaliaref02_In.f k (⟨#[111, 108, 32, 117, 108]⟩ : ByteArray) a0_2).bind fun t194 => (if t194 = true then (some true) else (if a1 = 3 then (some (a0_2.toList == ([98, 117, 116, 116, 111, 110] : List UInt8))) else (some false)))) else (if a1 = 3 then (some (a0_2.toList == ([98, 117, 116, 116, 111, 110] : List UInt8))) else (some false)))) = some r := H
        have A15 := Aside0.mk A150
        clear A150
        by_cases c16 : t193 = true
        · subst c16
          have H1 : (some true) = some r := by rw [if_pos rfl] at H; exact H
          clear H
          have H := H1
          clear H1
          obtain rfl := Option.some.inj H
          go_enter Try.func21, Try.ntmps21
          go_wp2_with (first | ((with_reducible refine gate_dst (N := 2) rfl ?_); refine box_event ?hg (N := 2) ?hd (cs := #[.int .i64 a0_0, .int .i64 a0_1, .string a0_2]) (t := 35) ?hr ?_; (case hd => rfl); (case hg => rfl); (case hr => first | (go_simp; done) | (go_simp; rfl)); intro gb190 hg w17 hbox hb; have n0_ := Aside0.mk (below_step (by repeat (first | (with_reducible first | exact HB.out | apply below_alloc | apply pw_below_drewN | apply below_drew1) | exact HB.out)) hb); have n1_ := Aside0.mk (hbox); have n2_ := Aside0.mk ((by rw [hg]; exact (below_size (by repeat (first | (with_reducible first | exact HB.out | apply below_alloc | apply pw_below_drewN | apply below_drew1) | exact HB.out))) : w.heap.size ≤ gb190)); have n3_ := Aside0.mk ((by rw [hg]; exact (below_size (by repeat (first | (with_reducible first | exact HB.out | apply below_alloc | apply pw_below_drewN | apply below_drew1) | exact HB.out))) : w.heap.size ≤ gb190)); clear HB; have HB := n0_; have BK190 := n1_; have GW190 := n2_; have GE190 := n3_; clear n0_ n1_ n2_ n3_; clear hb hbox hg; have hcz18_0 : w17.cell? ⟨gb190, 0, none⟩ = some (.int .i64 a0_0) := (blk_cell BK190.out 0).trans rfl; have hcz18_1 : w17.cell? ⟨gb190, 1, none⟩ = some (.int .i64 a0_1) := (blk_cell BK190.out 1).trans rfl; have hcz18_2 : w17.cell? ⟨gb190, 2, none⟩ = some (.string a0_2) := (blk_cell BK190.out 2).trans rfl; have hfz18_0 := blk_frozen BK190.out 0; have hfz18_1 := blk_frozen BK190.out 1; have hfz18_2 := blk_frozen BK190.out 2) | (go_at_call 44; (with_reducible refine (marginaliaref02_In.calls k (⟨#[97, 112, 112, 108, 101, 116, 32, 99, 97, 112, 116, 105, 111, 110, 32, 104, 116, 109, 108, 32, 109, 97, 114, 113, 117, 101, 101, 32, 111, 98, 106, 101, 99, 116, 32, 116, 97, 98, 108, 101, 32, 116, 100, 32, 116, 101, 109, 112, 108, 97, 116, 101, 32, 116, 104]⟩ : ByteArray) a0_2 false _ A11.out).mono ?_); rintro e w' ⟨rfl, ⟨nd, rfl⟩⟩) | (go_at_call 23; (with_reducible refine (marginaliaref06_Point.calls k a0_0 a0_1 a0_2 true _ A15.out).mono ?_); rintro e w19 ⟨rfl, hb⟩; have n0_ := Aside0.mk (blk_below (g := gb190) (o := .cells #[.int .i64 a0_0, .int .i64 a0_1, .string a0_2] 35 (0, 0)) (by (with_reducible repeat (first | refine blk_drewN ?_ _ | refine blk_drew ?_ | refine blk_alloc ?_ _)); exact BK190.out) hb); have n1_ := Aside0.mk (below_step (by repeat (first | (with_reducible first | exact HB.out | apply below_alloc | apply pw_below_drewN | apply below_drew1 | refine below_set ?_ GE190.out) | exact HB.out)) hb); clear BK190; clear HB; have BK190 := n0_; have HB := n1_; clear n0_ n1_; (try clear hb); (try clear hb2); (try clear hk); (try clear hi)))
          go_ret
          exact ⟨by first | rfl | (simp [errW_none, errW_some] <;> rfl) | (simp [*, errW_none, errW_some] <;> rfl), by repeat (first | (with_reducible first | exact HB.out | apply below_alloc | apply pw_below_drewN | apply below_drew1 | refine below_set ?_ GE190.out) | exact HB.out)⟩
        · replace c16 := Bool.eq_false_iff.mpr c16
          subst c16
          have H1 : (if a1 = 2 then ((marginaliaref02_In.f k (⟨#[111, 108, 32, 117, 108]⟩ : ByteArray) a0_2).bind fun t194 => (if t194 = true then (some true) else (if a1 = 3 then (some (a0_2.toList == ([98, 117, 116, 116, 111, 110] : List UInt8))) else (some false)))) else (if a1 = 3 then (some (a0_2.toList == ([98, 117, 116, 116, 111, 110] : List UInt8))) else (some false))) = some r := by rw [if_neg (show ¬ (false = true) by decide)] at H; exact H
          clear H
          have H := H1
          clear H1
          by_cases c20 : a1 = 2
          · rw [if_pos c20] at H
            have c20b0 : (a1 == 2) = true := beq_iff_eq.mpr c20
            have c20b1 : (a1 != 2) = false := bne_eq_false_iff_eq.mpr c20
            clear c20
            replace H := Option.bind_eq_some_iff.mp H
            obtain ⟨t194, A210, H⟩ := H
            replace H : (if t194 = true then (some true) else (if a1 = 3 then (some (a0_2.toList == ([98, 117, 116, 116, 111, 110] : List UInt8))) else (some false))) = some r := H
            have A21 := Aside0.mk A210
            clear A210
            by_cases c22 : t194 = true
            · subst c22
              have H1 : (some true) = some r := by rw [if_pos rfl] at H; exact H
              clear H
              have H := H1
              clear H1
              obtain rfl := Option.some.inj H
              go_enter Try.func21, Try.ntmps21
              go_wp2_with (first | ((with_reducible refine gate_dst (N := 2) rfl ?_); refine box_event ?hg (N := 2) ?hd (cs := #[.int .i64 a0_0, .int .i64 a0_1, .string a0_2]) (t := 35) ?hr ?_; (case hd => rfl); (case hg => rfl); (case hr => first | (go_simp; done) | (go_simp; rfl)); intro gb190 hg w23 hbox hb; have n0_ := Aside0.mk (below_step (by repeat (first | (with_reducible first | exact HB.out | apply below_alloc | apply pw_below_drewN | apply below_drew1) | exact HB.out)) hb); have n1_ := Aside0.mk (hbox); have n2_ := Aside0.mk ((by rw [hg]; exact (below_size (by repeat (first | (with_reducible first | exact HB.out | apply below_alloc | apply pw_below_drewN | apply below_drew1) | exact HB.out))) : w.heap.size ≤ gb190)); have n3_ := Aside0.mk ((by rw [hg]; exact (below_size (by repeat (first | (with_reducible first | exact HB.out | apply below_alloc | apply pw_below_drewN | apply below_drew1) | exact HB.out))) : w.heap.size ≤ gb190)); clear HB; have HB := n0_; have BK190 := n1_; have GW190 := n2_; have GE190 := n3_; clear n0_ n1_ n2_ n3_; clear hb hbox hg; have hcz24_0 : w23.cell? ⟨gb190, 0, none⟩ = some (.int .i64 a0_0) := (blk_cell BK190.out 0).trans rfl; have hcz24_1 : w23.cell? ⟨gb190, 1, none⟩ = some (.int .i64 a0_1) := (blk_cell BK190.out 1).trans rfl; have hcz24_2 : w23.cell? ⟨gb190, 2, none⟩ = some (.string a0_2) := (blk_cell BK190.out 2).trans rfl; have hfz24_0 := blk_frozen BK190.out 0; have hfz24_1 := blk_frozen BK190.out 1; have hfz24_2 := blk_frozen BK190.out 2) | (go_at_call 44; (with_reducible refine (marginaliaref02_In.calls k (⟨#[97, 112, 112, 108, 101, 116, 32, 99, 97, 112, 116, 105, 111, 110, 32, 104, 116, 109, 108, 32, 109, 97, 114, 113, 117, 101, 101, 32, 111, 98, 106, 101, 99, 116, 32, 116, 97, 98, 108, 101, 32, 116, 100, 32, 116, 101, 109, 112, 108, 97, 116, 101, 32, 116, 104]⟩ : ByteArray) a0_2 false _ A11.out).mono ?_); rintro e w' ⟨rfl, ⟨nd, rfl⟩⟩) | (go_at_call 23; (with_reducible refine (marginaliaref06_Point.calls k a0_0 a0_1 a0_2 false _ A15.out).mono ?_); rintro e w25 ⟨rfl, hb⟩; have n0_ := Aside0.mk (blk_below (g := gb190) (o := .cells #[.int .i64 a0_0, .int .i64 a0_1, .string a0_2] 35 (0, 0)) (by (with_reducible repeat (first | refine blk_drewN ?_ _ | refine blk_drew ?_ | refine blk_alloc ?_ _)); exact BK190.out) hb); have n1_ := Aside0.mk (below_step (by repeat (first | (with_reducible first | exact HB.out | apply below_alloc | apply pw_below_drewN | apply below_drew1 | refine below_set ?_ GE190.out) | exact HB.out)) hb); clear BK190; clear HB; have BK190 := n0_; have HB := n1_; clear n0_ n1_; (try clear hb); (try clear hb2); (try clear hk); (try clear hi); have hcz26_0 : w25.cell? ⟨gb190, 0, none⟩ = some (.int .i64 a0_0) := (blk_cell BK190.out 0).trans rfl; have hcz26_1 : w25.cell? ⟨gb190, 1, none⟩ = some (.int .i64 a0_1) := (blk_cell BK190.out 1).trans rfl; have hcz26_2 : w25.cell? ⟨gb190, 2, none⟩ = some (.string a0_2) := (blk_cell BK190.out 2).trans rfl; have hfz26_0 := blk_frozen BK190.out 0; have hfz26_1 := blk_frozen BK190.out 1; have hfz26_2 := blk_frozen BK190.out 2) | (go_at_call 44; (with_reducible refine (marginaliaref02_In.calls k (⟨#[111, 108, 32, 117, 108]⟩ : ByteArray) a0_2 true _ A21.out).mono ?_); rintro e w' ⟨rfl, ⟨nd, rfl⟩⟩))
              go_ret
              exact ⟨by first | rfl | (simp [errW_none, errW_some] <;> rfl) | (simp [*, errW_none, errW_some] <;> rfl), by repeat (first | (with_reducible first | exact HB.out | apply below_alloc | apply pw_below_drewN | apply below_drew1 | refine below_set ?_ GE190.out) | exact HB.out)⟩
            · replace c22 := Bool.eq_false_iff.mpr c22
              subst c22
              have H1 : (if a1 = 3 then (some (a0_2.toList == ([98, 117, 116, 116, 111, 110] : List UInt8))) else (some false)) = some r := by rw [if_neg (show ¬ (false = true) by decide)] at H; exact H
              clear H
              have H := H1
              clear H1
              by_cases c27 : a1 = 3
              · rw [if_pos c27] at H
                have c27b0 : (a1 == 3) = true := beq_iff_eq.mpr c27
                have c27b1 : (a1 != 3) = false := bne_eq_false_iff_eq.mpr c27
                clear c27
                obtain rfl := Option.some.inj H
                go_enter Try.func21, Try.ntmps21
                go_wp2_with (first | ((with_reducible refine gate_dst (N := 2) rfl ?_); refine box_event ?hg (N := 2) ?hd (cs := #[.int .i64 a0_0, .int .i64 a0_1, .string a0_2]) (t := 35) ?hr ?_; (case hd => rfl); (case hg => rfl); (case hr => first | (go_simp; done) | (go_simp; rfl)); intro gb190 hg w28 hbox hb; have n0_ := Aside0.mk (below_step (by repeat (first | (with_reducible first | exact HB.out | apply below_alloc | apply pw_below_drewN | apply below_drew1) | exact HB.out)) hb); have n1_ := Aside0.mk (hbox); have n2_ := Aside0.mk ((by rw [hg]; exact (below_size (by repeat (first | (with_reducible first | exact HB.out | apply below_alloc | apply pw_below_drewN | apply below_drew1) | exact HB.out))) : w.heap.size ≤ gb190)); have n3_ := Aside0.mk ((by rw [hg]; exact (below_size (by repeat (first | (with_reducible first | exact HB.out | apply below_alloc | apply pw_below_drewN | apply below_drew1) | exact HB.out))) : w.heap.size ≤ gb190)); clear HB; have HB := n0_; have BK190 := n1_; have GW190 := n2_; have GE190 := n3_; clear n0_ n1_ n2_ n3_; clear hb hbox hg; have hcz29_0 : w28.cell? ⟨gb190, 0, none⟩ = some (.int .i64 a0_0) := (blk_cell BK190.out 0).trans rfl; have hcz29_1 : w28.cell? ⟨gb190, 1, none⟩ = some (.int .i64 a0_1) := (blk_cell BK190.out 1).trans rfl; have hcz29_2 : w28.cell? ⟨gb190, 2, none⟩ = some (.string a0_2) := (blk_cell BK190.out 2).trans rfl; have hfz29_0 := blk_frozen BK190.out 0; have hfz29_1 := blk_frozen BK190.out 1; have hfz29_2 := blk_frozen BK190.out 2) | (go_at_call 44; (with_reducible refine (marginaliaref02_In.calls k (⟨#[97, 112, 112, 108, 101, 116, 32, 99, 97, 112, 116, 105, 111, 110, 32, 104, 116, 109, 108, 32, 109, 97, 114, 113, 117, 101, 101, 32, 111, 98, 106, 101, 99, 116, 32, 116, 97, 98, 108, 101, 32, 116, 100, 32, 116, 101, 109, 112, 108, 97, 116, 101, 32, 116, 104]⟩ : ByteArray) a0_2 false _ A11.out).mono ?_); rintro e w' ⟨rfl, ⟨nd, rfl⟩⟩) | (go_at_call 23; (with_reducible refine (marginaliaref06_Point.calls k a0_0 a0_1 a0_2 false _ A15.out).mono ?_); rintro e w30 ⟨rfl, hb⟩; have n0_ := Aside0.mk (blk_below (g := gb190) (o := .cells #[.int .i64 a0_0, .int .i64 a0_1, .string a0_2] 35 (0, 0)) (by (with_reducible repeat (first | refine blk_drewN ?_ _ | refine blk_drew ?_ | refine blk_alloc ?_ _)); exact BK190.out) hb); have n1_ := Aside0.mk (below_step (by repeat (first | (with_reducible first | exact HB.out | apply below_alloc | apply pw_below_drewN | apply below_drew1 | refine below_set ?_ GE190.out) | exact HB.out)) hb); clear BK190; clear HB; have BK190 := n0_; have HB := n1_; clear n0_ n1_; (try clear hb); (try clear hb2); (try clear hk); (try clear hi); have hcz31_0 : w30.cell? ⟨gb190, 0, none⟩ = some (.int .i64 a0_0) := (blk_cell BK190.out 0).trans rfl; have hcz31_1 : w30.cell? ⟨gb190, 1, none⟩ = some (.int .i64 a0_1) := (blk_cell BK190.out 1).trans rfl; have hcz31_2 : w30.cell? ⟨gb190, 2, none⟩ = some (.string a0_2) := (blk_cell BK190.out 2).trans rfl; have hfz31_0 := blk_frozen BK190.out 0; have hfz31_1 := blk_frozen BK190.out 1; have hfz31_2 := blk_frozen BK190.out 2) | (go_at_call 44; (with_reducible refine (marginaliaref02_In.calls k (⟨#[111, 108, 32, 117, 108]⟩ : ByteArray) a0_2 false _ A21.out).mono ?_); rintro e w' ⟨rfl, ⟨nd, rfl⟩⟩))
                go_ret
                exact ⟨by first | rfl | (simp [errW_none, errW_some] <;> rfl) | (simp [*, errW_none, errW_some] <;> rfl), by repeat (first | (with_reducible first | exact HB.out | apply below_alloc | apply pw_below_drewN | apply below_drew1 | refine below_set ?_ GE190.out) | exact HB.out)⟩
              · rw [if_neg c27] at H
                have c27b0 : (a1 == 3) = false := beq_eq_false_iff_ne.mpr c27
                have c27b1 : (a1 != 3) = true := bne_iff_ne.mpr c27
                obtain rfl := Option.some.inj H
                go_enter Try.func21, Try.ntmps21
                go_wp2_with (first | ((with_reducible refine gate_dst (N := 2) rfl ?_); refine box_event ?hg (N := 2) ?hd (cs := #[.int .i64 a0_0, .int .i64 a0_1, .string a0_2]) (t := 35) ?hr ?_; (case hd => rfl); (case hg => rfl); (case hr => first | (go_simp; done) | (go_simp; rfl)); intro gb190 hg w32 hbox hb; have n0_ := Aside0.mk (below_step (by repeat (first | (with_reducible first | exact HB.out | apply below_alloc | apply pw_below_drewN | apply below_drew1) | exact HB.out)) hb); have n1_ := Aside0.mk (hbox); have n2_ := Aside0.mk ((by rw [hg]; exact (below_size (by repeat (first | (with_reducible first | exact HB.out | apply below_alloc | apply pw_below_drewN | apply below_drew1) | exact HB.out))) : w.heap.size ≤ gb190)); have n3_ := Aside0.mk ((by rw [hg]; exact (below_size (by repeat (first | (with_reducible first | exact HB.out | apply below_alloc | apply pw_below_drewN | apply below_drew1) | exact HB.out))) : w.heap.size ≤ gb190)); clear HB; have HB := n0_; have BK190 := n1_; have GW190 := n2_; have GE190 := n3_; clear n0_ n1_ n2_ n3_; clear hb hbox hg; have hcz33_0 : w32.cell? ⟨gb190, 0, none⟩ = some (.int .i64 a0_0) := (blk_cell BK190.out 0).trans rfl; have hcz33_1 : w32.cell? ⟨gb190, 1, none⟩ = some (.int .i64 a0_1) := (blk_cell BK190.out 1).trans rfl; have hcz33_2 : w32.cell? ⟨gb190, 2, none⟩ = some (.string a0_2) := (blk_cell BK190.out 2).trans rfl; have hfz33_0 := blk_frozen BK190.out 0; have hfz33_1 := blk_frozen BK190.out 1; have hfz33_2 := blk_frozen BK190.out 2) | (go_at_call 44; (with_reducible refine (marginaliaref02_In.calls k (⟨#[97, 112, 112, 108, 101, 116, 32, 99, 97, 112, 116, 105, 111, 110, 32, 104, 116, 109, 108, 32, 109, 97, 114, 113, 117, 101, 101, 32, 111, 98, 106, 101, 99, 116, 32, 116, 97, 98, 108, 101, 32, 116, 100, 32, 116, 101, 109, 112, 108, 97, 116, 101, 32, 116, 104]⟩ : ByteArray) a0_2 false _ A11.out).mono ?_); rintro e w' ⟨rfl, ⟨nd, rfl⟩⟩) | (go_at_call 23; (with_reducible refine (marginaliaref06_Point.calls k a0_0 a0_1 a0_2 false _ A15.out).mono ?_); rintro e w34 ⟨rfl, hb⟩; have n0_ := Aside0.mk (blk_below (g := gb190) (o := .cells #[.int .i64 a0_0, .int .i64 a0_1, .string a0_2] 35 (0, 0)) (by (with_reducible repeat (first | refine blk_drewN ?_ _ | refine blk_drew ?_ | refine blk_alloc ?_ _)); exact BK190.out) hb); have n1_ := Aside0.mk (below_step (by repeat (first | (with_reducible first | exact HB.out | apply below_alloc | apply pw_below_drewN | apply below_drew1 | refine below_set ?_ GE190.out) | exact HB.out)) hb); clear BK190; clear HB; have BK190 := n0_; have HB := n1_; clear n0_ n1_; (try clear hb); (try clear hb2); (try clear hk); (try clear hi); have hcz35_0 : w34.cell? ⟨gb190, 0, none⟩ = some (.int .i64 a0_0) := (blk_cell BK190.out 0).trans rfl; have hcz35_1 : w34.cell? ⟨gb190, 1, none⟩ = some (.int .i64 a0_1) := (blk_cell BK190.out 1).trans rfl; have hcz35_2 : w34.cell? ⟨gb190, 2, none⟩ = some (.string a0_2) := (blk_cell BK190.out 2).trans rfl; have hfz35_0 := blk_frozen BK190.out 0; have hfz35_1 := blk_frozen BK190.out 1; have hfz35_2 := blk_frozen BK190.out 2) | (go_at_call 44; (with_reducible refine (marginaliaref02_In.calls k (⟨#[111, 108, 32, 117, 108]⟩ : ByteArray) a0_2 false _ A21.out).mono ?_); rintro e w' ⟨rfl, ⟨nd, rfl⟩⟩))
                go_ret
                exact ⟨by first | rfl | (simp [errW_none, errW_some] <;> rfl) | (simp [*, errW_none, errW_some] <;> rfl), by repeat (first | (with_reducible first | exact HB.out | apply below_alloc | apply pw_below_drewN | apply below_drew1 | refine below_set ?_ GE190.out) | exact HB.out)⟩
          · rw [if_neg c20] at H
            have c20b0 : (a1 == 2) = false := beq_eq_false_iff_ne.mpr c20
            have c20b1 : (a1 != 2) = true := bne_iff_ne.mpr c20
            by_cases c36 : a1 = 3
            · rw [if_pos c36] at H
              have c36b0 : (a1 == 3) = true := beq_iff_eq.mpr c36
              have c36b1 : (a1 != 3) = false := bne_eq_false_iff_eq.mpr c36
              clear c36
              obtain rfl := Option.some.inj H
              go_enter Try.func21, Try.ntmps21
              go_wp2_with (first | ((with_reducible refine gate_dst (N := 2) rfl ?_); refine box_event ?hg (N := 2) ?hd (cs := #[.int .i64 a0_0, .int .i64 a0_1, .string a0_2]) (t := 35) ?hr ?_; (case hd => rfl); (case hg => rfl); (case hr => first | (go_simp; done) | (go_simp; rfl)); intro gb190 hg w37 hbox hb; have n0_ := Aside0.mk (below_step (by repeat (first | (with_reducible first | exact HB.out | apply below_alloc | apply pw_below_drewN | apply below_drew1) | exact HB.out)) hb); have n1_ := Aside0.mk (hbox); have n2_ := Aside0.mk ((by rw [hg]; exact (below_size (by repeat (first | (with_reducible first | exact HB.out | apply below_alloc | apply pw_below_drewN | apply below_drew1) | exact HB.out))) : w.heap.size ≤ gb190)); have n3_ := Aside0.mk ((by rw [hg]; exact (below_size (by repeat (first | (with_reducible first | exact HB.out | apply below_alloc | apply pw_below_drewN | apply below_drew1) | exact HB.out))) : w.heap.size ≤ gb190)); clear HB; have HB := n0_; have BK190 := n1_; have GW190 := n2_; have GE190 := n3_; clear n0_ n1_ n2_ n3_; clear hb hbox hg; have hcz38_0 : w37.cell? ⟨gb190, 0, none⟩ = some (.int .i64 a0_0) := (blk_cell BK190.out 0).trans rfl; have hcz38_1 : w37.cell? ⟨gb190, 1, none⟩ = some (.int .i64 a0_1) := (blk_cell BK190.out 1).trans rfl; have hcz38_2 : w37.cell? ⟨gb190, 2, none⟩ = some (.string a0_2) := (blk_cell BK190.out 2).trans rfl; have hfz38_0 := blk_frozen BK190.out 0; have hfz38_1 := blk_frozen BK190.out 1; have hfz38_2 := blk_frozen BK190.out 2) | (go_at_call 44; (with_reducible refine (marginaliaref02_In.calls k (⟨#[97, 112, 112, 108, 101, 116, 32, 99, 97, 112, 116, 105, 111, 110, 32, 104, 116, 109, 108, 32, 109, 97, 114, 113, 117, 101, 101, 32, 111, 98, 106, 101, 99, 116, 32, 116, 97, 98, 108, 101, 32, 116, 100, 32, 116, 101, 109, 112, 108, 97, 116, 101, 32, 116, 104]⟩ : ByteArray) a0_2 false _ A11.out).mono ?_); rintro e w' ⟨rfl, ⟨nd, rfl⟩⟩) | (go_at_call 23; (with_reducible refine (marginaliaref06_Point.calls k a0_0 a0_1 a0_2 false _ A15.out).mono ?_); rintro e w39 ⟨rfl, hb⟩; have n0_ := Aside0.mk (blk_below (g := gb190) (o := .cells #[.int .i64 a0_0, .int .i64 a0_1, .string a0_2] 35 (0, 0)) (by (with_reducible repeat (first | refine blk_drewN ?_ _ | refine blk_drew ?_ | refine blk_alloc ?_ _)); exact BK190.out) hb); have n1_ := Aside0.mk (below_step (by repeat (first | (with_reducible first | exact HB.out | apply below_alloc | apply pw_below_drewN | apply below_drew1 | refine below_set ?_ GE190.out) | exact HB.out)) hb); clear BK190; clear HB; have BK190 := n0_; have HB := n1_; clear n0_ n1_; (try clear hb); (try clear hb2); (try clear hk); (try clear hi); have hcz40_0 : w39.cell? ⟨gb190, 0, none⟩ = some (.int .i64 a0_0) := (blk_cell BK190.out 0).trans rfl; have hcz40_1 : w39.cell? ⟨gb190, 1, none⟩ = some (.int .i64 a0_1) := (blk_cell BK190.out 1).trans rfl; have hcz40_2 : w39.cell? ⟨gb190, 2, none⟩ = some (.string a0_2) := (blk_cell BK190.out 2).trans rfl; have hfz40_0 := blk_frozen BK190.out 0; have hfz40_1 := blk_frozen BK190.out 1; have hfz40_2 := blk_frozen BK190.out 2))
              go_ret
              exact ⟨by first | rfl | (simp [errW_none, errW_some] <;> rfl) | (simp [*, errW_none, errW_some] <;> rfl), by repeat (first | (with_reducible first | exact HB.out | apply below_alloc | apply pw_below_drewN | apply below_drew1 | refine below_set ?_ GE190.out) | exact HB.out)⟩
            · rw [if_neg c36] at H
              have c36b0 : (a1 == 3) = false := beq_eq_false_iff_ne.mpr c36
              have c36b1 : (a1 != 3) = true := bne_iff_ne.mpr c36
              obtain rfl := Option.some.inj H
              go_enter Try.func21, Try.ntmps21
              go_wp2_with (first | ((with_reducible refine gate_dst (N := 2) rfl ?_); refine box_event ?hg (N := 2) ?hd (cs := #[.int .i64 a0_0, .int .i64 a0_1, .string a0_2]) (t := 35) ?hr ?_; (case hd => rfl); (case hg => rfl); (case hr => first | (go_simp; done) | (go_simp; rfl)); intro gb190 hg w41 hbox hb; have n0_ := Aside0.mk (below_step (by repeat (first | (with_reducible first | exact HB.out | apply below_alloc | apply pw_below_drewN | apply below_drew1) | exact HB.out)) hb); have n1_ := Aside0.mk (hbox); have n2_ := Aside0.mk ((by rw [hg]; exact (below_size (by repeat (first | (with_reducible first | exact HB.out | apply below_alloc | apply pw_below_drewN | apply below_drew1) | exact HB.out))) : w.heap.size ≤ gb190)); have n3_ := Aside0.mk ((by rw [hg]; exact (below_size (by repeat (first | (with_reducible first | exact HB.out | apply below_alloc | apply pw_below_drewN | apply below_drew1) | exact HB.out))) : w.heap.size ≤ gb190)); clear HB; have HB := n0_; have BK190 := n1_; have GW190 := n2_; have GE190 := n3_; clear n0_ n1_ n2_ n3_; clear hb hbox hg; have hcz42_0 : w41.cell? ⟨gb190, 0, none⟩ = some (.int .i64 a0_0) := (blk_cell BK190.out 0).trans rfl; have hcz42_1 : w41.cell? ⟨gb190, 1, none⟩ = some (.int .i64 a0_1) := (blk_cell BK190.out 1).trans rfl; have hcz42_2 : w41.cell? ⟨gb190, 2, none⟩ = some (.string a0_2) := (blk_cell BK190.out 2).trans rfl; have hfz42_0 := blk_frozen BK190.out 0; have hfz42_1 := blk_frozen BK190.out 1; have hfz42_2 := blk_frozen BK190.out 2) | (go_at_call 44; (with_reducible refine (marginaliaref02_In.calls k (⟨#[97, 112, 112, 108, 101, 116, 32, 99, 97, 112, 116, 105, 111, 110, 32, 104, 116, 109, 108, 32, 109, 97, 114, 113, 117, 101, 101, 32, 111, 98, 106, 101, 99, 116, 32, 116, 97, 98, 108, 101, 32, 116, 100, 32, 116, 101, 109, 112, 108, 97, 116, 101, 32, 116, 104]⟩ : ByteArray) a0_2 false _ A11.out).mono ?_); rintro e w' ⟨rfl, ⟨nd, rfl⟩⟩) | (go_at_call 23; (with_reducible refine (marginaliaref06_Point.calls k a0_0 a0_1 a0_2 false _ A15.out).mono ?_); rintro e w43 ⟨rfl, hb⟩; have n0_ := Aside0.mk (blk_below (g := gb190) (o := .cells #[.int .i64 a0_0, .int .i64 a0_1, .string a0_2] 35 (0, 0)) (by (with_reducible repeat (first | refine blk_drewN ?_ _ | refine blk_drew ?_ | refine blk_alloc ?_ _)); exact BK190.out) hb); have n1_ := Aside0.mk (below_step (by repeat (first | (with_reducible first | exact HB.out | apply below_alloc | apply pw_below_drewN | apply below_drew1 | refine below_set ?_ GE190.out) | exact HB.out)) hb); clear BK190; clear HB; have BK190 := n0_; have HB := n1_; clear n0_ n1_; (try clear hb); (try clear hb2); (try clear hk); (try clear hi)))
              go_ret
              exact ⟨by first | rfl | (simp [errW_none, errW_some] <;> rfl) | (simp [*, errW_none, errW_some] <;> rfl), by repeat (first | (with_reducible first | exact HB.out | apply below_alloc | apply pw_below_drewN | apply below_drew1 | refine below_set ?_ GE190.out) | exact HB.out)⟩
    · rw [if_neg c10] at H
      have c10b0 : (a0_1 == 0) = false := beq_eq_false_iff_ne.mpr c10
      have c10b1 : (a0_1 != 0) = true := bne_iff_ne.mpr c10
      replace H := Option.bind_eq_some_iff.mp H
      obtain ⟨t195, A440, H⟩ := H
      replace H : (if t195 = true then (some true) else (some false)) = some r := H
      have A44 := Aside0.mk A440
      clear A440
      by_cases c45 : t195 = true
      · subst c45
        have H1 : (some true) = some r := by rw [if_pos rfl] at H; exact H
        clear H
        have H := H1
        clear H1
        obtain rfl := Option.some.inj H
        go_enter Try.func21, Try.ntmps21
        go_wp2_with (first | ((with_reducible refine gate_dst (N := 2) rfl ?_); refine box_event ?hg (N := 2) ?hd (cs := #[.int .i64 a0_0, .int .i64 a0_1, .string a0_2]) (t := 35) ?hr ?_; (case hd => rfl); (case hg => rfl); (case hr => first | (go_simp; done) | (go_simp; rfl)); intro gb190 hg w46 hbox hb; have n0_ := Aside0.mk (below_step (by repeat (first | (with_reducible first | exact HB.out | apply below_alloc | apply pw_below_drewN | apply below_drew1) | exact HB.out)) hb); have n1_ := Aside0.mk (hbox); have n2_ := Aside0.mk ((by rw [hg]; exact (below_size (by repeat (first | (with_reducible first | exact HB.out | apply below_alloc | apply pw_below_drewN | apply below_drew1) | exact HB.out))) : w.heap.size ≤ gb190)); have n3_ := Aside0.mk ((by rw [hg]; exact (below_size (by repeat (first | (with_reducible first | exact HB.out | apply below_alloc | apply pw_below_drewN | apply below_drew1) | exact HB.out))) : w.heap.size ≤ gb190)); clear HB; have HB := n0_; have BK190 := n1_; have GW190 := n2_; have GE190 := n3_; clear n0_ n1_ n2_ n3_; clear hb hbox hg; have hcz47_0 : w46.cell? ⟨gb190, 0, none⟩ = some (.int .i64 a0_0) := (blk_cell BK190.out 0).trans rfl; have hcz47_1 : w46.cell? ⟨gb190, 1, none⟩ = some (.int .i64 a0_1) := (blk_cell BK190.out 1).trans rfl; have hcz47_2 : w46.cell? ⟨gb190, 2, none⟩ = some (.string a0_2) := (blk_cell BK190.out 2).trans rfl; have hfz47_0 := blk_frozen BK190.out 0; have hfz47_1 := blk_frozen BK190.out 1; have hfz47_2 := blk_frozen BK190.out 2) | (go_at_call 23; (with_reducible refine (marginaliaref06_Point.calls k a0_0 a0_1 a0_2 true _ A44.out).mono ?_); rintro e w48 ⟨rfl, hb⟩; have n0_ := Aside0.mk (blk_below (g := gb190) (o := .cells #[.int .i64 a0_0, .int .i64 a0_1, .string a0_2] 35 (0, 0)) (by (with_reducible repeat (first | refine blk_drewN ?_ _ | refine blk_drew ?_ | refine blk_alloc ?_ _)); exact BK190.out) hb); have n1_ := Aside0.mk (below_step (by repeat (first | (with_reducible first | exact HB.out | apply below_alloc | apply pw_below_drewN | apply below_drew1 | refine below_set ?_ GE190.out) | exact HB.out)) hb); clear BK190; clear HB; have BK190 := n0_; have HB := n1_; clear n0_ n1_; (try clear hb); (try clear hb2); (try clear hk); (try clear hi)))
        go_ret
        exact ⟨by first | rfl | (simp [errW_none, errW_some] <;> rfl) | (simp [*, errW_none, errW_some] <;> rfl), by repeat (first | (with_reducible first | exact HB.out | apply below_alloc | apply pw_below_drewN | apply below_drew1 | refine below_set ?_ GE190.out) | exact HB.out)⟩
      · replace c45 := Bool.eq_false_iff.mpr c45
        subst c45
        have H1 : (some false) = some r := by rw [if_neg (show ¬ (false = true) by decide)] at H; exact H
        clear H
        have H := H1
        clear H1
        obtain rfl := Option.some.inj H
        go_enter Try.func21, Try.ntmps21
        go_wp2_with (first | ((with_reducible refine gate_dst (N := 2) rfl ?_); refine box_event ?hg (N := 2) ?hd (cs := #[.int .i64 a0_0, .int .i64 a0_1, .string a0_2]) (t := 35) ?hr ?_; (case hd => rfl); (case hg => rfl); (case hr => first | (go_simp; done) | (go_simp; rfl)); intro gb190 hg w49 hbox hb; have n0_ := Aside0.mk (below_step (by repeat (first | (with_reducible first | exact HB.out | apply below_alloc | apply pw_below_drewN | apply below_drew1) | exact HB.out)) hb); have n1_ := Aside0.mk (hbox); have n2_ := Aside0.mk ((by rw [hg]; exact (below_size (by repeat (first | (with_reducible first | exact HB.out | apply below_alloc | apply pw_below_drewN | apply below_drew1) | exact HB.out))) : w.heap.size ≤ gb190)); have n3_ := Aside0.mk ((by rw [hg]; exact (below_size (by repeat (first | (with_reducible first | exact HB.out | apply below_alloc | apply pw_below_drewN | apply below_drew1) | exact HB.out))) : w.heap.size ≤ gb190)); clear HB; have HB := n0_; have BK190 := n1_; have GW190 := n2_; have GE190 := n3_; clear n0_ n1_ n2_ n3_; clear hb hbox hg; have hcz50_0 : w49.cell? ⟨gb190, 0, none⟩ = some (.int .i64 a0_0) := (blk_cell BK190.out 0).trans rfl; have hcz50_1 : w49.cell? ⟨gb190, 1, none⟩ = some (.int .i64 a0_1) := (blk_cell BK190.out 1).trans rfl; have hcz50_2 : w49.cell? ⟨gb190, 2, none⟩ = some (.string a0_2) := (blk_cell BK190.out 2).trans rfl; have hfz50_0 := blk_frozen BK190.out 0; have hfz50_1 := blk_frozen BK190.out 1; have hfz50_2 := blk_frozen BK190.out 2) | (go_at_call 23; (with_reducible refine (marginaliaref06_Point.calls k a0_0 a0_1 a0_2 false _ A44.out).mono ?_); rintro e w51 ⟨rfl, hb⟩; have n0_ := Aside0.mk (blk_below (g := gb190) (o := .cells #[.int .i64 a0_0, .int .i64 a0_1, .string a0_2] 35 (0, 0)) (by (with_reducible repeat (first | refine blk_drewN ?_ _ | refine blk_drew ?_ | refine blk_alloc ?_ _)); exact BK190.out) hb); have n1_ := Aside0.mk (below_step (by repeat (first | (with_reducible first | exact HB.out | apply below_alloc | apply pw_below_drewN | apply below_drew1 | refine below_set ?_ GE190.out) | exact HB.out)) hb); clear BK190; clear HB; have BK190 := n0_; have HB := n1_; clear n0_ n1_; (try clear hb); (try clear hb2); (try clear hk); (try clear hi)))
        go_ret
        exact ⟨by first | rfl | (simp [errW_none, errW_some] <;> rfl) | (simp [*, errW_none, errW_some] <;> rfl), by repeat (first | (with_reducible first | exact HB.out | apply below_alloc | apply pw_below_drewN | apply below_drew1 | refine below_set ?_ GE190.out) | exact HB.out)⟩

/-! ### marginaliaref06_among: function 29 -/
def marginaliaref06_among.l0 : Nat → List ByteArray → Int → Int → Int → ByteArray → Option (Bool)
  | 0, _, _, _, _, _ => none
  | k + 1, x1, x5, x197000, x197001, x197002 => if x5 < (x1.length : Int) then (if x197001 = 0 then (if 0 ≤ x5 then (if x197002.toList = (rdOf ByteArray.empty x1 x5).toList then (some true) else (marginaliaref06_among.l0 k x1 (wrap64 (x5 + 1)) x197000 x197001 x197002)) else (none)) else (marginaliaref06_among.l0 k x1 (wrap64 (x5 + 1)) x197000 x197001 x197002)) else (some false)
def marginaliaref06_among.f (k : Nat) (a0_0 : Int) (a0_1 : Int) (a0_2 : ByteArray) (l1 : List ByteArray) : Option (Bool) := marginaliaref06_among.l0 k l1 0 a0_0 a0_1 a0_2
theorem marginaliaref06_among.mono_l : ∀ k, (∀ y0 y1 y2 y3 y4, LeO (marginaliaref06_among.l0 k y0 y1 y2 y3 y4) (marginaliaref06_among.l0 (k + 1) y0 y1 y2 y3 y4))
  | 0 => fun _ _ _ _ _ r h => by simp [marginaliaref06_among.l0] at h
  | k + 1 => by
    have ih0 := marginaliaref06_among.mono_l k
    · intro y0 y1 y2 y3 y4
      unfold marginaliaref06_among.l0
      repeat' first
      | (with_reducible exact ih0 _ _ _ _ _)
      | (with_reducible exact LeO.refl _)
      | (with_reducible exact LeO.none _)
      | (with_reducible refine LeO.ite ?_ ?_)
      | (with_reducible refine LeO.bind ?_ (fun _ => ?_))
      | exact ih0 _ _ _ _ _
      | exact LeO.none _
      | refine LeO.ite ?_ ?_
      | refine LeO.bind ?_ (fun _ => ?_)
theorem marginaliaref06_among.mono : ∀ a0 a1 a2 a3 k, LeO (marginaliaref06_among.f k a0 a1 a2 a3) (marginaliaref06_among.f (k + 1) a0 a1 a2 a3) := by
  intro a0 a1 a2 a3 k
  have ih0 := marginaliaref06_among.mono_l k
  unfold marginaliaref06_among.f
  repeat' first
      | (with_reducible exact ih0 _ _ _ _ _)
      | (with_reducible exact LeO.refl _)
      | (with_reducible exact LeO.none _)
      | (with_reducible refine LeO.ite ?_ ?_)
      | (with_reducible refine LeO.bind ?_ (fun _ => ?_))
      | exact ih0 _ _ _ _ _
      | exact LeO.none _
      | refine LeO.ite ?_ ?_
      | refine LeO.bind ?_ (fun _ => ?_)
set_option maxHeartbeats 8000000 in
set_option maxRecDepth 100000 in
theorem marginaliaref06_among.calls (k : Nat) (a0_0 : Int) (a0_1 : Int) (a0_2 : ByteArray) (A1 : Option Addr) (c1 : Nat) (l1 : List ByteArray) (r : Bool) (w : World) (hr1 : Kd.C Kd.string w A1 l1.length l1) (hc1 : l1.length ≤ c1) (h : marginaliaref06_among.f k a0_0 a0_1 a0_2 l1 = some r) :
    Calls Try.prog 29 #[.agg #[.int .i64 a0_0, .int .i64 a0_1, .string a0_2], .slice A1 l1.length c1] w fun e w' => e = .returned (.bool r) ∧ Below w.heap.size w w' := by
  have hu35 := Try.underlying35
  have HR1 := Aside0.mk hr1
  have HC1 := Aside0.mk hc1
  clear hr1 hc1
  have HB := Aside0.mk (Below.refl w.heap.size w)
  have H : (marginaliaref06_among.l0 k l1 0 a0_0 a0_1 a0_2) = some r := h
  clear h
  have H' := Aside0.mk H
  clear H
  go_enter Try.func29, Try.ntmps29
  go_wp2_with (first | ((with_reducible refine gate_dst (N := 2) rfl ?_); refine box_event ?hg (N := 2) ?hd (cs := #[.int .i64 a0_0, .int .i64 a0_1, .string a0_2]) (t := 35) ?hr ?_; (case hd => rfl); (case hg => rfl); (case hr => first | (go_simp; done) | (go_simp; rfl)); intro gb196 hg w3 hbox hb; have n0_ := Aside0.mk (below_step (by repeat (first | (with_reducible first | exact HB.out | apply below_alloc | apply pw_below_drewN | apply below_drew1) | exact HB.out)) hb); have n1_ := Aside0.mk (hbox); have n2_ := Aside0.mk ((by rw [hg]; exact (below_size (by repeat (first | (with_reducible first | exact HB.out | apply below_alloc | apply pw_below_drewN | apply below_drew1) | exact HB.out))) : w.heap.size ≤ gb196)); have n3_ := Aside0.mk ((by rw [hg]; exact (below_size (by repeat (first | (with_reducible first | exact HB.out | apply below_alloc | apply pw_below_drewN | apply below_drew1) | exact HB.out))) : w.heap.size ≤ gb196)); clear HB; have HB := n0_; have BK196 := n1_; have GW196 := n2_; have GE196 := n3_; clear n0_ n1_ n2_ n3_; clear hb hbox hg))
  repeat (go_quiet (first | ((with_reducible refine gate_dst (N := 2) rfl ?_); refine box_event ?hg (N := 2) ?hd (cs := #[.int .i64 a0_0, .int .i64 a0_1, .string a0_2]) (t := 35) ?hr ?_; (case hd => rfl); (case hg => rfl); (case hr => first | (go_simp; done) | (go_simp; rfl)); intro gb196 hg w3 hbox hb; have n0_ := Aside0.mk (below_step (by repeat (first | (with_reducible first | exact HB.out | apply below_alloc | apply pw_below_drewN | apply below_drew1) | exact HB.out)) hb); have n1_ := Aside0.mk (hbox); have n2_ := Aside0.mk ((by rw [hg]; exact (below_size (by repeat (first | (with_reducible first | exact HB.out | apply below_alloc | apply pw_below_drewN | apply below_drew1) | exact HB.out))) : w.heap.size ≤ gb196)); have n3_ := Aside0.mk ((by rw [hg]; exact (below_size (by repeat (first | (with_reducible first | exact HB.out | apply below_alloc | apply pw_below_drewN | apply below_drew1) | exact HB.out))) : w.heap.size ≤ gb196)); clear HB; have HB := n0_; have BK196 := n1_; have GW196 := n2_; have GE196 := n3_; clear n0_ n1_ n2_ n3_; clear hb hbox hg)); try go_wp2_with (first | ((with_reducible refine gate_dst (N := 2) rfl ?_); refine box_event ?hg (N := 2) ?hd (cs := #[.int .i64 a0_0, .int .i64 a0_1, .string a0_2]) (t := 35) ?hr ?_; (case hd => rfl); (case hg => rfl); (case hr => first | (go_simp; done) | (go_simp; rfl)); intro gb196 hg w3 hbox hb; have n0_ := Aside0.mk (below_step (by repeat (first | (with_reducible first | exact HB.out | apply below_alloc | apply pw_below_drewN | apply below_drew1) | exact HB.out)) hb); have n1_ := Aside0.mk (hbox); have n2_ := Aside0.mk ((by rw [hg]; exact (below_size (by repeat (first | (with_reducible first | exact HB.out | apply below_alloc | apply pw_below_drewN | apply below_drew1) | exact HB.out))) : w.heap.size ≤ gb196)); have n3_ := Aside0.mk ((by rw [hg]; exact (below_size (by repeat (first | (with_reducible first | exact HB.out | apply below_alloc | apply pw_below_drewN | apply below_drew1) | exact HB.out))) : w.heap.size ≤ gb196)); clear HB; have HB := n0_; have BK196 := n1_; have GW196 := n2_; have GE196 := n3_; clear n0_ n1_ n2_ n3_; clear hb hbox hg)))
  go_loopg [5] k (fun kq v5 w' => ∃ (x5_1 : Int), v5 = .int .i64 x5_1 ∧ Aside0 (marginaliaref06_among.l0 kq l1 x5_1 a0_0 a0_1 a0_2 = some r) ∧ Aside0 (kq ≤ k) ∧ Aside0 (w'.heap[gb196]? = some (.cells #[.int .i64 a0_0, .int .i64 a0_1, .string a0_2] 35 (0, 0))) ∧ Aside0 (Below w.heap.size w w'))
  case atStart => exact ⟨(0), (by first | rfl | (simp; done) | (simp [*]; done)), H', ⟨Nat.le_refl _⟩, ⟨by (with_reducible repeat (first | refine blk_drewN ?_ _ | refine blk_drew ?_ | refine blk_alloc ?_ _)); exact BK196.out⟩, ⟨by repeat (first | (with_reducible first | exact HB.out | apply below_alloc | apply pw_below_drewN | apply below_drew1 | refine below_set ?_ GE196.out) | exact HB.out)⟩⟩
  case round =>
    clear H'
    try clear c1
    try clear c2
    try clear p2
    obtain ⟨x5_1, rfl, HA, HK1, BK196, HB⟩ := hrel
    cases gk with
    | zero => exact absurd HA.out (by simp [marginaliaref06_among.l0])
    | succ k1 =>
      have H := HA.out
      clear HA
      simp only [marginaliaref06_among.l0] at H
      by_cases c4 : x5_1 < (l1.length : Int)
      · rw [if_pos c4] at H
        have c4b0 : decide (x5_1 < (l1.length : Int)) = true := decide_eq_true c4
        clear c4
        by_cases c5 : a0_1 = 0
        · rw [if_pos c5] at H
          have c5b0 : (a0_1 == 0) = true := beq_iff_eq.mpr c5
          have c5b1 : (a0_1 != 0) = false := bne_eq_false_iff_eq.mpr c5
          clear c5
          by_cases c6 : 0 ≤ x5_1
          · rw [if_pos c6] at H
            have c6b0 : decide (0 ≤ x5_1) = true := decide_eq_true c6
            clear c6
            by_cases c7 : a0_2.toList = (rdOf ByteArray.empty l1 x5_1).toList
            · rw [if_pos c7] at H
              have c7b0 : (a0_2.toList == (rdOf ByteArray.empty l1 x5_1).toList) = true := beq_iff_eq.mpr c7
              have c7b1 : (a0_2.toList != (rdOf ByteArray.empty l1 x5_1).toList) = false := bne_eq_false_iff_eq.mpr c7
              clear c7
              obtain rfl := Option.some.inj H
              have hcz8_0 : wr.cell? ⟨gb196, 0, none⟩ = some (.int .i64 a0_0) := (blk_cell BK196.out 0).trans rfl
              have hcz8_1 : wr.cell? ⟨gb196, 1, none⟩ = some (.int .i64 a0_1) := (blk_cell BK196.out 1).trans rfl
              have hcz8_2 : wr.cell? ⟨gb196, 2, none⟩ = some (.string a0_2) := (blk_cell BK196.out 2).trans rfl
              have hfz8_0 := blk_frozen BK196.out 0
              have hfz8_1 := blk_frozen BK196.out 1
              have hfz8_2 := blk_frozen BK196.out 2
              have p197 : 0 ≤ (x5_1 : Int) := of_decide_eq_true (by first | (with_reducible assumption) | assumption)
              have q197 : x5_1 < (l1.length : Int) := of_decide_eq_true (by first | (with_reducible assumption) | assumption)
              obtain ⟨ad197, e197, hx197_0⟩ := Kd.at_string HR1.out x5_1 p197 q197
              cases e197
              replace hx197_0 := (HB.out.cell (World.block_lt_of_cell? w _ hx197_0)).trans hx197_0
              replace p197 := eq_true p197
              replace q197 := eq_true q197
              go_wp2
              repeat (go_quiet (fail); try go_wp2)
              go_ret
              exact ⟨by first | rfl | (simp [errW_none, errW_some] <;> rfl) | (simp [*, errW_none, errW_some] <;> rfl), by repeat (first | (with_reducible first | exact HB.out | apply below_alloc | apply pw_below_drewN | apply below_drew1 | refine below_set ?_ GE196.out) | exact HB.out)⟩
            · rw [if_neg c7] at H
              have c7b0 : (a0_2.toList == (rdOf ByteArray.empty l1 x5_1).toList) = false := beq_eq_false_iff_ne.mpr c7
              have c7b1 : (a0_2.toList != (rdOf ByteArray.empty l1 x5_1).toList) = true := bne_iff_ne.mpr c7
              have H' := Aside0.mk H
              clear H
              have hcz9_0 : wr.cell? ⟨gb196, 0, none⟩ = some (.int .i64 a0_0) := (blk_cell BK196.out 0).trans rfl
              have hcz9_1 : wr.cell? ⟨gb196, 1, none⟩ = some (.int .i64 a0_1) := (blk_cell BK196.out 1).trans rfl
              have hcz9_2 : wr.cell? ⟨gb196, 2, none⟩ = some (.string a0_2) := (blk_cell BK196.out 2).trans rfl
              have hfz9_0 := blk_frozen BK196.out 0
              have hfz9_1 := blk_frozen BK196.out 1
              have hfz9_2 := blk_frozen BK196.out 2
              have p197 : 0 ≤ (x5_1 : Int) := of_decide_eq_true (by first | (with_reducible assumption) | assumption)
              have q197 : x5_1 < (l1.length : Int) := of_decide_eq_true (by first | (with_reducible assumption) | assumption)
              obtain ⟨ad197, e197, hx197_0⟩ := Kd.at_string HR1.out x5_1 p197 q197
              cases e197
              replace hx197_0 := (HB.out.cell (World.block_lt_of_cell? w _ hx197_0)).trans hx197_0
              replace p197 := eq_true p197
              replace q197 := eq_true q197
              go_wp2
              repeat (go_quiet (fail); try go_wp2)
              go_roundg k1
              case measure => have := HK1.out; omega
              case rel => exact ⟨(wrap64 (x5_1 + 1)), (by first | rfl | (simp; done) | (simp [*]; done)), H', ⟨by have := HK1.out; omega⟩, ⟨by (with_reducible repeat (first | refine blk_drewN ?_ _ | refine blk_drew ?_ | refine blk_alloc ?_ _)); exact BK196.out⟩, ⟨by repeat (first | (with_reducible first | exact HB.out | apply below_alloc | apply pw_below_drewN | apply below_drew1 | refine below_set ?_ GE196.out) | exact HB.out)⟩⟩
          · rw [if_neg c6] at H
            exact absurd H (by simp)
        · rw [if_neg c5] at H
          have c5b0 : (a0_1 == 0) = false := beq_eq_false_iff_ne.mpr c5
          have c5b1 : (a0_1 != 0) = true := bne_iff_ne.mpr c5
          have H' := Aside0.mk H
          clear H
          have hcz10_0 : wr.cell? ⟨gb196, 0, none⟩ = some (.int .i64 a0_0) := (blk_cell BK196.out 0).trans rfl
          have hcz10_1 : wr.cell? ⟨gb196, 1, none⟩ = some (.int .i64 a0_1) := (blk_cell BK196.out 1).trans rfl
          have hcz10_2 : wr.cell? ⟨gb196, 2, none⟩ = some (.string a0_2) := (blk_cell BK196.out 2).trans rfl
          have hfz10_0 := blk_frozen BK196.out 0
          have hfz10_1 := blk_frozen BK196.out 1
          have hfz10_2 := blk_frozen BK196.out 2
          go_wp2
          repeat (go_quiet (fail); try go_wp2)
          go_roundg k1
          case measure => have := HK1.out; omega
          case rel => exact ⟨(wrap64 (x5_1 + 1)), (by first | rfl | (simp; done) | (simp [*]; done)), H', ⟨by have := HK1.out; omega⟩, ⟨by (with_reducible repeat (first | refine blk_drewN ?_ _ | refine blk_drew ?_ | refine blk_alloc ?_ _)); exact BK196.out⟩, ⟨by repeat (first | (with_reducible first | exact HB.out | apply below_alloc | apply pw_below_drewN | apply below_drew1 | refine below_set ?_ GE196.out) | exact HB.out)⟩⟩
      · rw [if_neg c4] at H
        have c4b0 : decide (x5_1 < (l1.length : Int)) = false := decide_eq_false c4
        clear c4
        obtain rfl := Option.some.inj H
        go_wp2
        repeat (go_quiet (fail); try go_wp2)
        go_ret
        exact ⟨by first | rfl | (simp [errW_none, errW_some] <;> rfl) | (simp [*, errW_none, errW_some] <;> rfl), by repeat (first | (with_reducible first | exact HB.out | apply below_alloc | apply pw_below_drewN | apply below_drew1 | refine below_set ?_ GE196.out) | exact HB.out)⟩

end Go.Proofs.Ytobdmbebgdkelaa.PAll
