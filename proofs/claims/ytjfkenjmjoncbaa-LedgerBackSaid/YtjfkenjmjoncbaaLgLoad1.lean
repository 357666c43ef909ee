import Derived.Test.YtjfkenjmjoncbaaPAllx0
import Derived.Test.YtjfkenjmjoncbaaPAllx8
import Derived.Test.YtjfkenjmjoncbaaLgLoadS
import Derived.Test.YtjfkenjmjoncbaaLgCopy
import Derived.Deep.RegionHeld3
namespace Go.Proofs.Ytjfkenjmjoncbaa.Lg
open Go Go.Maps Go.WideShapes Go.RowKit Go.Proofs.Ytjfkenjmjoncbaa.PAll Go.Proofs.YtjfkenjmjoncbaaW.PrintWords Go.Proofs.YtjfkenjmjoncbaaW.PrintLast Go.Proofs.YtjfkenjmjoncbaaW.PrintMore
set_option linter.unusedVariables false
set_option linter.unusedSimpArgs false

/-! ### Load, where all is well -/
theorem load_inv {ps : List S52} {L : LG} (hne : ps ≠ []) (h : loadS ps = some L) : ∃ s : S52, rd_T52 ps (((ps.length - 1 : Nat) : Int)) = s ∧ s ∈ ps ∧ s.f0 = 18446744073709551615 ∧ s.f1.length = 24 ∧ numsOk s ∧ loadLoop (newestOf s) ps.dropLast none (head0 s) = some L ∧ L.newest = newestOf s := by
  unfold loadS at h
  rw [List.getLast?_eq_some_getLast hne] at h
  simp only at h
  have hl : 0 < ps.length := List.length_pos_iff.2 hne
  have e : rd_T52 ps (((ps.length - 1 : Nat) : Int)) = ps.getLast hne := by
    rw [rd_get (show ps.length - 1 < ps.length by omega), List.getLast_eq_getElem]
  split at h
  · next h1 =>
    split at h
    · next h2 =>
      split at h
      · next M hM =>
        split at h
        · next h3 =>
          cases h
          exact ⟨_, e, List.getLast_mem hne, h1.1, h1.2, h2, hM, h3⟩
        · cases h
      · cases h
    · cases h
  · cases h
theorem head_led {w : World} {B g b : Nat} (h : Led w B g b 0 (.slice none 0 0) LG.empty) {nx cu : Int} (hn : 0 ≤ nx ∧ nx ≤ 18446744073709551615) (hc : 0 ≤ cu ∧ cu ≤ 18446744073709551615) :
    Led ((w.setCell ⟨g, 2, none⟩ (.int .u64 nx)).setCell ⟨g, 3, none⟩ (.int .u64 cu)) B g b 0 (.slice none 0 0) ⟨[], [], nx, cu⟩ ∧ Mv (fun j => j = g) w ((w.setCell ⟨g, 2, none⟩ (.int .u64 nx)).setCell ⟨g, 3, none⟩ (.int .u64 cu)) := by
  have m : Mv (fun j => j = g) w ((w.setCell ⟨g, 2, none⟩ (.int .u64 nx)).setCell ⟨g, 3, none⟩ (.int .u64 cu)) :=
    (Mv.set (S := fun j => j = g) _ rfl).trans (.set (S := fun j => j = g) _ rfl) (S' := fun j => j = g) (fun j hj => .inl hj)
  refine ⟨⟨blk_set (blk_set h.blk 2 (.int .u64 nx)) 3 (.int .u64 cu), map_mv h.map m (fun e => h.ne.1 e.symm), World.ownsRow_nil _ _ _ _, h.gB, h.bB, ?_⟩, m⟩
  exact ⟨List.Pairwise.nil, by simp, by simp, hn, hc, by simp, by simp, by simp⟩
def prevK (ps : List S52) (J : Int) : Option Int := if J = 0 then none else some (rd_T52 ps (J - 1)).f0
theorem loop_step {ps : List S52} {nw : Int} {M L : LG} {J : Int} (h0 : 0 ≤ J) (h1 : J < ((ps.length - 1 : Nat) : Int)) (h : loadLoop nw (ps.dropLast.drop J.toNat) (prevK ps J) M = some L) :
    prevOk (prevK ps J) (rd_T52 ps J).f0 = true ∧ ldOk M (rd_T52 ps J).f0 (rd_T52 ps J).f1 nw = true ∧ loadLoop nw (ps.dropLast.drop (J + 1).toNat) (prevK ps (J + 1)) (ldL M (rd_T52 ps J).f0 (rd_T52 ps J).f1) = some L := by
  have hl : J.toNat < ps.dropLast.length := by rw [List.length_dropLast]; omega
  have hj : J.toNat < ps.length := by omega
  have e : ps.dropLast[J.toNat] = rd_T52 ps J := by
    rw [List.getElem_dropLast]
    have := rd_get hj
    rw [Int.toNat_of_nonneg h0] at this
    exact this.symm
  rw [List.drop_eq_getElem_cons hl, e, loadLoop] at h
  have e1 : (J + 1).toNat = J.toNat + 1 := by omega
  have e2 : prevK ps (J + 1) = some (rd_T52 ps J).f0 := by unfold prevK; rw [if_neg (by omega), show J + 1 - 1 = J by omega]
  split at h
  · next c1 =>
    split at h
    · next c2 => exact ⟨c1, c2, by rw [e1, e2]; exact h⟩
    · cases h
  · cases h
theorem loop_end {ps : List S52} {nw : Int} {M L : LG} {J : Int} (h1 : ((ps.length - 1 : Nat) : Int) ≤ J) (h : loadLoop nw (ps.dropLast.drop J.toNat) (prevK ps J) M = some L) : M = L := by
  rw [List.drop_eq_nil_of_le (by rw [List.length_dropLast]; omega), loadLoop] at h
  exact Option.some.inj h
set_option maxHeartbeats 8000000 in
set_option maxRecDepth 100000 in
/-- Load (17), of pairs that are a ledger -/
theorem Load_some {w : World} {A0 : Option Addr} {c0 : Nat} {ps : List S52} {L : LG} (hC : Kd.C k52 w A0 ps.length ps) (hc : ps.length ≤ c0) (hm : ps.length ≤ 3000000) (hk : ∀ x ∈ ps, 0 ≤ x.f0 ∧ x.f0 ≤ 18446744073709551615) (hb : ∀ x ∈ ps, Bytes x.f1) (hne : ps ≠ []) (h : loadS ps = some L) :
    Calls Try.prog 17 #[.slice A0 ps.length c0] w fun e w' => ∃ g b v, e = .returned (.tuple #[.pointer (some ⟨g, 0, none⟩), .int .i64 0]) ∧ Led w' w.heap.size g b ps.length v L ∧ Below w.heap.size w w' := by
  obtain ⟨s, es, hs, s1, s2, ⟨n1, n2, n3, n4⟩, hl, hlast⟩ := load_inv hne h
  have hpos : 0 < ps.length := List.length_pos_iff.2 hne
  obtain ⟨J0, hJ0⟩ : ∃ J0 : Int, J0 = ((ps.length - 1 : Nat) : Int) := ⟨_, rfl⟩
  rw [← hJ0] at es
  have q0 := eq_true (show 0 ≤ J0 by omega)
  have q1 := eq_true (show J0 < (ps.length : Int) by omega)
  obtain ⟨ad, A1, c1, ea, x0, x1, hl1, hC1⟩ := at_T52 hC J0 (by omega) (by omega)
  rw [es] at x0 x1 hl1 hC1
  have hby := hb s hs
  obtain ⟨bs, hbs⟩ : ∃ bs, s.f1 = bs := ⟨_, rfl⟩
  obtain ⟨nx, hnx⟩ : ∃ nx, nextOf s = nx := ⟨_, rfl⟩
  obtain ⟨nw, hnw⟩ : ∃ nw, newestOf s = nw := ⟨_, rfl⟩
  obtain ⟨cu, hcu⟩ : ∃ cu, curOf s = cu := ⟨_, rfl⟩
  have e8 : bs.drop 16 = (bs.drop 16).take 8 := by rw [List.take_of_length_le]; rw [← hbs, List.length_drop]; omega
  have hhd : head0 s = ⟨[], [], nx, cu⟩ := by unfold head0; rw [hnx, hcu]
  rw [s1] at x0
  rw [hbs] at s2 x1 hl1 hC1 hby
  rw [hnx] at n1 n2 n4
  rw [hnw] at n3 hl hlast
  rw [hcu] at n4
  rw [hhd] at hl
  have m1 : (bs.take 8).length = 8 := by rw [List.length_take]; omega
  have m2 : ((bs.take 16).drop 8).length = 8 := by rw [List.length_drop, List.length_take]; omega
  have m3 : (bs.drop 16).length = 8 := by rw [List.length_drop]; omega
  have b1 := bytes_take hby 8
  have b2 := bytes_drop (bytes_take hby 16) 8
  have b3 := bytes_drop hby 16
  have hnum1 : ledger_number.f 9 (bs.take 8) = some nx := by rw [← hnx, nextOf, hbs]; exact num_is _ b1 (by omega) 9 (by omega)
  have hnum2 : ledger_number.f 9 ((bs.take 16).drop 8) = some nw := by rw [← hnw, newestOf, hbs]; exact num_is _ b2 (by omega) 9 (by omega)
  have hnum3 : ledger_number.f 9 (bs.drop 16) = some cu := by rw [← hcu, curOf, hbs]; exact num_is _ b3 (by omega) 9 (by omega)
  have HNX := Aside0.mk (show 0 ≤ nx ∧ nx ≤ 18446744073709551615 by rw [← hnx, nextOf, hbs]; exact num64 b1 (by omega))
  have HCU := Aside0.mk (show 0 ≤ cu ∧ cu ≤ 18446744073709551615 by rw [← hcu, curOf, hbs]; exact num64 b3 (by omega))
  have HNW := Aside0.mk (show 0 ≤ nw ∧ nw ≤ 100 by refine ⟨?_, n3⟩; rw [← hnw, newestOf, hbs]; exact (num64 b2 (by omega)).1)
  obtain ⟨i0, hi5, _, hsz5, _⟩ := info_parts info5
  obtain ⟨tk1, tk2, tk3⟩ := print_take_of (P := Try.prog) (Value.int .u8) (0 : Int) 50 5 .i64 Try.underlying50 hi5 hsz5 A1 c1 bs 8 (by omega) (by omega) hl1
  have tk1' : ∀ W : World, (Instr.slice 50 (.slice A1 bs.length c1) none (some (.int .i64 8)) none).run Try.prog W = .ok (.slice A1 (bs.take 8).length c1) W := tk1
  have TK2 := Aside0.mk (show ∀ W, (Kd.int .u8).C W A1 bs.length bs → (Kd.int .u8).C W A1 (bs.take 8).length (bs.take 8) from fun W hC => Kd.C_of_reads (h1 := fun _ => rfl) (tk2 W (Kd.reads_of_C hC)))
  have TK3 := Aside0.mk (show (bs.take 8).length ≤ c1 from tk3)
  obtain ⟨A2, dr1, dr2, dr3⟩ := print_drop_of (P := Try.prog) (Value.int .u8) (0 : Int) 50 5 .i64 Try.underlying50 hi5 hsz5 A1 c1 bs 16 (by omega) (by omega) hl1
  obtain ⟨c2, hc2⟩ : ∃ c2, c1 - (16 : Int).toNat = c2 := ⟨_, rfl⟩
  rw [hc2] at dr1 dr3
  have dr1' : ∀ W : World, (Instr.slice 50 (.slice A1 bs.length c1) (some (.int .i64 16)) none none).run Try.prog W = .ok (.slice A2 (bs.drop 16).length c2) W := dr1
  have DR2 := Aside0.mk (show ∀ W, (Kd.int .u8).C W A1 bs.length bs → (Kd.int .u8).C W A2 (bs.drop 16).length (bs.drop 16) from fun W hC => Kd.C_of_reads (h1 := fun _ => rfl) (dr2 W (Kd.reads_of_C hC)))
  have DR3 := Aside0.mk (show (bs.drop 16).length ≤ c2 from dr3)
  obtain ⟨A3, md1, md2, md3⟩ := print_mid_of (P := Try.prog) (Value.int .u8) (0 : Int) 50 5 .i64 .i64 Try.underlying50 hi5 hsz5 A1 c1 bs 8 16 (by omega) (by omega) (by omega) hl1
  obtain ⟨c3, hc3⟩ : ∃ c3, c1 - (8 : Int).toNat = c3 := ⟨_, rfl⟩
  rw [hc3] at md1 md3
  have md1' : ∀ W : World, (Instr.slice 50 (.slice A1 bs.length c1) (some (.int .i64 8)) (some (.int .i64 16)) none).run Try.prog W = .ok (.slice A3 ((bs.take 16).drop 8).length c3) W := md1
  have MD2 := Aside0.mk (show ∀ W, (Kd.int .u8).C W A1 bs.length bs → (Kd.int .u8).C W A3 ((bs.take 16).drop 8).length ((bs.take 16).drop 8) from fun W hC => Kd.C_of_reads (h1 := fun _ => rfl) (md2 W (Kd.reads_of_C hC)))
  have MD3 := Aside0.mk (show ((bs.take 16).drop 8).length ≤ c3 from md3)
  have HNUM1 := Aside0.mk hnum1
  have HNUM2 := Aside0.mk hnum2
  have HNUM3 := Aside0.mk hnum3
  obtain ⟨tk, htk⟩ : ∃ tk, bs.take 8 = tk := ⟨_, rfl⟩
  obtain ⟨dr, hdr⟩ : ∃ dr, bs.drop 16 = dr := ⟨_, rfl⟩
  obtain ⟨md, hmd⟩ : ∃ md, (bs.take 16).drop 8 = md := ⟨_, rfl⟩
  rw [htk] at tk1' TK2 TK3 HNUM1
  rw [hdr] at dr1' DR2 DR3 HNUM3
  rw [hmd] at md1' MD2 MD3 HNUM2
  obtain ⟨i29, hi29, _, _, _⟩ := info_parts info52
  have cut := cut_to (P := Try.prog) 29 52 .i64 Try.underlying29 hi29 A0 ps.length c0 J0 (by omega) (by omega) hc
  obtain ⟨N0, hN0⟩ : ∃ N0, J0.toNat = N0 := ⟨_, rfl⟩
  rw [hN0] at cut
  have HN0 := Aside0.mk (show (N0 : Int) = J0 by omega)
  have hw0 : wrap64 ((ps.length : Int) - 1) = J0 := by unfold wrap64; omega
  have d0 : ((ps.length : Int) == 0) = false := beq_eq_false_iff_ne.2 (by omega)
  have d1 : ((bs.length : Int) != 24) = false := bne_eq_false_iff_eq.2 (by omega)
  have d2 : (nx == 0) = false := beq_eq_false_iff_ne.2 n1
  have d3 : decide (9223372036854775808 ≤ nx) = false := decide_eq_false (by omega)
  have d4 : decide (100 < nw) = false := decide_eq_false (by omega)
  have d5 : decide (nx ≤ cu) = false := decide_eq_false (by omega)
  subst ea
  have HC := Aside0.mk hC
  have HCC := Aside0.mk hc
  have HM := Aside0.mk hm
  have HK := Aside0.mk hk
  have HBY := Aside0.mk hb
  have HC1 := Aside0.mk hC1
  have HL := Aside0.mk hl
  have HLA := Aside0.mk hlast
  have HJ0 := Aside0.mk hJ0
  have HPS := Aside0.mk hpos
  have X0 := Aside0.mk x0
  have X1 := Aside0.mk x1
  clear hC hc hm hk hb hC1 hl hlast hJ0 hpos hne h es hs s1 s2 n1 n2 n3 n4 hbs hby hnx hnw hcu hhd m1 m2 m3 b1 b2 b3 hnum1 hnum2 hnum3 tk1 tk2 tk3 dr1 dr2 dr3 md1 md2 md3 hc2 hc3 htk hdr hmd hi5 hsz5 hi29 hl1 x0 x1 e8 s hN0
  go_enter Try.func17, Try.ntmps17
  go_wp2_with (first
    | (go_at_call 23; refine (New_calls _).mono ?_; rintro e w1 ⟨g, b, rfl, hL, hb⟩; have HL1 := Aside0.mk hL; have HB1 := Aside0.mk hb; have x0 := (hb.cell (World.block_lt_of_cell? w _ X0.out)).trans X0.out; have x1 := (hb.cell (World.block_lt_of_cell? w _ X1.out)).trans X1.out; clear hL hb)
    | (go_at_call 29; (with_reducible refine (ledger_number.calls 9 A3 c3 md nw _ ?s1 ?s2 HNUM2.out).mono ?_); (case s1 => exact MD2.out _ (Kd.C_below HC1.out (below_alloc HB1.out _))); (case s2 => exact MD3.out); rintro e w5 ⟨rfl, hd⟩; have HBD := Aside0.mk (drawn_below hd); have HL5 := Aside0.mk ((HL1.out.below (below_alloc (Below.refl _ _) _)).below HBD.out); have BK5 := Aside0.mk (blk_below (blk_new w1 (.cells #[.int .u64 18446744073709551615, .slice A1 bs.length c1] 52)) HBD.out); have HB5 := Aside0.mk ((below_alloc HB1.out _).trans (HBD.out.mono (below_alloc HB1.out _).size)); have HG := Aside0.mk (HL1.out.lt (.inl rfl)); have HWB := Aside0.mk HB1.out.size; clear hd x0 x1))
  generalize w1.heap.size = gb at BK5 HG HWB ⊢
  clear HBD HL1 HB1
  obtain ⟨⟨h0, h1, h2, h3⟩, hf⟩ := HL5.out.cells
  have hsz5' : g < w5.heap.size := (HL5.out.lt (.inl rfl)).2
  have HC5 := Aside0.mk (Kd.C_below HC1.out HB5.out)
  have HBb := Aside0.mk (Below.refl w5.heap.size w5)
  have HSa := Aside0.mk (show ∀ W, Below w5.heap.size w5 W → W.cell? ⟨gb, 1, none⟩ = some (.slice A1 bs.length c1) from fun W hW => (blk_cell (blk_below BK5.out hW) 1).trans rfl)
  have HKp := Aside0.mk (show ∀ (W : World) (i : Nat) (u : Value), W.cell? ⟨gb, 1, none⟩ = some (.slice A1 bs.length c1) → (W.setCell ⟨g, i, none⟩ u).cell? ⟨gb, 1, none⟩ = some (.slice A1 bs.length c1) from fun W i u hW => (World.cell?_of_block (Below.heap_setCell W ⟨g, i, none⟩ u gb (by have := HG.out.2; show gb ≠ g; omega))).trans hW)
  go_region_held3 (fun W => W.cell? ⟨gb, 1, none⟩ = some (.slice A1 bs.length c1)) ((first | (repeat (refine HKp.out _ _ _ ?_)); refine HSa.out _ ?_; repeat (first | exact HBb.out | exact Below.refl _ _ | apply below_drew1 | apply pw_below_drewN | apply below_alloc))) (first
    | (go_at_call 29; (with_reducible refine (ledger_number.calls 9 A1 c1 tk nx _ ?s1 ?s2 HNUM1.out).mono ?_); (case s1 => exact TK2.out _ (Kd.C_below HC5.out (show Below w5.heap.size w5 _ from by repeat (first | exact HBb.out | exact Below.refl _ _ | apply below_drew1 | apply pw_below_drewN | apply below_alloc)))); (case s2 => exact TK3.out); rintro e w6 ⟨rfl, hd⟩; obtain ⟨n6, rfl⟩ := hd.out; clear hd)
    | (go_at_call 29; (with_reducible refine (ledger_number.calls 9 A2 c2 dr cu _ ?s1 ?s2 HNUM3.out).mono ?_); (case s1 => exact DR2.out _ (Kd.C_below HC5.out (show Below w5.heap.size w5 _ from by repeat (first | exact HBb.out | exact Below.refl _ _ | apply below_drew1 | apply pw_below_drewN | apply below_alloc)))); (case s2 => exact DR3.out); rintro e w7 ⟨rfl, hd⟩; obtain ⟨n7, rfl⟩ := hd.out; clear hd))
  clear h0 h1 h2 h3 hf hsz5' HSa HKp HBb HC5
  obtain ⟨hL9, hm9⟩ := head_led (HL5.out.below (pw_below_drewN (Below.refl _ _) (1 + n6 + n7))) HNX.out HCU.out
  have HL9 := Aside0.mk hL9
  have HB9 := Aside0.mk (mv_below (HB5.out.trans ((pw_below_drewN (Below.refl w5.heap.size w5) (1 + n6 + n7)).mono HB5.out.size)) hm9 (fun j hj => by rw [hj]; exact HG.out.1) (by simpa using HB5.out.size))
  rename_i hheld
  clear hL9 hm9 hheld
  generalize (((w5.drewN (1 + n6 + n7)).setCell ⟨g, 2, none⟩ (.int .u64 nx)).setCell ⟨g, 3, none⟩ (.int .u64 cu)) = w9 at HL9 HB9 ⊢
  obtain ⟨⟨h0, h1, h2, h3⟩, hf⟩ := HL9.out.cells
  go_wp2
  go_quiet (fail)
  have HL10 := Aside0.mk (HL9.out.below (pw_below_drewN (Below.refl _ _) nq))
  have HB10 := Aside0.mk (HB9.out.trans ((pw_below_drewN (Below.refl w9.heap.size w9) nq).mono HB9.out.size))
  clear h0 h1 h2 h3 hf
  generalize w9.drewN nq = w10 at HL10 HB10 ⊢
  go_wp2
  go_loopg [80] J0.toNat (fun kq v80 wr => ∃ (J : Int) (M : LG) (v : Value), v80 = .int .i64 J ∧ Aside0 (0 ≤ J ∧ J + kq = J0) ∧ Aside0 (Led wr w.heap.size g b J.toNat v M) ∧ Aside0 (loadLoop nw (ps.dropLast.drop J.toNat) (prevK ps J) M = some L) ∧ Aside0 (M.newest ≤ nw) ∧ Aside0 (Below w.heap.size w wr))
  case atStart => exact ⟨0, _, _, rfl, ⟨by have := of_eq_true q0; omega⟩, HL10, HL, ⟨by have := HNW.out; show (([] : List ByteArray).length : Int) ≤ nw; simp; omega⟩, HB10⟩
  case round =>
    clear HL9 HB9 HL10 HB10 HL5 HB5 BK5 HL HNX HCU TK2 TK3 DR2 DR3 MD2 MD3 HNUM1 HNUM2 HNUM3 HC1 X0 X1 tk1' dr1' md1' cut hw0 d0 d1 d2 d3 d4 d5
    obtain ⟨J, M, v, rfl, HJ, HLD, HLP, HNWM, HB⟩ := hrel
    by_cases c1 : J < J0
    · have c1b : decide (J < (N0 : Int)) = true := decide_eq_true (by rw [HN0.out]; exact c1)
      have qN := eq_true (show J < (N0 : Int) by rw [HN0.out]; exact c1)
      have q2 := eq_true HJ.out.1
      have hjl : J < (ps.length : Int) := by have := of_eq_true q1; omega
      have q3 := eq_true hjl
      obtain ⟨ad', A', c', ea, y0, y1, hl', hC'⟩ := at_T52 HC.out J HJ.out.1 hjl
      cases ea
      obtain ⟨st1, st2, st3⟩ := loop_step HJ.out.1 (by rw [← HJ0.out]; exact c1) HLP.out
      have hpm : rd_T52 ps J ∈ ps := by
        have hj : J.toNat < ps.length := by have := HJ.out; omega
        have := rd_get hj
        rw [Int.toNat_of_nonneg HJ.out.1] at this
        rw [this]; exact List.getElem_mem hj
      have HKJ := Aside0.mk (HK.out _ hpm)
      have HBJ := Aside0.mk (HBY.out _ hpm)
      have HCJ := Aside0.mk (Kd.C_below hC' HB.out)
      have HCL := Aside0.mk hl'
      replace y0 := (HB.out.cell (World.block_lt_of_cell? w _ y0)).trans y0
      replace y1 := (HB.out.cell (World.block_lt_of_cell? w _ y1)).trans y1
      obtain ⟨pk, hpk⟩ : ∃ pk, (rd_T52 ps J).f0 = pk := ⟨_, rfl⟩
      obtain ⟨pb, hpb⟩ : ∃ pb, (rd_T52 ps J).f1 = pb := ⟨_, rfl⟩
      rw [hpk] at y0 st1 st2 st3 HKJ
      rw [hpb] at y1 st2 st3 HCJ HCL HBJ
      have HS3 := Aside0.mk st3
      have HS2 := Aside0.mk st2
      have hjw : wrap64 (J + 1) = J + 1 := by have := HJ.out; have := HM.out; have := HJ0.out; unfold wrap64; omega
      clear hpm hpk hpb hjl hl' hC' st2 st3 c1 HLP
      by_cases cz : J = 0
      · have e1 : decide (0 < J) = false := decide_eq_false (by omega)
        clear st1 cz
        go_wp2
        have HB13 := Aside0.mk (below_alloc HB.out (.cells #[.int .u64 pk, .slice A' pb.length c'] 52))
        have HL13 := Aside0.mk (HLD.out.below (below_alloc (Below.refl _ _) (.cells #[.int .u64 pk, .slice A' pb.length c'] 52)))
        have BK13 := Aside0.mk (blk_new wr (.cells #[.int .u64 pk, .slice A' pb.length c'] 52))
        have HC13 := Aside0.mk (Kd.C_below HCJ.out (below_alloc (Below.refl wr.heap.size wr) (.cells #[.int .u64 pk, .slice A' pb.length c'] 52)))
        clear y0 y1 HLD HB
        generalize wr.alloc (.cells #[.int .u64 pk, .slice A' pb.length c'] 52) = w13 at HB13 HL13 BK13 HC13 ⊢
        generalize wr.heap.size = gb2 at BK13 ⊢
        have k0 : w13.cell? ⟨gb2, 0, none⟩ = some (.int .u64 pk) := (blk_cell BK13.out 0).trans rfl
        have k1 : w13.cell? ⟨gb2, 1, none⟩ = some (.slice A' pb.length c') := (blk_cell BK13.out 1).trans rfl
        refine region_tail 17 (by kernel_rfl) (by kernel_rfl) ?_
        simp only [List.take_succ_cons, List.take_zero, List.drop_succ_cons, List.drop_zero]
        repeat (with_reducible refine wpStill_step ?_; intro K hK; go_simp; with_reducible refine hK _ ?_; clear hK K)
        with_reducible refine wpStill_nil ?_
        have HL13d := Aside0.mk (HL13.out.below (below_drew (Below.refl _ w13)))
        have HB13d := Aside0.mk (HB13.out.trans ((below_drew (Below.refl w13.heap.size w13)).mono HB13.out.size))
        have HC13d := Aside0.mk (Kd.C_below HC13.out (below_drew (Below.refl w13.heap.size w13)))
        go_wp2_with (go_at_call 30; refine (load_calls HL13d.out HB13d.out.size (by have := HJ.out; have := HM.out; have := HJ0.out; unfold maxLen; omega) HKJ.out HC13d.out HCL.out HBJ.out HNWM.out HNW.out.2).mono ?_; rintro e w14 ⟨rfl, hld⟩; rw [HS2.out]; obtain ⟨⟨v', hL14, _⟩, hm14⟩ := hld.did HS2.out; have HL14 := Aside0.mk hL14; have HB14 := Aside0.mk (mv_below HB13d.out hm14 (fun j hj => (HL13d.out.lt hj).1) HB13d.out.size); clear hL14 hm14 hld k0 k1)
        go_roundg (gk - 1)
        case measure => have := HJ.out; have := of_decide_eq_true c1b; have := HN0.out; omega
        case rel =>
          have hJ := HJ.out
          have hJ1 := of_decide_eq_true c1b
          have hN0 := HN0.out
          have e1' : (J + 1).toNat = J.toNat + 1 := by omega
          refine ⟨J + 1, _, v', by rw [hjw], ⟨by omega⟩, ⟨by rw [e1']; exact HL14.out⟩, HS3, ⟨ldL_newest HNWM.out HS2.out⟩, HB14⟩
      · have e1 : decide (0 < J) = true := decide_eq_true (by have := HJ.out; omega)
        have hpv : prevK ps J = some (rd_T52 ps (J - 1)).f0 := if_neg cz
        rw [hpv] at st1
        obtain ⟨J1, hJ1⟩ : ∃ J1, J - 1 = J1 := ⟨_, rfl⟩
        rw [hJ1] at st1
        obtain ⟨ad2, A2', c2', ea, z0, z1, _, _⟩ := at_T52 HC.out J1 (by have := HJ.out; omega) (by have := of_eq_true q3; omega)
        cases ea
        have q4 := eq_true (show 0 ≤ J1 by have := HJ.out; omega)
        have q5 := eq_true (show J1 < (ps.length : Int) by have := of_eq_true q3; omega)
        obtain ⟨pp, hpp⟩ : ∃ pp, (rd_T52 ps J1).f0 = pp := ⟨_, rfl⟩
        rw [hpp] at st1 z0
        have st1' : pp < pk := by simpa [prevOk] using st1
        have e2 : decide (pk ≤ pp) = false := decide_eq_false (by omega)
        have hjw1 : wrap64 (J - 1) = J1 := by have := HJ.out; have := HM.out; have := HJ0.out; unfold wrap64; omega
        have hjw2 : IntKind.i64.wrap (J - 1) = J1 := by have := HJ.out; have := HM.out; have := HJ0.out; simp [IntKind.wrap, IntKind.bits, IntKind.signed]; omega
        have Z0 := Aside0.mk z0
        clear st1 st1' cz hpv hJ1 hpp z0 z1
        go_wp2
        have HB13 := Aside0.mk (below_alloc HB.out (.cells #[.int .u64 pk, .slice A' pb.length c'] 52))
        have HL13 := Aside0.mk (HLD.out.below (below_alloc (Below.refl _ _) (.cells #[.int .u64 pk, .slice A' pb.length c'] 52)))
        have BK13 := Aside0.mk (blk_new wr (.cells #[.int .u64 pk, .slice A' pb.length c'] 52))
        have HC13 := Aside0.mk (Kd.C_below HCJ.out (below_alloc (Below.refl wr.heap.size wr) (.cells #[.int .u64 pk, .slice A' pb.length c'] 52)))
        clear y0 y1 HLD HB
        generalize wr.alloc (.cells #[.int .u64 pk, .slice A' pb.length c'] 52) = w13 at HB13 HL13 BK13 HC13 ⊢
        generalize wr.heap.size = gb2 at BK13 ⊢
        have k0 : w13.cell? ⟨gb2, 0, none⟩ = some (.int .u64 pk) := (blk_cell BK13.out 0).trans rfl
        have k1 : w13.cell? ⟨gb2, 1, none⟩ = some (.slice A' pb.length c') := (blk_cell BK13.out 1).trans rfl
        have z0 := (HB13.out.cell (World.block_lt_of_cell? w _ Z0.out)).trans Z0.out
        refine region_tail 17 (by kernel_rfl) (by kernel_rfl) ?_
        simp only [List.take_succ_cons, List.take_zero, List.drop_succ_cons, List.drop_zero]
        repeat (with_reducible refine wpStill_step ?_; intro K hK; go_simp; with_reducible refine hK _ ?_; clear hK K)
        with_reducible refine wpStill_nil ?_
        have HL13d := Aside0.mk (HL13.out.below (below_drew (Below.refl _ w13)))
        have HB13d := Aside0.mk (HB13.out.trans ((below_drew (Below.refl w13.heap.size w13)).mono HB13.out.size))
        have HC13d := Aside0.mk (Kd.C_below HC13.out (below_drew (Below.refl w13.heap.size w13)))
        go_wp2_with (go_at_call 30; refine (load_calls HL13d.out HB13d.out.size (by have := HJ.out; have := HM.out; have := HJ0.out; unfold maxLen; omega) HKJ.out HC13d.out HCL.out HBJ.out HNWM.out HNW.out.2).mono ?_; rintro e w14 ⟨rfl, hld⟩; rw [HS2.out]; obtain ⟨⟨v', hL14, _⟩, hm14⟩ := hld.did HS2.out; have HL14 := Aside0.mk hL14; have HB14 := Aside0.mk (mv_below HB13d.out hm14 (fun j hj => (HL13d.out.lt hj).1) HB13d.out.size); clear hL14 hm14 hld k0 k1)
        go_roundg (gk - 1)
        case measure => have := HJ.out; have := of_decide_eq_true c1b; have := HN0.out; omega
        case rel =>
          have hJ := HJ.out
          have hJ1 := of_decide_eq_true c1b
          have hN0 := HN0.out
          have e1' : (J + 1).toNat = J.toNat + 1 := by omega
          refine ⟨J + 1, _, v', by rw [hjw], ⟨by omega⟩, ⟨by rw [e1']; exact HL14.out⟩, HS3, ⟨ldL_newest HNWM.out HS2.out⟩, HB14⟩
    · have hJe : J0 ≤ J := by omega
      have c1b : decide (J < (N0 : Int)) = false := decide_eq_false (by rw [HN0.out]; omega)
      have hME := loop_end (show ((ps.length - 1 : Nat) : Int) ≤ J by rw [← HJ0.out]; exact hJe) HLP.out
      subst hME
      clear HLP c1 hJe
      go_wp2_with (go_at_call 26; refine (newest_calls HLD.out).mono ?_; rintro e w' ⟨rfl, rfl⟩; rw [HLA.out])
      refine bodyPost_ret (results_tmp2 rfl _ _ _) rfl ?_
      exact ⟨g, b, v, rfl, HLD.out.mono (by have := HJ.out; have := HJ0.out; omega), HB.out⟩
end Go.Proofs.Ytjfkenjmjoncbaa.Lg
