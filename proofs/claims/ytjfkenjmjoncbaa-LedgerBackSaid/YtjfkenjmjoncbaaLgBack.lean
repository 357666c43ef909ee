import Derived.Test.YtjfkenjmjoncbaaPAllx0
import Derived.Test.YtjfkenjmjoncbaaLgLoad1
import Derived.Test.YtjfkenjmjoncbaaLgSpoil
import Derived.Test.YtjfkenjmjoncbaaLgSwept
namespace Go.Proofs.Ytjfkenjmjoncbaa.Lg
open Go Go.Maps Go.WideShapes Go.RowKit Go.Proofs.Ytjfkenjmjoncbaa.PAll Go.Proofs.YtjfkenjmjoncbaaW.PrintWords Go.Proofs.YtjfkenjmjoncbaaW.PrintLast Go.Proofs.YtjfkenjmjoncbaaW.PrintMore
set_option linter.unusedVariables false
set_option linter.unusedSimpArgs false

/-! ### LedgerBack -/
/-- the ledger l, what it was as pairs, the loaded one m and the copy c: they stand apart -/
structure St (w w' : World) (gl bl : Nat) (vl : Value) (gm bm nm : Nat) (vm : Value) (gc bc nc : Nat) (vc : Value) (L M N : LG) (u : Value) (B5 R : Nat) : Prop where
  l : Led w' w.heap.size gl bl 50 vl L
  m : Led w' R gm bm nm vm M
  c : Led w' R gc bc nc vc N
  p : PTop w' B5 R u L.pairsS
  sep : ∀ j, Owns gm bm vm j → ¬ Owns gc bc vc j
  low : ∀ j, Owns gl bl vl j → j < R
  wR : w.heap.size ≤ R
  RS : R ≤ w'.heap.size
  bel : Below w.heap.size w w'
section
variable {w w' w2 : World} {gl bl : Nat} {vl : Value} {gm bm nm : Nat} {vm : Value} {gc bc nc : Nat} {vc : Value} {L M N : LG} {u : Value} {B5 R : Nat}
theorem St.below (h : St w w' gl bl vl gm bm nm vm gc bc nc vc L M N u B5 R) (hb : Below w'.heap.size w' w2) : St w w2 gl bl vl gm bm nm vm gc bc nc vc L M N u B5 R :=
  ⟨h.l.below hb, h.m.below hb, h.c.below hb, h.p.below hb, h.sep, h.low, h.wR, Nat.le_trans h.RS hb.size, h.bel.trans (hb.mono (Nat.le_trans h.wR h.RS))⟩
theorem St.more (h : St w w' gl bl vl gm bm nm vm gc bc nc vc L M N u B5 R) {n : Nat} (h1 : nm ≤ n) (h2 : nc ≤ n) : St w w' gl bl vl gm bm n vm gc bc n vc L M N u B5 R :=
  ⟨h.l, h.m.mono h1, h.c.mono h2, h.p, h.sep, h.low, h.wR, h.RS, h.bel⟩
theorem St.applyC (h : St w w' gl bl vl gm bm nm vm gc bc nc vc L M N u B5 R) {nc' : Nat} {vc' : Value} {N' : LG} (hc : Led w2 R gc bc nc' vc' N') (hv : ∀ j, vc'.ownBlock = some j → vc.ownBlock = some j ∨ w'.heap.size ≤ j) (hm : Mv (Owns gc bc vc) w' w2) :
    St w w2 gl bl vl gm bm nm vm gc bc nc' vc' L M N' u B5 R := by
  have hcR : ∀ j, Owns gc bc vc j → R ≤ j := fun j hj => (h.c.lt hj).1
  refine ⟨h.l.mv hm (fun j hj hj2 => by have := h.low j hj; have := hcR j hj2; omega), h.m.mv hm (fun j hj => h.sep j hj), hc, h.p.mv hm (fun j hj => .inr (hcR j hj)), fun j hj hj2 => ?_, h.low, h.wR, Nat.le_trans h.RS hm.size, mv_below h.bel hm (fun j hj => Nat.le_trans h.wR (hcR j hj)) (Nat.le_trans h.wR h.RS)⟩
  rcases hj2 with q | q | q
  · exact h.sep j hj (.inl q)
  · exact h.sep j hj (.inr (.inl q))
  · rcases hv j q with q2 | q2
    · exact h.sep j hj (.inr (.inr q2))
    · have := (h.m.lt hj).2; omega
theorem St.applyM (h : St w w' gl bl vl gm bm nm vm gc bc nc vc L M N u B5 R) {nm' : Nat} {vm' : Value} {M' : LG} (hc : Led w2 R gm bm nm' vm' M') (hv : ∀ j, vm'.ownBlock = some j → vm.ownBlock = some j ∨ w'.heap.size ≤ j) (hm : Mv (Owns gm bm vm) w' w2) :
    St w w2 gl bl vl gm bm nm' vm' gc bc nc vc L M' N u B5 R := by
  have hcR : ∀ j, Owns gm bm vm j → R ≤ j := fun j hj => (h.m.lt hj).1
  refine ⟨h.l.mv hm (fun j hj hj2 => by have := h.low j hj; have := hcR j hj2; omega), hc, h.c.mv hm (fun j hj hj2 => h.sep j hj2 hj), h.p.mv hm (fun j hj => .inr (hcR j hj)), fun j hj2 hj => ?_, h.low, h.wR, Nat.le_trans h.RS hm.size, mv_below h.bel hm (fun j hj => Nat.le_trans h.wR (hcR j hj)) (Nat.le_trans h.wR h.RS)⟩
  rcases hj2 with q | q | q
  · exact h.sep j (.inl q) hj
  · exact h.sep j (.inr (.inl q)) hj
  · rcases hv j q with q2 | q2
    · exact h.sep j (.inr (.inr q2)) hj
    · have := (h.c.lt hj).2; omega
end
theorem pairs_keys {L : LG} (h : L.Ok) : ∀ x ∈ L.pairsS, 0 ≤ x.f0 ∧ x.f0 ≤ 18446744073709551615 := by
  intro x hx
  have hp := h.pols
  unfold LG.pairsS polsS at hx
  simp only [List.mem_append, List.mem_map, List.mem_singleton, List.mem_range] at hx
  rcases hx with (⟨p, hq, rfl⟩ | ⟨j, hj, rfl⟩) | rfl
  · have := h.ids p hq; simp only [postS]; omega
  · simp only [polS]; omega
  · simp
theorem pairs_one (L : LG) : L.pairsS ≠ [] := fun e => by have := pairsS_len L; rw [e] at this; simp at this
set_option maxHeartbeats 8000000 in
set_option maxRecDepth 100000 in
theorem back_true {w : World} {A0 : Option Addr} {c0 : Nat} {l0 : List RC} (hC : Kd.C kRC w A0 l0.length l0) (hc : l0.length ≤ c0) (hm : l0.length ≤ maxLen) (hg : ∀ r ∈ l0, r.Wf)
    {A1 : Option Addr} {c1 : Nat} {l1 : List RC} (hC1 : Kd.C kRC w A1 l1.length l1) (hc1 : l1.length ≤ c1) (hm1 : l1.length ≤ maxLen) (hg1 : ∀ r ∈ l1, r.Wf) :
    Calls Try.prog 5 #[.slice A0 l0.length c0, .slice A1 l1.length c1] w fun e w' => e = .returned (.bool true) ∧ Below w.heap.size w w' := by
  have HC := Aside0.mk hC
  have HCC := Aside0.mk hc
  have HM := Aside0.mk hm
  have HG := Aside0.mk hg
  have HC1 := Aside0.mk hC1
  have HG1 := Aside0.mk hg1
  have HM1 := Aside0.mk hm1
  have HGD := Aside0.mk (play_good (rs := l0.take 50) (fun r h => hg r (List.mem_of_mem_take h)))
  generalize hLL : play LG.empty (l0.take 50) = L at HGD
  have HLL := Aside0.mk hLL
  clear hC hc hm hg hC1 hc1 hm1 hg1 hLL
  go_enter Try.func5, Try.ntmps5
  go_wp2_with (first
    | (go_at_call 8; refine (played_calls HC.out HCC.out HM.out HG.out).mono ?_; rintro e w1 ⟨gl, bl, vl, rfl, hL, hb⟩; rw [HLL.out] at hL; have HL1 := Aside0.mk hL; have HB1 := Aside0.mk hb; clear hL hb)
    | (go_at_call 9; (with_reducible refine (Pairs_calls HL1.out (by omega)).mono ?_); rintro e w2 ⟨u5, B5, rfl, hs, hp, hb⟩; have HPT := Aside0.mk hp.top; (obtain ⟨A5, c5, e5, hl5, hC5⟩ := hp.top.reads); have HL2 := Aside0.mk (HL1.out.below hb); have HB2 := Aside0.mk (HB1.out.trans (hb.mono HB1.out.size)); have HLW := Aside0.mk (fun j (hj : Owns gl bl vl j) => ((HL1.out.below hb).lt hj).2); have HC5 := Aside0.mk hC5; have HL5 := Aside0.mk hl5; subst e5; clear hs hp hb hl5 hC5)
    | (go_at_call 17; (with_reducible refine (Load_some HC5.out HL5.out (pairs_small HGD.out.ok HL1.out.len (by omega)) (pairs_keys HGD.out.ok) (pairsS_bytes L) (pairs_one L) (load_back HGD.out)).mono ?_); rintro e w3 ⟨gm, bm, vm, rfl, hL, hb⟩; have HM3 := Aside0.mk hL; have HL3 := Aside0.mk (HL2.out.below hb); have HP3 := Aside0.mk (HPT.out.below hb); have HB3 := Aside0.mk (HB2.out.trans (hb.mono HB2.out.size)); have HZ3 := Aside0.mk hb.size; clear hL hb)
    | (go_at_call 18; (with_reducible refine (Copy_calls HL3.out (by omega)).mono ?_); rintro e w4 ⟨gc, bc, vc, rfl, hL, hb⟩; have HS := Aside0.mk (show St w w4 gl bl vl gm bm 200 vm gc bc 200 vc L L L (.slice A5 L.pairsS.length c5) B5 w2.heap.size from ⟨HL3.out.below hb, (HM3.out.below hb).mono (by have := HL1.out.len; have := HGD.out.ok.pols; rw [pairsS_len]; omega), Led.mono ⟨hL.blk, hL.map, own_weaken hL.row HZ3.out, Nat.le_trans HZ3.out hL.gB, Nat.le_trans HZ3.out hL.bB, hL.ok⟩ (by omega), HP3.out.below hb, fun j hj hj2 => by (have := (HM3.out.lt hj).2); (have := (hL.lt hj2).1); omega, HLW.out, HB2.out.size, Nat.le_trans HZ3.out hb.size, HB3.out.trans (hb.mono HB3.out.size)⟩); clear hL hb HL1 HB1 HL2 HB2 HPT HC5 HL5 HM3 HL3 HP3 HB3 HZ3 HLW)
    | (go_at_call 9; (with_reducible refine (Pairs_calls HS.out.m (by omega)).mono ?_); rintro e w6 ⟨u6, B6, rfl, hs, hp, hb⟩; have HQm := Aside0.mk hp.top; have n_ := Aside0.mk (HS.out.below (hb)); clear HS; have HS := n_; clear n_; clear hs hp hb)
    | (go_at_call 12; (obtain ⟨rr, hrr, hcall⟩ := same_calls HQm.out HS.out.p (pairsS_bytes _) (pairsS_bytes _) (pairs_small HGD.out.ok HS.out.l.len (by omega))); (with_reducible refine hcall.mono ?_); obtain rfl := hrr.2 rfl; rintro e w7 ⟨rfl, hd⟩; have n_ := Aside0.mk (HS.out.below (drawn_below hd)); clear HS; have HS := n_; clear n_; clear hd hcall hrr HQm)
    | (go_at_call 9; (with_reducible refine (Pairs_calls HS.out.c (by omega)).mono ?_); rintro e w8 ⟨u8, B8, rfl, hs, hp, hb⟩; have HQc := Aside0.mk hp.top; have n_ := Aside0.mk (HS.out.below (hb)); clear HS; have HS := n_; clear n_; clear hs hp hb)
    | (go_at_call 12; (obtain ⟨rr, hrr, hcall⟩ := same_calls HQc.out HS.out.p (pairsS_bytes _) (pairsS_bytes _) (pairs_small HGD.out.ok HS.out.l.len (by omega))); (with_reducible refine hcall.mono ?_); obtain rfl := hrr.2 rfl; rintro e w9 ⟨rfl, hd⟩; have n_ := Aside0.mk (HS.out.below (drawn_below hd)); clear HS; have HS := n_; clear n_; clear hd hcall hrr HQc)
    | (go_at_call 13; (with_reducible refine (Status_calls HS.out.m).mono ?_); rintro e w10 ⟨rfl, hb⟩; have n_ := Aside0.mk (HS.out.below (hb)); clear HS; have HS := n_; clear n_; clear hb)
    | (go_at_call 13; (with_reducible refine (Status_calls HS.out.l).mono ?_); rintro e w11 ⟨rfl, hb⟩; have n_ := Aside0.mk (HS.out.below (hb)); clear HS; have HS := n_; clear n_; clear hb)
    | (go_at_call 13; (with_reducible refine (Status_calls HS.out.c).mono ?_); rintro e w12 ⟨rfl, hb⟩; have n_ := Aside0.mk (HS.out.below (hb)); clear HS; have HS := n_; clear n_; clear hb))
  generalize w2.heap.size = R at HS
  rename_i wq
  go_loopg [10] 50 (fun kq v10 wr => ∃ (J : Int) (M : LG) (vm' vc' : Value), v10 = .int .i64 J ∧ Aside0 (0 ≤ J ∧ J + kq = 50) ∧ Aside0 (St w wr gl bl vl gm bm (200 + J.toNat) vm' gc bc (200 + J.toNat) vc' L M M (.slice A5 L.pairsS.length c5) B5 R))
  case atStart => exact ⟨0, _, _, _, rfl, ⟨by omega⟩, HS⟩
  case round =>
    clear HS
    obtain ⟨J, M, vm1, vc1, rfl, HJ, HS⟩ := hrel
    by_cases c1 : J < l1.length
    · have c1b : decide (J < (l1.length : Int)) = true := decide_eq_true c1
      by_cases c2 : J < 50
      · have c2b : decide (J < 50) = true := decide_eq_true c2
        have q0 := eq_true HJ.out.1
        have q1 := eq_true c1
        obtain ⟨ad, ea, x0, x1, x2, x3⟩ := at_RC HC1.out J HJ.out.1 c1
        subst ea
        have hj : J.toNat < l1.length := by have := HJ.out; omega
        have hrm : rd_RC l1 J ∈ l1 := by unfold rd_RC; rw [List.getD_eq_getElem?_getD, List.getElem?_eq_getElem hj]; exact List.getElem_mem hj
        have hwf := HG1.out _ hrm
        generalize rd_RC l1 J = r at x0 x1 x2 x3 hwf
        clear hrm hj c1 c2
        obtain ⟨kd, id, ver, text⟩ := r
        have HWF := Aside0.mk hwf
        have hbel := HS.out.bel
        replace x0 := (hbel.cell (World.block_lt_of_cell? w _ x0)).trans x0
        replace x1 := (hbel.cell (World.block_lt_of_cell? w _ x1)).trans x1
        replace x2 := (hbel.cell (World.block_lt_of_cell? w _ x2)).trans x2
        replace x3 := (hbel.cell (World.block_lt_of_cell? w _ x3)).trans x3
        clear hbel hwf
        simp only at x0 x1 x2 x3
        have hjw : wrap64 (J + 1) = J + 1 := by have := HJ.out; unfold wrap64; omega
        have HGB := Aside0.mk (show (∀ j, Owns gc bc vc1 j → j ≠ wr.heap.size) ∧ (∀ j, Owns gm bm vm1 j → j ≠ wr.heap.size) from ⟨fun j hj => by have := (HS.out.c.lt hj).2; omega, fun j hj => by have := (HS.out.m.lt hj).2; omega⟩)
        by_cases c3 : text.size ≤ 300
        · have c3b : decide ((text.size : Int) ≤ 300) = true := decide_eq_true (by omega)
          clear c3
          go_wp2
          have n_ := Aside0.mk (HS.out.below (below_alloc (Below.refl wr.heap.size wr) (.cells #[.int .i64 kd, .int .u64 id, .int .u64 ver, .string text] 26)))
          have BKa := Aside0.mk (blk_new wr (.cells #[.int .i64 kd, .int .u64 id, .int .u64 ver, .string text] 26))
          clear HS x0 x1 x2 x3
          have HS := n_
          clear n_
          generalize wr.alloc (.cells #[.int .i64 kd, .int .u64 id, .int .u64 ver, .string text] 26) = wa at HS BKa ⊢
          generalize wr.heap.size = gb at HGB BKa ⊢
          have HBb := Aside0.mk (Below.refl wa.heap.size wa)
          have HSa := Aside0.mk (show ∀ W, Below wa.heap.size wa W → (W.cell? ⟨gb, 0, none⟩ = some (.int .i64 kd) ∧ W.cell? ⟨gb, 1, none⟩ = some (.int .u64 id) ∧ W.cell? ⟨gb, 2, none⟩ = some (.int .u64 ver) ∧ W.cell? ⟨gb, 3, none⟩ = some (.string text)) from fun W hW => ⟨(blk_cell (blk_below BKa.out hW) 0).trans rfl, (blk_cell (blk_below BKa.out hW) 1).trans rfl, (blk_cell (blk_below BKa.out hW) 2).trans rfl, (blk_cell (blk_below BKa.out hW) 3).trans rfl⟩)
          go_region_held3 (fun W => (W.cell? ⟨gb, 0, none⟩ = some (.int .i64 kd) ∧ W.cell? ⟨gb, 1, none⟩ = some (.int .u64 id) ∧ W.cell? ⟨gb, 2, none⟩ = some (.int .u64 ver) ∧ W.cell? ⟨gb, 3, none⟩ = some (.string text))) ((refine HSa.out _ ?_; repeat (first | exact HBb.out | exact Below.refl _ _ | apply below_drew1 | apply pw_below_drewN | apply below_alloc))) (first
            | (go_at_call 10; (with_reducible refine (Apply_agg (B := R) (g := gc) (b := bc) (n := 200 + J.toNat) (v := vc1) (L := M) ?s1 ?s2 (by have := HJ.out; unfold maxLen; omega) HWF.out).mono ?_); (case s1 => exact (HS.out.below (show Below wa.heap.size wa _ from by repeat (first | exact HBb.out | exact Below.refl _ _ | apply below_drew1 | apply pw_below_drewN | apply below_alloc))).c); (case s2 => exact (HS.out.below (show Below wa.heap.size wa _ from by repeat (first | exact HBb.out | exact Below.refl _ _ | apply below_drew1 | apply pw_below_drewN | apply below_alloc))).RS); rintro e w6 ⟨rfl, ⟨vc2, hL, hv⟩, hmv⟩; have n_ := Aside0.mk ((HS.out.below (show Below wa.heap.size wa _ from by repeat (first | exact HBb.out | exact Below.refl _ _ | apply below_drew1 | apply pw_below_drewN | apply below_alloc))).applyC hL hv hmv); have k_ := Aside0.mk ((hmv.block gb (blk_lt (blk_below BKa.out (show Below wa.heap.size wa _ from by repeat (first | exact HBb.out | exact Below.refl _ _ | apply below_drew1 | apply pw_below_drewN | apply below_alloc)))) (fun hj => HGB.out.1 _ hj rfl)).trans (blk_below BKa.out (show Below wa.heap.size wa _ from by repeat (first | exact HBb.out | exact Below.refl _ _ | apply below_drew1 | apply pw_below_drewN | apply below_alloc)))); clear HS HSa HBb BKa hL hv hmv; have HS := n_; have BKa := k_; clear n_ k_; have HBb := Aside0.mk (Below.refl w6.heap.size w6); have HSa := Aside0.mk (show ∀ W, Below w6.heap.size w6 W → (W.cell? ⟨gb, 0, none⟩ = some (.int .i64 kd) ∧ W.cell? ⟨gb, 1, none⟩ = some (.int .u64 id) ∧ W.cell? ⟨gb, 2, none⟩ = some (.int .u64 ver) ∧ W.cell? ⟨gb, 3, none⟩ = some (.string text)) from fun W hW => ⟨(blk_cell (blk_below BKa.out hW) 0).trans rfl, (blk_cell (blk_below BKa.out hW) 1).trans rfl, (blk_cell (blk_below BKa.out hW) 2).trans rfl, (blk_cell (blk_below BKa.out hW) 3).trans rfl⟩))
            | (go_at_call 10; (with_reducible refine (Apply_agg (B := R) (g := gm) (b := bm) (n := 200 + J.toNat) (v := vm1) (L := M) ?s1 ?s2 (by have := HJ.out; unfold maxLen; omega) HWF.out).mono ?_); (case s1 => exact (HS.out.below (show Below w6.heap.size w6 _ from by repeat (first | exact HBb.out | exact Below.refl _ _ | apply below_drew1 | apply pw_below_drewN | apply below_alloc))).m); (case s2 => exact (HS.out.below (show Below w6.heap.size w6 _ from by repeat (first | exact HBb.out | exact Below.refl _ _ | apply below_drew1 | apply pw_below_drewN | apply below_alloc))).RS); rintro e w7 ⟨rfl, ⟨vm2, hL, hv⟩, hmv⟩; have n_ := Aside0.mk ((HS.out.below (show Below w6.heap.size w6 _ from by repeat (first | exact HBb.out | exact Below.refl _ _ | apply below_drew1 | apply pw_below_drewN | apply below_alloc))).applyM hL hv hmv); have k_ := Aside0.mk ((hmv.block gb (blk_lt (blk_below BKa.out (show Below w6.heap.size w6 _ from by repeat (first | exact HBb.out | exact Below.refl _ _ | apply below_drew1 | apply pw_below_drewN | apply below_alloc)))) (fun hj => HGB.out.2 _ hj rfl)).trans (blk_below BKa.out (show Below w6.heap.size w6 _ from by repeat (first | exact HBb.out | exact Below.refl _ _ | apply below_drew1 | apply pw_below_drewN | apply below_alloc)))); clear HS HSa HBb BKa hL hv hmv; have HS := n_; have BKa := k_; clear n_ k_; have HBb := Aside0.mk (Below.refl w7.heap.size w7); have HSa := Aside0.mk (show ∀ W, Below w7.heap.size w7 W → (W.cell? ⟨gb, 0, none⟩ = some (.int .i64 kd) ∧ W.cell? ⟨gb, 1, none⟩ = some (.int .u64 id) ∧ W.cell? ⟨gb, 2, none⟩ = some (.int .u64 ver) ∧ W.cell? ⟨gb, 3, none⟩ = some (.string text)) from fun W hW => ⟨(blk_cell (blk_below BKa.out hW) 0).trans rfl, (blk_cell (blk_below BKa.out hW) 1).trans rfl, (blk_cell (blk_below BKa.out hW) 2).trans rfl, (blk_cell (blk_below BKa.out hW) 3).trans rfl⟩)))
          go_wp2
          go_roundg (gk - 1)
          case measure => have := HJ.out; have := of_decide_eq_true c2b; omega
          case rel =>
            have hJ := HJ.out
            have hJ2 := of_decide_eq_true c2b
            have e1 : 200 + (J + 1).toNat = 200 + J.toNat + 1 := by omega
            have hs := HS.out
            rw [← e1] at hs
            exact ⟨J + 1, _, _, _, by rw [hjw], ⟨by omega⟩, ⟨hs⟩⟩
        · have c3b : decide ((text.size : Int) ≤ 300) = false := decide_eq_false (by omega)
          clear c3
          go_wp2
          have n_ := Aside0.mk (HS.out.below (below_alloc (Below.refl wr.heap.size wr) (.cells #[.int .i64 kd, .int .u64 id, .int .u64 ver, .string text] 26)))
          have BKa := Aside0.mk (blk_new wr (.cells #[.int .i64 kd, .int .u64 id, .int .u64 ver, .string text] 26))
          clear HS x0 x1 x2 x3
          have HS := n_
          clear n_
          generalize wr.alloc (.cells #[.int .i64 kd, .int .u64 id, .int .u64 ver, .string text] 26) = wa at HS BKa ⊢
          generalize wr.heap.size = gb at HGB BKa ⊢
          have y0 : wa.cell? ⟨gb, 0, none⟩ = some (.int .i64 kd) := (blk_cell BKa.out 0).trans rfl
          have y1 : wa.cell? ⟨gb, 1, none⟩ = some (.int .u64 id) := (blk_cell BKa.out 1).trans rfl
          have y2 : wa.cell? ⟨gb, 2, none⟩ = some (.int .u64 ver) := (blk_cell BKa.out 2).trans rfl
          have y3 : wa.cell? ⟨gb, 3, none⟩ = some (.string text) := (blk_cell BKa.out 3).trans rfl
          go_quiet (fail)
          go_wp2
          go_roundg (gk - 1)
          case measure => have := HJ.out; have := of_decide_eq_true c2b; omega
          case rel =>
            have hJ := HJ.out
            have hJ2 := of_decide_eq_true c2b
            have e1 : 200 + (J + 1).toNat = 200 + J.toNat + 1 := by omega
            have hs := (HS.out.below (pw_below_drewN (Below.refl _ _) nq)).more (n := 200 + (J + 1).toNat) (by omega) (by omega)
            exact ⟨J + 1, _, _, _, by rw [hjw], ⟨by omega⟩, ⟨hs⟩⟩
      · have c2b : decide (J < 50) = false := decide_eq_false c2
        clear c1 c2
        go_wp2_with (go_at_call 9; refine (Pairs_calls HS.out.l (by omega)).mono ?_; rintro e w8 ⟨u8, B8, rfl, hs, hp, hb⟩; (obtain ⟨g8, c8, e8, hg8, hrows⟩ := prow_rows hp (List.length_pos_iff.2 (pairs_one L))); subst e8; have HRW := Aside0.mk hrows; have HB8 := Aside0.mk hb; have HS8 := Aside0.mk hs; clear hs hp hb hrows)
        go_loopg [13] L.pairsS.length (fun kq v13 wx => ∃ I : Int, v13 = .int .i64 I ∧ Aside0 (0 ≤ I ∧ I + kq = (L.pairsS.length : Int)) ∧ Aside0 (Sp B8 g8 w8 wx))
        case atStart => exact ⟨0, rfl, ⟨by omega⟩, ⟨Sp.refl _ _ _⟩⟩
        case round =>
          rename_i wx
          obtain ⟨I, rfl, HI, HSP⟩ := hrel
          obtain ⟨gko, rfl⟩ : ∃ gko, gko = gk := ⟨_, rfl⟩
          by_cases d1 : I < (L.pairsS.length : Int)
          · have d1b : decide (I < (L.pairsS.length : Int)) = true := decide_eq_true d1
            have q0 := eq_true HI.out.1
            have q1 := eq_true d1
            obtain ⟨A, n, c', hcell, hmax, hin⟩ := HRW.out I.toNat (by have := HI.out; omega)
            have HCELL := Aside0.mk hcell
            have HIN := Aside0.mk hin
            have HMX := Aside0.mk hmax
            have hiw : wrap64 (I + 1) = I + 1 := by have := HI.out; have := pairs_small HGD.out.ok HS.out.l.len (by omega); unfold wrap64; omega
            clear hcell hin hmax d1
            go_wp2
            go_loopg [14] n (fun kq v14 wy => ∃ K : Int, v14 = .int .i64 K ∧ Aside0 (0 ≤ K ∧ K + kq = (n : Int)) ∧ Aside0 (Sp B8 g8 w8 wy))
            case atStart => exact ⟨0, rfl, ⟨by omega⟩, HSP⟩
            case round =>
              rename_i wy
              clear HSP
              obtain ⟨K, rfl, HK, HSQ⟩ := hrel
              have hc' := (World.cell?_of_block (a := ⟨g8, I.toNat * 2 + 1, none⟩) HSQ.out.outer).trans HCELL.out
              by_cases d2 : K < (n : Int)
              · have d2b : decide (K < (n : Int)) = true := decide_eq_true d2
                have q2 := eq_true HK.out.1
                have q3 := eq_true d2
                obtain ⟨a, rfl, hB, hne, hk⟩ := HIN.out (by have := HK.out; omega)
                obtain ⟨⟨x, hx⟩, hfz⟩ := hk K.toNat (by have := HK.out; omega)
                obtain ⟨x', hx'⟩ := HSQ.out.cells _ _ hx
                have hfz' := (HSQ.out.frozen _).trans hfz
                have hkw : wrap64 (K + 1) = K + 1 := by have := HK.out; have := HMX.out; unfold wrap64; omega
                have HSN := Aside0.mk (HSQ.out.set (p := a.add K.toNat) (by rw [Go.Proofs.YtjfkenjmjoncbaaW.PrintWords.add_block]; exact ⟨hB, hne⟩) (.int .u8 9))
                clear hk hx hfz d2
                go_wp2
                go_roundg (gk - 1)
                case measure => have := HK.out; have := of_decide_eq_true d2b; omega
                case rel =>
                  have hK := HK.out
                  have hK2 := of_decide_eq_true d2b
                  exact ⟨K + 1, by rw [hkw], ⟨by omega⟩, HSN⟩
              · have d2b : decide (K < (n : Int)) = false := decide_eq_false d2
                go_wp2
                go_roundg (gko - 1)
                case measure => have := HI.out; have := of_decide_eq_true d1b; omega
                case rel =>
                  have hI := HI.out
                  have hI2 := of_decide_eq_true d1b
                  exact ⟨I + 1, by first | rfl | rw [hiw], ⟨by omega⟩, HSQ⟩
          · have d1b : decide (I < (L.pairsS.length : Int)) = false := decide_eq_false d1
            have n_ := Aside0.mk (HS.out.below (HB8.out.trans (HSP.out.below.mono HS8.out)))
            clear HS
            have HS := n_
            clear n_
            go_wp2_with (first
              | (go_at_call 11; refine (alive_calls _).mono ?_; rintro e w9 ⟨rfl, hb⟩; have n_ := Aside0.mk (HS.out.below (hb)); clear HS; have HS := n_; clear n_; clear hb)
              | (go_at_call 9; (with_reducible refine (Pairs_calls HS.out.l (by omega)).mono ?_); rintro e w10 ⟨u10, B10, rfl, hs, hp, hb⟩; have HQl := Aside0.mk hp.top; have n_ := Aside0.mk (HS.out.below (hb)); clear HS; have HS := n_; clear n_; clear hs hp hb)
              | (go_at_call 12; (obtain ⟨rr, hrr, hcall⟩ := same_calls HQl.out HS.out.p (pairsS_bytes _) (pairsS_bytes _) (pairs_small HGD.out.ok HS.out.l.len (by omega))); (with_reducible refine hcall.mono ?_); obtain rfl := hrr.2 rfl; rintro e w11 ⟨rfl, hd⟩; have n_ := Aside0.mk (HS.out.below (drawn_below hd)); clear HS; have HS := n_; clear n_; clear hd hcall hrr HQl)
              | (go_at_call 9; (with_reducible refine (Pairs_calls HS.out.c (by have := HJ.out; omega)).mono ?_); rintro e w12 ⟨u12, B12, rfl, hs, hp, hb⟩; have HQc := Aside0.mk hp.top; have n_ := Aside0.mk (HS.out.below (hb)); clear HS; have HS := n_; clear n_; clear hs hp hb)
              | (go_at_call 9; (with_reducible refine (Pairs_calls HS.out.m (by have := HJ.out; omega)).mono ?_); rintro e w13 ⟨u13, B13, rfl, hs, hp, hb⟩; have HQm := Aside0.mk hp.top; have HQd := Aside0.mk (HQc.out.below hb); have n_ := Aside0.mk (HS.out.below (hb)); clear HS; have HS := n_; clear n_; clear hs hp hb HQc)
              | (go_at_call 12; (obtain ⟨rr, hrr, hcall⟩ := same_calls HQd.out HQm.out (pairsS_bytes _) (pairsS_bytes _) (pairs_small HS.out.c.ok HS.out.c.len (by have := HJ.out; omega))); (with_reducible refine hcall.mono ?_); obtain rfl := hrr.2 rfl; rintro e w14 ⟨rfl, hd⟩; have n_ := Aside0.mk (HS.out.below (drawn_below hd)); clear HS; have HS := n_; clear n_; clear hd hcall hrr))
            go_ret
            exact ⟨rfl, HS.out.bel⟩
    · have c1b : decide (J < (l1.length : Int)) = false := decide_eq_false c1
      clear c1
      go_wp2_with (go_at_call 9; refine (Pairs_calls HS.out.l (by omega)).mono ?_; rintro e w8 ⟨u8, B8, rfl, hs, hp, hb⟩; (obtain ⟨g8, c8, e8, hg8, hrows⟩ := prow_rows hp (List.length_pos_iff.2 (pairs_one L))); subst e8; have HRW := Aside0.mk hrows; have HB8 := Aside0.mk hb; have HS8 := Aside0.mk hs; clear hs hp hb hrows)
      go_loopg [13] L.pairsS.length (fun kq v13 wx => ∃ I : Int, v13 = .int .i64 I ∧ Aside0 (0 ≤ I ∧ I + kq = (L.pairsS.length : Int)) ∧ Aside0 (Sp B8 g8 w8 wx))
      case atStart => exact ⟨0, rfl, ⟨by omega⟩, ⟨Sp.refl _ _ _⟩⟩
      case round =>
        rename_i wx
        obtain ⟨I, rfl, HI, HSP⟩ := hrel
        obtain ⟨gko, rfl⟩ : ∃ gko, gko = gk := ⟨_, rfl⟩
        by_cases d1 : I < (L.pairsS.length : Int)
        · have d1b : decide (I < (L.pairsS.length : Int)) = true := decide_eq_true d1
          have q0 := eq_true HI.out.1
          have q1 := eq_true d1
          obtain ⟨A, n, c', hcell, hmax, hin⟩ := HRW.out I.toNat (by have := HI.out; omega)
          have HCELL := Aside0.mk hcell
          have HIN := Aside0.mk hin
          have HMX := Aside0.mk hmax
          have hiw : wrap64 (I + 1) = I + 1 := by have := HI.out; have := pairs_small HGD.out.ok HS.out.l.len (by omega); unfold wrap64; omega
          clear hcell hin hmax d1
          go_wp2
          go_loopg [14] n (fun kq v14 wy => ∃ K : Int, v14 = .int .i64 K ∧ Aside0 (0 ≤ K ∧ K + kq = (n : Int)) ∧ Aside0 (Sp B8 g8 w8 wy))
          case atStart => exact ⟨0, rfl, ⟨by omega⟩, HSP⟩
          case round =>
            rename_i wy
            clear HSP
            obtain ⟨K, rfl, HK, HSQ⟩ := hrel
            have hc' := (World.cell?_of_block (a := ⟨g8, I.toNat * 2 + 1, none⟩) HSQ.out.outer).trans HCELL.out
            by_cases d2 : K < (n : Int)
            · have d2b : decide (K < (n : Int)) = true := decide_eq_true d2
              have q2 := eq_true HK.out.1
              have q3 := eq_true d2
              obtain ⟨a, rfl, hB, hne, hk⟩ := HIN.out (by have := HK.out; omega)
              obtain ⟨⟨x, hx⟩, hfz⟩ := hk K.toNat (by have := HK.out; omega)
              obtain ⟨x', hx'⟩ := HSQ.out.cells _ _ hx
              have hfz' := (HSQ.out.frozen _).trans hfz
              have hkw : wrap64 (K + 1) = K + 1 := by have := HK.out; have := HMX.out; unfold wrap64; omega
              have HSN := Aside0.mk (HSQ.out.set (p := a.add K.toNat) (by rw [Go.Proofs.YtjfkenjmjoncbaaW.PrintWords.add_block]; exact ⟨hB, hne⟩) (.int .u8 9))
              clear hk hx hfz d2
              go_wp2
              go_roundg (gk - 1)
              case measure => have := HK.out; have := of_decide_eq_true d2b; omega
              case rel =>
                have hK := HK.out
                have hK2 := of_decide_eq_true d2b
                exact ⟨K + 1, by rw [hkw], ⟨by omega⟩, HSN⟩
            · have d2b : decide (K < (n : Int)) = false := decide_eq_false d2
              go_wp2
              go_roundg (gko - 1)
              case measure => have := HI.out; have := of_decide_eq_true d1b; omega
              case rel =>
                have hI := HI.out
                have hI2 := of_decide_eq_true d1b
                exact ⟨I + 1, by first | rfl | rw [hiw], ⟨by omega⟩, HSQ⟩
        · have d1b : decide (I < (L.pairsS.length : Int)) = false := decide_eq_false d1
          have n_ := Aside0.mk (HS.out.below (HB8.out.trans (HSP.out.below.mono HS8.out)))
          clear HS
          have HS := n_
          clear n_
          go_wp2_with (first
            | (go_at_call 11; refine (alive_calls _).mono ?_; rintro e w9 ⟨rfl, hb⟩; have n_ := Aside0.mk (HS.out.below (hb)); clear HS; have HS := n_; clear n_; clear hb)
            | (go_at_call 9; (with_reducible refine (Pairs_calls HS.out.l (by omega)).mono ?_); rintro e w10 ⟨u10, B10, rfl, hs, hp, hb⟩; have HQl := Aside0.mk hp.top; have n_ := Aside0.mk (HS.out.below (hb)); clear HS; have HS := n_; clear n_; clear hs hp hb)
            | (go_at_call 12; (obtain ⟨rr, hrr, hcall⟩ := same_calls HQl.out HS.out.p (pairsS_bytes _) (pairsS_bytes _) (pairs_small HGD.out.ok HS.out.l.len (by omega))); (with_reducible refine hcall.mono ?_); obtain rfl := hrr.2 rfl; rintro e w11 ⟨rfl, hd⟩; have n_ := Aside0.mk (HS.out.below (drawn_below hd)); clear HS; have HS := n_; clear n_; clear hd hcall hrr HQl)
            | (go_at_call 9; (with_reducible refine (Pairs_calls HS.out.c (by have := HJ.out; omega)).mono ?_); rintro e w12 ⟨u12, B12, rfl, hs, hp, hb⟩; have HQc := Aside0.mk hp.top; have n_ := Aside0.mk (HS.out.below (hb)); clear HS; have HS := n_; clear n_; clear hs hp hb)
            | (go_at_call 9; (with_reducible refine (Pairs_calls HS.out.m (by have := HJ.out; omega)).mono ?_); rintro e w13 ⟨u13, B13, rfl, hs, hp, hb⟩; have HQm := Aside0.mk hp.top; have HQd := Aside0.mk (HQc.out.below hb); have n_ := Aside0.mk (HS.out.below (hb)); clear HS; have HS := n_; clear n_; clear hs hp hb HQc)
            | (go_at_call 12; (obtain ⟨rr, hrr, hcall⟩ := same_calls HQd.out HQm.out (pairsS_bytes _) (pairsS_bytes _) (pairs_small HS.out.c.ok HS.out.c.len (by have := HJ.out; omega))); (with_reducible refine hcall.mono ?_); obtain rfl := hrr.2 rfl; rintro e w14 ⟨rfl, hd⟩; have n_ := Aside0.mk (HS.out.below (drawn_below hd)); clear HS; have HS := n_; clear n_; clear hd hcall hrr))
          go_ret
          exact ⟨rfl, HS.out.bel⟩
end Go.Proofs.Ytjfkenjmjoncbaa.Lg
