import Derived.Test.YtjfkenjmjoncbaaPAllx0
import Derived.Test.YtjfkenjmjoncbaaLgApply
import Derived.Test.YtjfkenjmjoncbaaShelf31
import Derived.Deep.RegionHeld3
namespace Go.Proofs.Ytjfkenjmjoncbaa.Lg
open Go Go.Maps Go.WideShapes Go.RowKit Go.Proofs.Ytjfkenjmjoncbaa.PAll Go.Proofs.YtjfkenjmjoncbaaW.PrintWords Go.Proofs.YtjfkenjmjoncbaaW.PrintLast Go.Proofs.YtjfkenjmjoncbaaW.PrintMore
set_option linter.unusedVariables false
set_option linter.unusedSimpArgs false

/-! ### Copy -/
theorem rise_ext : ∀ {a b : List LP}, Rise a → Rise b → (∀ q, q ∈ a ↔ q ∈ b) → a = b
  | [], [], _, _, _ => rfl
  | [], y :: b, _, _, h => absurd ((h y).2 (List.mem_cons_self ..)) (by simp)
  | x :: a, [], _, _, h => absurd ((h x).1 (List.mem_cons_self ..)) (by simp)
  | x :: a, y :: b, ha, hb, h => by
    obtain ⟨a1, a2⟩ := List.pairwise_cons.1 ha
    obtain ⟨b1, b2⟩ := List.pairwise_cons.1 hb
    have e : x = y := by
      rcases List.mem_cons.1 ((h x).1 (List.mem_cons_self ..)) with e | hx
      · exact e
      · rcases List.mem_cons.1 ((h y).2 (List.mem_cons_self ..)) with e | hy
        · exact e.symm
        · have := b1 x hx
          have := a1 y hy
          omega
    subst e
    rw [rise_ext a2 b2 (fun q => ?_)]
    constructor
    · intro hq
      rcases List.mem_cons.1 ((h q).1 (List.mem_cons_of_mem _ hq)) with e | h2
      · have := a1 q hq; rw [e] at this; omega
      · exact h2
    · intro hq
      rcases List.mem_cons.1 ((h q).2 (List.mem_cons_of_mem _ hq)) with e | h2
      · have := b1 q hq; rw [e] at this; omega
      · exact h2
structure CopyInv (L : LG) (left : Lit → Bool) (M : List LP) : Prop where
  rise : Rise M
  mem : ∀ q, q ∈ M ↔ (q ∈ L.posts ∧ left (.int .u64 q.id) = false)
theorem copy_start (L : LG) : CopyInv L (Maps.has (mapD L.posts)) [] := by
  refine ⟨List.Pairwise.nil, fun q => ⟨fun h => by simp at h, fun ⟨hq, h⟩ => ?_⟩⟩
  rw [mapD_has, List.any_eq_false] at h
  exact absurd (by simp) (h q hq)
theorem copy_step {L : LG} (hL : L.Ok) {left : Lit → Bool} {M : List LP} (h : CopyInv L left M) {p : LP} (hp : p ∈ L.posts) : CopyInv L (fun z => left z && !z.sameKey (.int .u64 p.id)) (setP M p) := by
  refine ⟨setP_rise h.rise p, fun q => ?_⟩
  simp only [same_u64]
  rw [mem_setP, h.mem]
  by_cases c : q.id = p.id
  · simp only [c, ne_eq, not_true_eq_false, and_false, or_false, decide_true, Bool.not_true, Bool.and_false, and_true]
    exact ⟨fun e => e ▸ hp, fun hq => hL.rise.uniq hq hp c⟩
  · have hne : q ≠ p := fun e => c (by rw [e])
    simp [c, hne]
theorem copy_end {L : LG} (hL : L.Ok) {left : Lit → Bool} {M : List LP} (h : CopyInv L left M) (hl : ∀ kl, left kl = false) : M = L.posts :=
  rise_ext h.rise hL.rise (fun q => by rw [h.mem, hl]; simp)
theorem copy_ok {L : LG} (hL : L.Ok) {left : Lit → Bool} {M : List LP} (h : CopyInv L left M) : (⟨M, [], 1, 0⟩ : LG).Ok :=
  ⟨h.rise, fun p hp => hL.ids p ((h.mem p).1 hp).1, fun p hp => hL.vers p ((h.mem p).1 hp).1, by simp, by simp, by simp, fun p hp => hL.texts p ((h.mem p).1 hp).1, by simp⟩
/-- slices.Clone (31), of the policies' row -/
theorem Clone_calls {w : World} {B g b n : Nat} {v : Value} {L : LG} (h : Led w B g b n v L) : Calls Try.prog 31 #[v] w fun e w' => ∃ u, e = .returned u ∧ w'.ownsRow w.heap.size 9 1 u L.pols.length (L.pols.map Value.string) ∧ Below w.heap.size w w' := by
  have hp := h.ok.pols
  rcases h.row.2 with ⟨rfl, e⟩ | ⟨g', cap, cur, rfl, hb, hg, h1, h2, h3, h4⟩
  · have e0 := List.length_eq_zero_iff.1 e
    refine (clone_str_nil 0 0 w).mono fun e w' ⟨he, hw⟩ => ⟨_, he, ?_, ?_⟩
    · rw [e0]; exact World.ownsRow_nil _ _ _ _
    · rw [hw]; exact Below.refl _ _
  · by_cases c : L.pols.length = 0
    · have e0 := List.length_eq_zero_iff.1 c
      rw [c]
      refine (clone_str_zero ⟨g', 0, none⟩ cap w).mono fun e w' ⟨v', he, ho, _, hb⟩ => ⟨_, he, ?_, hb⟩
      rw [e0]
      exact ho
    · refine (clone_str g' 0 L.pols.length cap L.pols w (Nat.le_refl _) (by omega) (fun j hj => ?_)).mono fun e w' ⟨v', he, ho, _, hb⟩ => ⟨_, he, ?_, hb⟩
      · have h5 : (cur.toList.take (L.pols.length * 1))[j]? = (L.pols.map Value.string)[j]? := by rw [h4]
        rw [Nat.mul_one, List.getElem?_take_of_lt hj] at h5
        rw [Nat.zero_add, blk_cell hg, ← Array.getElem?_toList, h5]
        simp [hj]
      · rw [List.take_length] at ho
        exact ho
set_option maxHeartbeats 8000000 in
set_option maxRecDepth 100000 in
/-- Copy (18) -/
theorem Copy_calls {w : World} {B g b n : Nat} {v : Value} {L : LG} (h : Led w B g b n v L) (hn : n ≤ 1000000) :
    Calls Try.prog 18 #[.pointer (some ⟨g, 0, none⟩)] w fun e w' => ∃ g' b' v', e = .returned (.pointer (some ⟨g', 0, none⟩)) ∧ Led w' w.heap.size g' b' n v' L ∧ Below w.heap.size w w' := by
  obtain ⟨⟨h0, h1, h2, h3⟩, hf⟩ := h.cells
  have hgl : g < w.heap.size := (h.lt (.inl rfl)).2
  have hbl := Aside0.mk (h.lt (.inr (.inl rfl))).2
  have hok := Aside0.mk h.ok
  have hlen := Aside0.mk h.len
  have HN := Aside0.mk hn
  have HH := Aside0.mk h
  clear h hn
  go_enter Try.func18, Try.ntmps18
  go_wp2_with (first
    | (go_at_call 23; refine (New_calls _).mono ?_; rintro e w1 ⟨gC, bC, rfl, hL, hb⟩; have HC1 := Aside0.mk hL; have HB1 := Aside0.mk hb; have HL1 := Aside0.mk (HH.out.below hb); clear h0 h1 h2 h3 hf; (obtain ⟨⟨h0, h1, h2, h3⟩, hf⟩ := HL1.out.cells); clear hL hb)
    | (at_range; refine wpList_range_own _ rfl _ 67 rfl 24 42 law24 Try.underlying67 _ b n _ rfl HL1.out.map ?_; intro w0 hrg0 hg0 hs0))
  go_frame
  have X0 := Aside0.mk hrg0
  have XB := Aside0.mk (HB1.out.grown hg0 HB1.out.size (fun j hj => by cases hj))
  have XC := Aside0.mk (HC1.out.mv (S := fun _ => False) (.of_grown hg0 (fun j hj => by cases hj)) (fun _ _ q => q))
  have XL := Aside0.mk (fun j (hj : Owns gC bC (.slice none 0 0) j) => HC1.out.lt hj)
  have XS := Aside0.mk (show w1.heap.size < w0.heap.size by omega)
  have XZ := Aside0.mk HB1.out.size
  clear hrg0 hg0 hs0 h0 h1 h2 h3 hf
  generalize w1.heap.size = R at X0 XL XS XZ ⊢
  go_loopw [4, 5] (fun v4 v5 wr => ∃ (left : Lit → Bool) (cnt k : Nat) (M : List LP), Aside0 (wr.ranges Try.prog 24 postR b R n (mapD L.posts) left cnt) ∧ Aside0 (k + cnt ≤ L.posts.length) ∧ Aside0 (Led wr w.heap.size gC bC k (.slice none 0 0) ⟨M, [], 1, 0⟩) ∧ Aside0 (CopyInv L left M) ∧
      Aside0 (Below w.heap.size w wr) ∧ Aside0 (R < wr.heap.size))
    (fun _ _ wr => wr.rangeLeft b R)
  case atStart => exact ⟨_, _, 0, [], X0, ⟨by rw [mapD_size]; omega⟩, XC, ⟨copy_start L⟩, XB, XS⟩
  case round =>
    clear X0 XB XC XS HC1 HL1
    obtain ⟨left, cnt, k, M, hrg, hcs, hC, hI, hB, hsz⟩ := hrel
    go_wp2_with (at_next; refine wp_next _ rfl _ rfl b R n _ _ rfl hrg.out ?_ ?_)
    · intro hc0 hl0
      have hM := copy_end hok.out hI.out hl0
      subst hM
      clear hl0 hc0
      have HLr := Aside0.mk (HH.out.below hB.out)
      have HBc := Aside0.mk (Below.refl wr.heap.size wr)
      have HNE := Aside0.mk (HLr.out.ne)
      have HZC := Aside0.mk (show ∀ j, Owns gC bC (.slice none 0 0) j → j < wr.heap.size from fun j hj => by have := (XL.out j hj).2; have := hsz.out; omega)
      have HSa := Aside0.mk (show ∀ W, Below wr.heap.size wr W → (W.cell? ⟨g, 1, none⟩ = some v ∧ W.cell? ⟨g, 2, none⟩ = some (.int .u64 L.next) ∧ W.cell? ⟨g, 3, none⟩ = some (.int .u64 L.cur)) from fun W hW => ⟨(HLr.out.below hW).cells.1.2.1, (HLr.out.below hW).cells.1.2.2.1, (HLr.out.below hW).cells.1.2.2.2⟩)
      have HKp := Aside0.mk (show ∀ (W : World) (i : Nat) (u : Value), (W.cell? ⟨g, 1, none⟩ = some v ∧ W.cell? ⟨g, 2, none⟩ = some (.int .u64 L.next) ∧ W.cell? ⟨g, 3, none⟩ = some (.int .u64 L.cur)) → ((W.setCell ⟨gC, i, none⟩ u).cell? ⟨g, 1, none⟩ = some v ∧ (W.setCell ⟨gC, i, none⟩ u).cell? ⟨g, 2, none⟩ = some (.int .u64 L.next) ∧ (W.setCell ⟨gC, i, none⟩ u).cell? ⟨g, 3, none⟩ = some (.int .u64 L.cur)) from fun W i u hW => by
        have hne : g ≠ gC := by have := hC.out.gB; omega
        have hb := Below.heap_setCell W ⟨gC, i, none⟩ u g hne
        exact ⟨(World.cell?_of_block hb).trans hW.1, (World.cell?_of_block hb).trans hW.2.1, (World.cell?_of_block hb).trans hW.2.2⟩)
      go_wp2
      go_region_held3 (fun W => W.cell? ⟨g, 1, none⟩ = some v ∧ W.cell? ⟨g, 2, none⟩ = some (.int .u64 L.next) ∧ W.cell? ⟨g, 3, none⟩ = some (.int .u64 L.cur)) ((first | (repeat (refine HKp.out _ _ _ ?_)); refine HSa.out _ ?_; repeat (first | exact HBc.out | exact Below.refl _ _ | apply below_drew1 | apply pw_below_drewN | apply below_alloc))) (first
        | (go_at_call 31; refine (Clone_calls (HLr.out.below (show Below wr.heap.size wr _ from by repeat (first | exact HBc.out | exact Below.refl _ _ | apply below_drew1 | apply pw_below_drewN | apply below_alloc)))).mono ?_; rintro e w9 ⟨u9, rfl, ho9, hb9⟩; have HR9 := Aside0.mk (show Kd.string.R 9 w9 wr.heap.size (fun _ => True) u9 L.pols from Kd.R_of_own ho9 (fun _ _ => trivial)); obtain ⟨A9, c9, e9⟩ := Kd.R_slice HR9.out; subst e9; have n0_ := Aside0.mk ((show Below wr.heap.size wr _ from by repeat (first | exact HBc.out | exact Below.refl _ _ | apply below_drew1 | apply pw_below_drewN | apply below_alloc)).trans hb9); clear HBc; have HBc := n0_; have HC9 := Aside0.mk (hC.out.below HBc.out); have x1 : w9.cell? ⟨gC, 1, none⟩ = some (.slice none 0 0) := HC9.out.cells.1.2.1; have x2 : w9.cell? ⟨gC, 2, none⟩ = some (.int .u64 1) := HC9.out.cells.1.2.2.1; have x3 : w9.cell? ⟨gC, 3, none⟩ = some (.int .u64 0) := HC9.out.cells.1.2.2.2; have y1 : w9.frozen? ⟨gC, 1, none⟩ = false := HC9.out.cells.2 1; have y2 : w9.frozen? ⟨gC, 2, none⟩ = false := HC9.out.cells.2 2; have y3 : w9.frozen? ⟨gC, 3, none⟩ = false := HC9.out.cells.2 3; clear n0_ ho9 hb9))
      go_wp2
      go_ret
      have m9 : Mv (fun j => j = gC) w9 (((w9.setCell ⟨gC, 1, none⟩ (.slice A9 L.pols.length c9)).setCell ⟨gC, 2, none⟩ (.int .u64 L.next)).setCell ⟨gC, 3, none⟩ (.int .u64 L.cur)) :=
        ((Mv.set (S := fun j => j = gC) _ rfl).trans (.set (S := fun j => j = gC) _ rfl) (S' := fun j => j = gC) (fun j hj => .inl hj)).trans (.set (S := fun j => j = gC) _ rfl) (S' := fun j => j = gC) (fun j hj => .inl hj)
      have hb9 := hB.out.trans (HBc.out.mono hB.out.size)
      have hfin : Led (((w9.setCell ⟨gC, 1, none⟩ (.slice A9 L.pols.length c9)).setCell ⟨gC, 2, none⟩ (.int .u64 L.next)).setCell ⟨gC, 3, none⟩ (.int .u64 L.cur)) w.heap.size gC bC n (.slice A9 L.pols.length c9) L := by
        refine ⟨blk_set (blk_set (blk_set HC9.out.blk 1 (.slice A9 L.pols.length c9)) 2 (.int .u64 L.next)) 3 (.int .u64 L.cur), (map_mv HC9.out.map m9 (fun e => HC9.out.ne.1 e.symm)).mono (by have := hcs.out; have := hlen.out; omega), ?_, HC9.out.gB, HC9.out.bB, hok.out⟩
        refine own_mv (own_weaken (Kd.own_of_R HR9.out) hB.out.size) m9 (fun j hj e => ?_)
        have h1 := Kd.R_base HR9.out j hj
        have h2 := HZC.out gC (.inl rfl)
        omega
      exact ⟨gC, bC, _, rfl, hfin, mv_below hb9 m9 (fun j hj => by rw [hj]; exact HC9.out.gB) hb9.size⟩
    · intro p w2 cnt2 hp hlk hrg2 hlt hg2 hs2 hen
      have HC2 := Aside0.mk (hC.out.grown hg2 (fun j hj => by have := XL.out j hj; omega))
      have HR2 := Aside0.mk hrg2
      have HB2 := Aside0.mk (hB.out.grown hg2 hB.out.size (fun j hj => by cases hj; exact XZ.out))
      have HS2 := Aside0.mk (show R < w2.heap.size by have := hsz.out; omega)
      have HI2 := Aside0.mk (copy_step hok.out hI.out hp)
      have HK2 := Aside0.mk (show k + 1 + cnt2 ≤ L.posts.length by have := hcs.out; omega)
      have HKM := Aside0.mk (show k < maxLen by have := hcs.out; have := hlen.out; have := HN.out; unfold maxLen; omega)
      have hk := Aside0.mk (keyOf_int_mk Try.underlying24 (wf64 (x := p.id) (by have := hok.out.ids p hp; omega)))
      obtain ⟨⟨h0, h1, h2, h3⟩, hf⟩ := HC2.out.cells
      have hgl2 : gC < w2.heap.size := (HC2.out.lt (.inl rfl)).2
      clear hs2 hg2 hrg2 hC hB hsz hcs hlk hp
      go_wp2
      refine region_tail 6 (by kernel_rfl) (by kernel_rfl) ?_
      simp only [List.take_succ_cons, List.take_zero, List.drop_succ_cons, List.drop_zero]
      repeat still_step
      refine wpStill_nil ?_
      have HM := Aside0.mk (show (w2.alloc (.cells #[.int .u64 p.id, .int .u64 p.ver, .string p.text] 42)).drew.ownsMap Try.prog 24 postR bC k (mapD M) from (HC2.out.map.alloc _).drew)
      go_wp2_with (at_mapUpdate; refine wpList_mapUpdate_own _ rfl _ _ _ 67 rfl 24 42 law24 Try.underlying67 _ bC k _ rfl HM.out HKM.out _ _ _ rfl rfl hk.out (pd ⟨p.id, p.ver, p.text⟩) [] (postR_mk ⟨p.id, p.ver, p.text⟩) ?_; intro w6 hown6 hg6; have HO6 := Aside0.mk hown6; have HG6 := Aside0.mk hg6; clear hown6 hg6; go_frame)
      have m26 : Mv (fun j => j = bC) w2 w6 := (Mv.of_below (below_alloc (Below.refl _ _) _).drew).trans (.of_grown (S := fun j => j = bC) HG6.out (fun j e => by cases e; rfl)) (fun j hj => .inl hj)
      have e1 := put_eq hI.out.rise p (x := p.id) rfl (HO6.out.canon law24)
      have h6 := rg_mv HR2.out m26 (by have := hbl.out; have := HC2.out.bB; omega) (by have := (XL.out bC (.inr (.inl rfl))).2; omega)
      refine ⟨⟨_, cnt2, k + 1, setP M p, ⟨h6⟩, HK2, ⟨⟨(m26.block gC (blk_lt HC2.out.blk) HC2.out.ne.1).trans HC2.out.blk, e1 ▸ HO6.out, World.ownsRow_nil _ _ _ _, HC2.out.gB, HC2.out.bB, copy_ok hok.out HI2.out⟩⟩, HI2, ⟨mv_below HB2.out m26 (fun j hj => by rw [hj]; exact HC2.out.bB) HB2.out.size⟩, ⟨Nat.lt_of_lt_of_le HS2.out m26.size⟩⟩, ?_⟩
      rw [h6.left_eq, hrg.out.left_eq]
      exact hlt
end Go.Proofs.Ytjfkenjmjoncbaa.Lg
