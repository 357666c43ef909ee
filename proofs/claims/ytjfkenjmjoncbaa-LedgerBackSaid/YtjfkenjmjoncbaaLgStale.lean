import Derived.Test.YtjfkenjmjoncbaaPAllx0
import Derived.Test.YtjfkenjmjoncbaaLgWalk1
import Derived.Deep.QuietTactic
import Derived.BigQuiet
namespace Go.Proofs.Ytjfkenjmjoncbaa.Lg
open Go Go.Maps Go.WideShapes Go.RowKit Go.Proofs.Ytjfkenjmjoncbaa.PAll Go.Proofs.YtjfkenjmjoncbaaW.PrintWords Go.Proofs.YtjfkenjmjoncbaaW.PrintLast Go.Proofs.YtjfkenjmjoncbaaW.PrintMore
set_option linter.unusedVariables false
set_option linter.unusedSimpArgs false

def postC (p : LP) : Array Value := #[.int .u64 p.id, .int .u64 p.ver, .string p.text]
section
variable {ops : Array Oper} {rest : List Oper} {o : Oper} {a : Act} {Q : Exit → Act → World → Prop}
/-- a round's step over the posts -/
theorem wp_next (w : World) (hg : o.guard = none) (it : Operand) (hop : o.op = Op.next it false) (b r n : Nat) {l : List LP} (left : Lit → Bool) (cnt : Nat)
    (hit : a.eval it = .pointer (some ⟨r, 0, none⟩)) (h : w.ranges Try.prog 24 postR b r n (mapD l) left cnt)
    (hDone : cnt = 0 → (∀ kl, left kl = false) → wpList Try.prog ops Q rest (a.put o.dst (.tuple #[.bool false])) w)
    (hMore : ∀ (p : LP) (w' : World) (cnt' : Nat), p ∈ l → left (.int .u64 p.id) = true → w'.ranges Try.prog 24 postR b r n (mapD l) (fun z => left z && !z.sameKey (.int .u64 p.id)) cnt' → cnt' < cnt →
      w.grownBy w' (some r) → w'.heap.size = w.heap.size → (Instr.entry (.pointer (some ⟨r, 0, none⟩))).run Try.prog w' = .ok (.tuple #[.int .u64 p.id, .agg #[.int .u64 p.id, .int .u64 p.ver, .string p.text]]) w' →
      wpList Try.prog ops Q rest (a.put o.dst (.tuple #[.bool true, .int .u64 p.id, .agg #[.int .u64 p.id, .int .u64 p.ver, .string p.text]])) w') :
    wpList Try.prog ops Q (o :: rest) a w := by
  refine wpList_next_ranges w hg it hop 24 law24 postR (Value.int .u64) postV (fun key kl hkey => ?_) (fun v y hv => postR_inv v y hv) b r n (mapD l) left cnt hit h hDone (fun x c kl y w' cnt' hkey hl hv hat hrg hlt hgr hsz hen => ?_)
  · obtain ⟨x, rfl, _⟩ := Maps.keyOf_int_inv Try.underlying24 hkey
    exact ⟨x, rfl⟩
  · obtain ⟨x', ex, rfl, hwx⟩ := Maps.keyOf_int_inv Try.underlying24 hkey
    cases ex
    rw [postR_mk] at hv
    cases hv
    obtain ⟨hm, hf⟩ := mem_of_at hat
    have hid := id_of_find hf
    subst hid
    exact hMore c w' cnt' hm hl hrg hlt hgr hsz hen
end
/-- the best of those that have come -/
def BestInv (L : LG) (left : Lit → Bool) (best : LP) : Prop :=
  (best = zeroP ∧ ∀ q ∈ L.posts, left (.int .u64 q.id) = false → L.cand q = false) ∨
  (best ∈ L.posts ∧ L.cand best = true ∧ ∀ q ∈ L.posts, left (.int .u64 q.id) = false → L.cand q = true → best.id ≤ q.id)
theorem best_start (L : LG) : BestInv L (Maps.has (mapD L.posts)) zeroP := by
  refine .inl ⟨rfl, fun q hq h => ?_⟩
  rw [mapD_has] at h
  rw [List.any_eq_false] at h
  exact absurd (by simp) (h q hq)
theorem left_struck {left : Lit → Bool} {p q : LP} (h : (left (.int .u64 q.id) && !(Lit.int .u64 q.id).sameKey (.int .u64 p.id)) = false) : left (.int .u64 q.id) = false ∨ q.id = p.id := by
  rw [same_u64] at h
  cases hl : left (.int .u64 q.id)
  · exact .inl rfl
  · rw [hl] at h
    simp at h
    exact .inr h
theorem best_not {L : LG} (hL : L.Ok) {left : Lit → Bool} {best p : LP} (h : BestInv L left best) (hp : p ∈ L.posts) (hc : L.cand p = false) : BestInv L (fun z => left z && !z.sameKey (.int .u64 p.id)) best := by
  rcases h with ⟨h1, h2⟩ | ⟨h1, h2, h3⟩
  · refine .inl ⟨h1, fun q hq hl => ?_⟩
    rcases left_struck hl with h | h
    · exact h2 q hq h
    · rw [hL.rise.uniq hq hp h]; exact hc
  · refine .inr ⟨h1, h2, fun q hq hl hcq => ?_⟩
    rcases left_struck hl with h | h
    · exact h3 q hq h hcq
    · rw [hL.rise.uniq hq hp h, hc] at hcq; cases hcq
theorem best_take {L : LG} (hL : L.Ok) {left : Lit → Bool} {best p : LP} (h : BestInv L left best) (hp : p ∈ L.posts) (hc : L.cand p = true) (ht : best.id = 0 ∨ p.id < best.id) : BestInv L (fun z => left z && !z.sameKey (.int .u64 p.id)) p := by
  refine .inr ⟨hp, hc, fun q hq hl hcq => ?_⟩
  rcases left_struck hl with hl | hl
  · rcases h with ⟨h1, h2⟩ | ⟨h1, h2, h3⟩
    · rw [h2 q hq hl] at hcq; cases hcq
    · have := h3 q hq hl hcq
      have := hL.ids best h1
      omega
  · omega
theorem best_stay {L : LG} (hL : L.Ok) {left : Lit → Bool} {best p : LP} (h : BestInv L left best) (hp : p ∈ L.posts) (hc : L.cand p = true) (h0 : best.id ≠ 0) (ht : ¬ p.id < best.id) : BestInv L (fun z => left z && !z.sameKey (.int .u64 p.id)) best := by
  rcases h with ⟨h1, h2⟩ | ⟨h1, h2, h3⟩
  · rw [h1] at h0; exact absurd rfl h0
  · refine .inr ⟨h1, h2, fun q hq hl hcq => ?_⟩
    rcases left_struck hl with h | h
    · exact h3 q hq h hcq
    · omega
theorem find_least {l : List LP} (h : Rise l) {f : LP → Bool} {b : LP} (hb : b ∈ l) (hf : f b = true) (hl : ∀ q ∈ l, f q = true → b.id ≤ q.id) : l.find? f = some b := by
  induction l with
  | nil => cases hb
  | cons a l ih =>
    obtain ⟨h1, h2⟩ := List.pairwise_cons.1 h
    by_cases ha : f a = true
    · rcases List.mem_cons.1 hb with rfl | hb'
      · rw [List.find?_cons_of_pos hf]
      · have := h1 b hb'
        have := hl a (List.mem_cons_self ..) ha
        omega
    · rcases List.mem_cons.1 hb with rfl | hb'
      · exact absurd hf ha
      · rw [List.find?_cons_of_neg ha]
        exact ih h2 hb' (fun q hq => hl q (List.mem_cons_of_mem _ hq))
def LG.staleP (L : LG) : LP := L.stale.getD zeroP
theorem best_end {L : LG} (hL : L.Ok) {left : Lit → Bool} {best : LP} (h : BestInv L left best) (hl : ∀ kl, left kl = false) : best = L.staleP ∧ (best.id != 0) = L.stale.isSome := by
  rcases h with ⟨h1, h2⟩ | ⟨h1, h2, h3⟩
  · have : L.stale = none := List.find?_eq_none.2 (fun q hq => by rw [h2 q hq (hl _)]; simp)
    rw [h1, LG.staleP, this]
    exact ⟨rfl, rfl⟩
  · have : L.stale = some best := find_least hL.rise h1 h2 (fun q hq hc => h3 q hq (hl _) hc)
    rw [LG.staleP, this]
    have := hL.ids best h1
    refine ⟨rfl, ?_⟩
    simp
    omega
theorem Led.grown {w w' : World} {B g b n r : Nat} {v : Value} {L : LG} (h : Led w B g b n v L) (hg : w.grownBy w' (some r)) (hr : ∀ j, Owns g b v j → j ≠ r) : Led w' B g b n v L :=
  h.mv (S := fun j => j = r) (.of_grown hg (fun j e => by cases e; rfl)) (fun j hj => hr j hj)
theorem blk_grown {w w' : World} {k r : Nat} {ob : Obj} (h : w.heap[k]? = some ob) (hg : w.grownBy w' (some r)) (hr : k ≠ r) : w'.heap[k]? = some ob :=
  (hg.block k (blk_lt h) (by simpa using hr)).trans h
theorem rg_mv {w w' : World} {S : Nat → Prop} {b r n : Nat} {l : List LP} {left : Lit → Bool} {cnt : Nat} (h : w.ranges Try.prog 24 postR b r n (mapD l) left cnt) (m : Mv S w w') (hb : ¬ S b) (hr : ¬ S r) : w'.ranges Try.prog 24 postR b r n (mapD l) left cnt := by
  have h1 := h.owns.lt
  have h2 := h.lt
  obtain ⟨es, clock, since, seen, c0, e1, F, e2, e3, e4, rest⟩ := h
  exact ⟨es, clock, since, seen, c0, (m.block b h1 hb).trans e1, F, e2, e3, (m.block r h2 hr).trans e4, rest⟩
theorem mv_below {S : Nat → Prop} {B : Nat} {w w1 w2 : World} (h : Below B w w1) (m : Mv S w1 w2) (hS : ∀ j, S j → B ≤ j) (hB : B ≤ w1.heap.size) : Below B w w2 := h.trans (m.below hS hB)
theorem stale_end {w wr w1 w2 : World} {b n : Nat} {L : LG} {best : LP} {left0 : Lit → Bool} {cnt0 cnt1 : Nat} (hr0 : wr.ranges Try.prog 24 postR b (w.heap.size + 2) n (mapD L.posts) left0 cnt0) (hlt : cnt1 < cnt0)
    {left : Lit → Bool} (h : w1.ranges Try.prog 24 postR b (w.heap.size + 2) n (mapD L.posts) left cnt1) (hb : b < w.heap.size)
    (hres : w1.heap[w.heap.size]? = some (.cells (postC zeroP) 42 (0, 0))) (hB : Below w.heap.size w w1) (hsz : w.heap.size + 2 < w1.heap.size) (hm : Mv (fun k => k = w.heap.size + 1) w1 w2)
    (hbest : w2.heap[w.heap.size + 1]? = some (.cells (postC best) 42 (0, 0))) (hinv : BestInv L left best) :
    (∃ (left : Lit → Bool) (cnt : Nat) (best : LP), Aside0 (w2.ranges Try.prog 24 postR b (w.heap.size + 2) n (mapD L.posts) left cnt) ∧ Aside0 (BestInv L left best) ∧
      Aside0 (w2.heap[w.heap.size]? = some (.cells (postC zeroP) 42 (0, 0))) ∧ Aside0 (w2.heap[w.heap.size + 1]? = some (.cells (postC best) 42 (0, 0))) ∧ Aside0 (Below w.heap.size w w2) ∧ Aside0 (w.heap.size + 2 < w2.heap.size)) ∧
    w2.rangeLeft b (w.heap.size + 2) < wr.rangeLeft b (w.heap.size + 2) := by
  have h2 := rg_mv h hm (by omega) (by omega)
  refine ⟨⟨left, cnt1, best, ⟨h2⟩, ⟨hinv⟩, ⟨(hm.block _ (by omega) (by omega)).trans hres⟩, ⟨hbest⟩, ⟨mv_below hB hm (fun j hj => by omega) (by omega)⟩, ⟨Nat.lt_of_lt_of_le hsz hm.size⟩⟩, ?_⟩
  rw [h2.left_eq, hr0.left_eq]
  exact hlt
theorem mv_best {w1 w2 : World} {k : Nat} {best p : LP} (m : Mv (fun j => j = k) w1 w2) (hb : w2.heap[k]? = some (.cells (postC best) 42 (0, 0))) :
    Mv (fun j => j = k) w1 (((w2.setCell ⟨k, 0, none⟩ (.int .u64 p.id)).setCell ⟨k, 1, none⟩ (.int .u64 p.ver)).setCell ⟨k, 2, none⟩ (.string p.text)) ∧
    (((w2.setCell ⟨k, 0, none⟩ (.int .u64 p.id)).setCell ⟨k, 1, none⟩ (.int .u64 p.ver)).setCell ⟨k, 2, none⟩ (.string p.text)).heap[k]? = some (.cells (postC p) 42 (0, 0)) :=
  ⟨((m.trans (.set (S := fun j => j = k) _ rfl) (S' := fun j => j = k) (fun j hj => .inl hj)).trans (.set (S := fun j => j = k) _ rfl) (S' := fun j => j = k) (fun j hj => .inl hj)).trans (.set (S := fun j => j = k) _ rfl) (S' := fun j => j = k) (fun j hj => .inl hj),
   blk_put (cs := #[.int .u64 p.id, .int .u64 p.ver, .string best.text]) (blk_put (cs := #[.int .u64 p.id, .int .u64 best.ver, .string best.text]) (blk_put (cs := postC best) hb 0 _ rfl) 1 _ rfl) 2 _ rfl⟩
theorem mv_new (w : World) (o : Obj) (m : Nat) (S : Nat → Prop) : Mv S w ((w.alloc o).drewN m) := .of_below (pw_below_drewN (below_alloc (Below.refl _ _) o) m)
set_option maxHeartbeats 4000000 in
set_option maxRecDepth 100000 in
/-- Stale (16) -/
theorem Stale_calls {w : World} {B g b n : Nat} {v : Value} {L : LG} (h : Led w B g b n v L) :
    Calls Try.prog 16 #[.pointer (some ⟨g, 0, none⟩)] w fun e w' => e = .returned (.tuple #[postV L.staleP, .bool L.stale.isSome]) ∧ Below w.heap.size w w' := by
  obtain ⟨⟨h0, h1, h2, h3⟩, hf⟩ := h.cells
  have hm := Aside0.mk h.map
  have hgl : g < w.heap.size := (h.lt (.inl rfl)).2
  have hown := Aside0.mk (fun j (hj : Owns g b v j) => (h.lt hj).2)
  have hok := Aside0.mk h.ok
  have HH := Aside0.mk h
  have e1 : ((w.alloc (.cells #[.int .u64 0, .int .u64 0, .string ⟨#[]⟩] 42)).alloc (.cells #[.int .u64 0, .int .u64 0, .string ⟨#[]⟩] 42)).heap.size = w.heap.size + 2 := by simp
  clear h
  go_enter Try.func16, Try.ntmps16
  go_wp2_with (at_range; refine wpList_range_own _ rfl _ 67 rfl 24 42 law24 Try.underlying67 _ b n _ rfl ((hm.out.alloc _).alloc _) ?_; intro w0 hrg0 hg0 hs0)
  go_frame
  rw [e1] at hrg0 hs0 ⊢
  have hB0 : Below w.heap.size w w0 := ((below_alloc (below_alloc (Below.refl _ _) _) _)).grown hg0 (by rw [e1]; omega) (fun j hj => by cases hj)
  have hres0 : w0.heap[w.heap.size]? = some (.cells (postC zeroP) 42 (0, 0)) := (hg0.block _ (by rw [e1]; omega) (by simp)).trans (blk_alloc (blk_new _ _) _)
  have hbst0 : w0.heap[w.heap.size + 1]? = some (.cells (postC zeroP) 42 (0, 0)) := (hg0.block _ (by rw [e1]; omega) (by simp)).trans (by
    have := blk_new (w.alloc (.cells #[.int .u64 0, .int .u64 0, .string ⟨#[]⟩] 42)) (.cells #[.int .u64 0, .int .u64 0, .string ⟨#[]⟩] 42)
    rwa [show (w.alloc (.cells #[.int .u64 0, .int .u64 0, .string ⟨#[]⟩] 42)).heap.size = w.heap.size + 1 by simp] at this)
  have X0 := Aside0.mk hrg0
  have X1 := Aside0.mk hB0
  have X2 := Aside0.mk hres0
  have X3 := Aside0.mk hbst0
  have X4 := Aside0.mk (show w.heap.size + 2 < w0.heap.size by omega)
  clear hrg0 hB0 hres0 hbst0 hg0 hs0 h0 h1 h2 h3 hf e1
  go_loopw [6] (fun _ wr => ∃ (left : Lit → Bool) (cnt : Nat) (best : LP), Aside0 (wr.ranges Try.prog 24 postR b (w.heap.size + 2) n (mapD L.posts) left cnt) ∧ Aside0 (BestInv L left best) ∧
      Aside0 (wr.heap[w.heap.size]? = some (.cells (postC zeroP) 42 (0, 0))) ∧ Aside0 (wr.heap[w.heap.size + 1]? = some (.cells (postC best) 42 (0, 0))) ∧ Aside0 (Below w.heap.size w wr) ∧ Aside0 (w.heap.size + 2 < wr.heap.size))
    (fun _ wr => wr.rangeLeft b (w.heap.size + 2))
  case atStart => exact ⟨_, _, zeroP, X0, ⟨best_start L⟩, X2, X3, X1, X4⟩
  case round =>
    obtain ⟨left, cnt, best, hrg, hinv, hres, hbst, hB, hsz⟩ := hrel
    go_wp2_with (at_next; refine wp_next _ rfl _ rfl b (w.heap.size + 2) n _ _ rfl hrg.out ?_ ?_)
    · intro hc0 hl0
      obtain ⟨eb, ei⟩ := best_end hok.out hinv.out hl0
      have k0 : wr.cell? ⟨w.heap.size + 1, 0, none⟩ = some (.int .u64 best.id) := (blk_cell hbst.out 0).trans rfl
      have k1 : wr.cell? ⟨w.heap.size + 1, 1, none⟩ = some (.int .u64 best.ver) := (blk_cell hbst.out 1).trans rfl
      have k2 : wr.cell? ⟨w.heap.size + 1, 2, none⟩ = some (.string best.text) := (blk_cell hbst.out 2).trans rfl
      have m0 := blk_frozen hbst.out 0
      have m1 := blk_frozen hbst.out 1
      have m2 := blk_frozen hbst.out 2
      have j0 : wr.cell? ⟨w.heap.size, 0, none⟩ = some (.int .u64 0) := (blk_cell hres.out 0).trans rfl
      have j1 : wr.cell? ⟨w.heap.size, 1, none⟩ = some (.int .u64 0) := (blk_cell hres.out 1).trans rfl
      have j2 : wr.cell? ⟨w.heap.size, 2, none⟩ = some (.string ⟨#[]⟩) := (blk_cell hres.out 2).trans rfl
      have f0 := blk_frozen hres.out 0
      have f1 := blk_frozen hres.out 1
      have f2 := blk_frozen hres.out 2
      have EB := Aside0.mk eb
      have EI := Aside0.mk ei
      clear eb ei
      go_wp2
      go_region
      all_goals go_wp2
      all_goals refine bodyPost_ret (results_list (rs := [.cell 2 42, .tmp 3]) rfl (by simp) (.cell w.heap.size 42 (postC best) (0, 0) _ rfl ?_ Try.underlying42 rfl (by kernel_rfl) (.tmp .nil))) rfl ?_
      all_goals first | (refine ⟨?_, ?_⟩; (rw [← EB.out, ← EI.out]; rfl); (repeat (first | exact hB.out | apply below_alloc | apply Below.drew | refine below_set ?_ (Nat.le_refl _))); done) | skip
      all_goals exact blk_drew (blk_put (cs := #[.int .u64 best.id, .int .u64 best.ver, .string ⟨#[]⟩]) (blk_put (cs := #[.int .u64 best.id, .int .u64 0, .string ⟨#[]⟩]) (blk_put (cs := postC zeroP) hres.out 0 _ rfl) 1 _ rfl) 2 _ rfl)
    · intro p w1 cnt1 hp hlx hrg1 hlt hg1 hs1 hen
      have HL1 := Aside0.mk ((HH.out.below hB.out).grown hg1 (fun j hj => by have := hown.out j hj; omega))
      have hres1 := Aside0.mk (blk_grown hres.out hg1 (by omega))
      have hbst1 := Aside0.mk (blk_grown hbst.out hg1 (by omega))
      have hB1 := Aside0.mk (hB.out.grown hg1 hB.out.size (fun j hj => by cases hj; omega))
      have hsz1 := Aside0.mk (show w.heap.size + 2 < w1.heap.size by have := hsz.out; omega)
      clear hres hbst hB hsz hs1 hg1
      have HP := Aside0.mk hp
      have HR1 := Aside0.mk hrg1
      clear hp hrg1
      have HN := Aside0.mk (fun m => newest_calls ((HL1.out.below (below_alloc (Below.refl _ _) (.cells (postC p) 42))).below (pw_below_drewN (Below.refl _ _) m)))
      obtain ⟨⟨h0, h1, h2, h3⟩, hf⟩ := HL1.out.cells
      have hgl1 : g < w1.heap.size := by have := hsz1.out; omega
      have k0 : w1.cell? ⟨w.heap.size + 1, 0, none⟩ = some (.int .u64 best.id) := (blk_cell hbst1.out 0).trans rfl
      have k1 : w1.cell? ⟨w.heap.size + 1, 1, none⟩ = some (.int .u64 best.ver) := (blk_cell hbst1.out 1).trans rfl
      have k2 : w1.cell? ⟨w.heap.size + 1, 2, none⟩ = some (.string best.text) := (blk_cell hbst1.out 2).trans rfl
      have m0 := blk_frozen hbst1.out 0
      have m1 := blk_frozen hbst1.out 1
      have m2 := blk_frozen hbst1.out 2
      have hbl1 : w.heap.size + 1 < w1.heap.size := by have := hsz1.out; omega
      have hbN := Aside0.mk (show b < w.heap.size from hown.out b (.inr (.inl rfl)))
      by_cases c1 : p.ver = L.newest
      · have c1b : (p.ver != L.newest) = false := bne_eq_false_iff_eq.2 c1
        have hc := Aside0.mk (show L.cand p = false by unfold LG.cand; simp [c1])
        clear c1
        go_wp2
        go_quiet ((go_at_call 26; refine Calls.quiet_of_same (HN.out _)))
        go_wp2
        exact stale_end hrg.out hlt HR1.out hbN.out hres1.out hB1.out hsz1.out (mv_new _ _ _ _) ((mv_new w1 _ nq (fun _ => False)).block _ hbl1 id |>.trans hbst1.out) (best_not hok.out hinv.out HP.out hc.out)
      · have c1b : (p.ver != L.newest) = true := bne_iff_ne.2 c1
        by_cases c2 : L.cur < p.id
        · have c2b : decide (L.cur < p.id) = true := decide_eq_true c2
          have hc := Aside0.mk (show L.cand p = true by unfold LG.cand; simp [c1, c2])
          by_cases c3 : best.id = 0
          · have c3b : (best.id == 0) = true := beq_iff_eq.2 c3
            have hi := Aside0.mk (best_take hok.out hinv.out HP.out hc.out (.inl c3))
            clear c1 c2 c3
            go_wp2
            go_quiet ((go_at_call 26; refine Calls.quiet_of_same (HN.out _)))
            go_wp2
            obtain ⟨hmb, hbb⟩ := mv_best (p := p) (mv_new w1 (.cells #[.int .u64 p.id, .int .u64 p.ver, .string p.text] 42) nq (fun j => j = w.heap.size + 1)) ((mv_new w1 _ nq (fun _ => False)).block _ hbl1 id |>.trans hbst1.out)
            exact stale_end hrg.out hlt HR1.out hbN.out hres1.out hB1.out hsz1.out hmb hbb hi.out
          · have c3b : (best.id == 0) = false := beq_eq_false_iff_ne.2 c3
            by_cases c4 : p.id < best.id
            · have c4b : decide (p.id < best.id) = true := decide_eq_true c4
              have hi := Aside0.mk (best_take hok.out hinv.out HP.out hc.out (.inr c4))
              clear c1 c2 c3 c4
              go_wp2
              go_quiet ((go_at_call 26; refine Calls.quiet_of_same (HN.out _)))
              go_wp2
              obtain ⟨hmb, hbb⟩ := mv_best (p := p) (mv_new w1 (.cells #[.int .u64 p.id, .int .u64 p.ver, .string p.text] 42) nq (fun j => j = w.heap.size + 1)) ((mv_new w1 _ nq (fun _ => False)).block _ hbl1 id |>.trans hbst1.out)
              exact stale_end hrg.out hlt HR1.out hbN.out hres1.out hB1.out hsz1.out hmb hbb hi.out
            · have c4b : decide (p.id < best.id) = false := decide_eq_false c4
              have hi := Aside0.mk (best_stay hok.out hinv.out HP.out hc.out c3 c4)
              clear c1 c2 c3 c4
              go_wp2
              go_quiet ((go_at_call 26; refine Calls.quiet_of_same (HN.out _)))
              go_wp2
              exact stale_end hrg.out hlt HR1.out hbN.out hres1.out hB1.out hsz1.out (mv_new _ _ _ _) ((mv_new w1 _ nq (fun _ => False)).block _ hbl1 id |>.trans hbst1.out) hi.out
        · have c2b : decide (L.cur < p.id) = false := decide_eq_false c2
          have hc := Aside0.mk (show L.cand p = false by unfold LG.cand; simp [c2])
          clear c1 c2
          go_wp2
          go_quiet ((go_at_call 26; refine Calls.quiet_of_same (HN.out _)))
          go_wp2
          exact stale_end hrg.out hlt HR1.out hbN.out hres1.out hB1.out hsz1.out (mv_new _ _ _ _) ((mv_new w1 _ nq (fun _ => False)).block _ hbl1 id |>.trans hbst1.out) (best_not hok.out hinv.out HP.out hc.out)
end Go.Proofs.Ytjfkenjmjoncbaa.Lg
