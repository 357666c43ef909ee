import Derived.Test.YtjfkenjmjoncbaaPAllx0
import Derived.Test.YtjfkenjmjoncbaaLgApplies
import Derived.Deep.RegionLaw
import Derived.Deep.AppendLies
namespace Go.Proofs.Ytjfkenjmjoncbaa.Lg
open Go Go.Maps Go.WideShapes Go.RowKit Go.Proofs.Ytjfkenjmjoncbaa.PAll Go.Proofs.YtjfkenjmjoncbaaW.PrintWords Go.Proofs.YtjfkenjmjoncbaaW.PrintLast Go.Proofs.YtjfkenjmjoncbaaW.PrintMore
set_option linter.unusedVariables false
set_option linter.unusedSimpArgs false

/-- what a record does to a ledger's world -/
structure Did (w w' : World) (B g b n : Nat) (v : Value) (L : LG) : Prop where
  led : ∃ v', Led w' B g b n v' L ∧ ∀ j, v'.ownBlock = some j → v.ownBlock = some j ∨ w.heap.size ≤ j
  mv : Mv (Owns g b v) w w'
theorem Did.same {w w' : World} {B g b n n' : Nat} {v : Value} {L : LG} (h : Led w B g b n v L) (hb : Below w.heap.size w w') (hn : n ≤ n') : Did w w' B g b n' v L :=
  ⟨⟨v, (h.below hb).mono hn, fun j hj => .inl hj⟩, .of_below hb⟩
/-- the cells of a ledger are written anew -/
theorem Did.cells {w w1 w2 : World} {B g b n n' : Nat} {v : Value} {L L' : LG} {cs : Array Value} (h : Led w B g b n v L) (m1 : Mv (Owns g b v) w w1) (m2 : Mv (fun j => j = g) w1 w2)
    (hg : w2.heap[g]? = some (.cells cs 69 (0, 0))) (hcs : cs = lcells b v L') (hm : w1.ownsMap Try.prog 24 postR b n' (mapD L'.posts)) (hp : L'.pols = L.pols) (hrow : w1.ownsRow B 9 1 v L.pols.length (L.pols.map Value.string)) (ok : L'.Ok) : Did w w2 B g b n' v L' := by
  obtain ⟨ne1, ne2, ne3⟩ := h.ne
  subst hcs
  refine ⟨⟨v, ⟨hg, map_mv hm m2 (fun e => ne1 e.symm), ?_, h.gB, h.bB, ok⟩, fun j hj => .inl hj⟩, m1.trans m2 (fun j hj => .inl (.inl hj))⟩
  rw [hp]
  exact own_mv hrow m2 (fun j hj e => ne2 (by rw [hj, e]))
theorem apply_of {L : LG} {r : RC} (h : L.applies r = true) : L.apply r = L.act r ∧ L.errno r = 0 := by
  unfold LG.apply LG.errno
  rw [if_pos h, if_pos h]
  exact ⟨rfl, rfl⟩
theorem apply_no {L : LG} {r : RC} (h : L.applies r = false) : L.apply r = L ∧ L.errno r = 1 := by
  unfold LG.apply LG.errno
  rw [if_neg (by rw [h]; simp), if_neg (by rw [h]; simp)]
  exact ⟨rfl, rfl⟩
set_option maxHeartbeats 4000000 in
set_option maxRecDepth 100000 in
theorem apply_not {w : World} {B g b n : Nat} {v : Value} {L : LG} (h : Led w B g b n v L) (hB : B ≤ w.heap.size) (hn : n < maxLen) {kd id ver : Int} {text : ByteArray} (hr : RC.Wf ⟨kd, id, ver, text⟩) (ha : L.applies ⟨kd, id, ver, text⟩ = false) (hkd : True) :
    Calls Try.prog 10 #[.pointer (some ⟨g, 0, none⟩), .agg #[.int .i64 kd, .int .u64 id, .int .u64 ver, .string text]] w fun e w' => e = .returned (.int .i64 (L.errno ⟨kd, id, ver, text⟩)) ∧ Did w w' B g b (n + 1) v (L.apply ⟨kd, id, ver, text⟩) := by
  have HOK := Aside0.mk (LG.apply_ok h.ok hr)
  have HID := Aside0.mk hr.id
  have HA := Aside0.mk ha
  have HH := Aside0.mk h
  have HN := Aside0.mk hn
  have HBB := Aside0.mk hB
  clear h hr hn hB
  obtain ⟨ea, ee⟩ := apply_no ha
  rw [ea, ee]
  clear ha hkd ea ee HOK
  go_enter Try.func10, Try.ntmps10
  go_wp2_with (first
    | ((with_reducible refine gate_dst (N := 3) rfl ?_); refine box_event ?hg (N := 3) ?hd (cs := #[.int .i64 kd, .int .u64 id, .int .u64 ver, .string text]) (t := 26) ?hr ?_; (case hd => rfl); (case hg => rfl); (case hr => first | (go_simp; done) | (go_simp; rfl)); intro gb hg w3 hbox hb; have HB3 := Aside0.mk hb; have BK3 := Aside0.mk hbox; have HGB := Aside0.mk (show w.heap.size ≤ gb by rw [hg]; exact Nat.le_refl _); have c0 : w3.cell? ⟨gb, 0, none⟩ = some (.int .i64 kd) := (blk_cell hbox 0).trans rfl; have c1 : w3.cell? ⟨gb, 1, none⟩ = some (.int .u64 id) := (blk_cell hbox 1).trans rfl; have c2 : w3.cell? ⟨gb, 2, none⟩ = some (.int .u64 ver) := (blk_cell hbox 2).trans rfl; have c3 : w3.cell? ⟨gb, 3, none⟩ = some (.string text) := (blk_cell hbox 3).trans rfl; clear hg hbox hb)
    | (go_at_call 27; refine (applies_calls (HH.out.below HB3.out) ⟨kd, id, ver, text⟩ HID.out).mono ?_; rintro e w4 ⟨rfl, hb4⟩; rw [HA.out]; have HB4 := Aside0.mk (HB3.out.trans (hb4.mono HB3.out.size)); have BK4 := Aside0.mk (blk_below BK3.out hb4); clear c0 c1 c2 c3; have c0 : w4.cell? ⟨gb, 0, none⟩ = some (.int .i64 kd) := (blk_cell BK4.out 0).trans rfl; have c1 : w4.cell? ⟨gb, 1, none⟩ = some (.int .u64 id) := (blk_cell BK4.out 1).trans rfl; have c2 : w4.cell? ⟨gb, 2, none⟩ = some (.int .u64 ver) := (blk_cell BK4.out 2).trans rfl; have c3 : w4.cell? ⟨gb, 3, none⟩ = some (.string text) := (blk_cell BK4.out 3).trans rfl; have HL4 := Aside0.mk (HH.out.below HB4.out); obtain ⟨⟨h0, h1, h2, h3⟩, hf⟩ := HL4.out.cells; have hgl : g < w4.heap.size := (HL4.out.lt (.inl rfl)).2; have hgb : gb < w4.heap.size := blk_lt BK4.out; clear hb4))
  go_ret
  exact ⟨rfl, .same HH.out HB4.out (Nat.le_succ _)⟩
set_option maxHeartbeats 4000000 in
set_option maxRecDepth 100000 in
theorem apply_post {w : World} {B g b n : Nat} {v : Value} {L : LG} (h : Led w B g b n v L) (hB : B ≤ w.heap.size) (hn : n < maxLen) {kd id ver : Int} {text : ByteArray} (hr : RC.Wf ⟨kd, id, ver, text⟩) (ha : L.applies ⟨kd, id, ver, text⟩ = true) (hkd : kd = 1) :
    Calls Try.prog 10 #[.pointer (some ⟨g, 0, none⟩), .agg #[.int .i64 kd, .int .u64 id, .int .u64 ver, .string text]] w fun e w' => e = .returned (.int .i64 (L.errno ⟨kd, id, ver, text⟩)) ∧ Did w w' B g b (n + 1) v (L.apply ⟨kd, id, ver, text⟩) := by
  have HOK := Aside0.mk (LG.apply_ok h.ok hr)
  have HID := Aside0.mk hr.id
  have HA := Aside0.mk ha
  have HH := Aside0.mk h
  have HN := Aside0.mk hn
  have HBB := Aside0.mk hB
  clear h hr hn hB
  obtain ⟨ea, ee⟩ := apply_of ha
  have hac : L.act ⟨kd, id, ver, text⟩ = ⟨setP L.posts ⟨id, ver, text⟩, L.pols, L.next + 1, L.cur⟩ := by simp [LG.act, hkd]
  rw [ea, hac] at HOK
  rw [ea, ee, hac]
  have hw : IntKind.u64.wrap (L.next + 1) = L.next + 1 := by
    have := HH.out.ok.next
    rcases LG.applies_cases ha with ⟨_, _, _, _, q1, q2, _⟩ | ⟨q, _⟩ | ⟨q, _⟩ | ⟨q, _⟩
    · simp only at q1 q2; simp [IntKind.wrap, IntKind.bits, IntKind.signed]; omega
    all_goals (simp only at q; omega)
  subst hkd
  clear ha ea ee hac
  go_enter Try.func10, Try.ntmps10
  go_wp2_with (first
    | ((with_reducible refine gate_dst (N := 3) rfl ?_); refine box_event ?hg (N := 3) ?hd (cs := #[.int .i64 1, .int .u64 id, .int .u64 ver, .string text]) (t := 26) ?hr ?_; (case hd => rfl); (case hg => rfl); (case hr => first | (go_simp; done) | (go_simp; rfl)); intro gb hg w3 hbox hb; have HB3 := Aside0.mk hb; have BK3 := Aside0.mk hbox; have HGB := Aside0.mk (show w.heap.size ≤ gb by rw [hg]; exact Nat.le_refl _); have c0 : w3.cell? ⟨gb, 0, none⟩ = some (.int .i64 1) := (blk_cell hbox 0).trans rfl; have c1 : w3.cell? ⟨gb, 1, none⟩ = some (.int .u64 id) := (blk_cell hbox 1).trans rfl; have c2 : w3.cell? ⟨gb, 2, none⟩ = some (.int .u64 ver) := (blk_cell hbox 2).trans rfl; have c3 : w3.cell? ⟨gb, 3, none⟩ = some (.string text) := (blk_cell hbox 3).trans rfl; clear hg hbox hb)
    | (go_at_call 27; refine (applies_calls (HH.out.below HB3.out) ⟨1, id, ver, text⟩ HID.out).mono ?_; rintro e w4 ⟨rfl, hb4⟩; rw [HA.out]; have HB4 := Aside0.mk (HB3.out.trans (hb4.mono HB3.out.size)); have BK4 := Aside0.mk (blk_below BK3.out hb4); clear c0 c1 c2 c3; have c0 : w4.cell? ⟨gb, 0, none⟩ = some (.int .i64 1) := (blk_cell BK4.out 0).trans rfl; have c1 : w4.cell? ⟨gb, 1, none⟩ = some (.int .u64 id) := (blk_cell BK4.out 1).trans rfl; have c2 : w4.cell? ⟨gb, 2, none⟩ = some (.int .u64 ver) := (blk_cell BK4.out 2).trans rfl; have c3 : w4.cell? ⟨gb, 3, none⟩ = some (.string text) := (blk_cell BK4.out 3).trans rfl; have HL4 := Aside0.mk (HH.out.below HB4.out); obtain ⟨⟨h0, h1, h2, h3⟩, hf⟩ := HL4.out.cells; have hgl : g < w4.heap.size := (HL4.out.lt (.inl rfl)).2; have hgb : gb < w4.heap.size := blk_lt BK4.out; clear hb4))
  refine region_tail 7 (by kernel_rfl) (by kernel_rfl) ?_
  simp only [List.take_succ_cons, List.take_zero, List.drop_succ_cons, List.drop_zero]
  repeat still_step
  refine wpStill_nil ?_
  have HM := Aside0.mk (show (w4.alloc (.cells #[.int .u64 id, .int .u64 ver, .string text] 42)).drew.ownsMap Try.prog 24 postR b n (mapD L.posts) from (HL4.out.map.alloc _).drew)
  have hk := Aside0.mk (keyOf_int_mk Try.underlying24 (wf64 HID.out))
  go_wp2_with (at_mapUpdate; refine wpList_mapUpdate_own _ rfl _ _ _ 67 rfl 24 42 law24 Try.underlying67 _ b n _ rfl HM.out HN.out _ _ _ rfl rfl hk.out (pd ⟨id, ver, text⟩) [] (postR_mk ⟨id, ver, text⟩) ?_; intro w6 hown6 hg6; have HO6 := Aside0.mk hown6; have HG6 := Aside0.mk hg6; have BG6 := Aside0.mk (blk_grown (blk_drew (blk_alloc HL4.out.blk _)) hg6 HL4.out.ne.1); have BB6 := Aside0.mk (blk_grown (blk_drew (blk_alloc BK4.out _)) hg6 (by have := HGB.out; have := (HH.out.lt (.inr (.inl rfl))).2; omega)); clear hown6 hg6 h0 h1 h2 h3 hf hgl c0 c1 c2 c3 hgb; have c1 : w6.cell? ⟨gb, 1, none⟩ = some (.int .u64 id) := (blk_cell BB6.out 1).trans rfl; have h2 : w6.cell? ⟨g, 2, none⟩ = some (.int .u64 L.next) := (blk_cell BG6.out 2).trans rfl; have h3 : w6.cell? ⟨g, 3, none⟩ = some (.int .u64 L.cur) := (blk_cell BG6.out 3).trans rfl; have hf2 := blk_frozen BG6.out 2; have hf3 := blk_frozen BG6.out 3; go_frame)
  go_ret
  have e1 := put_eq HL4.out.ok.rise (⟨id, ver, text⟩ : LP) (x := id) rfl (HO6.out.canon law24)
  have m46 : Mv (fun j => j = b) w4 w6 := (Mv.of_below (below_alloc (Below.refl _ _) _).drew).trans (.of_grown (S := fun j => j = b) HG6.out (fun j e => by cases e; rfl)) (fun j hj => .inl hj)
  have m1 : Mv (Owns g b v) w w6 := (Mv.of_below HB4.out).trans m46 (fun j hj => .inl (.inr (.inl hj)))
  refine ⟨rfl, Did.cells (L := L) (v := v) HH.out m1 (.set _ rfl) (blk_set BG6.out 2 _) rfl ?_ rfl ?_ HOK.out⟩
  · exact e1 ▸ HO6.out
  · exact own_mv HL4.out.row m46 (fun j hj e => HL4.out.ne.2.2 (by rw [hj, e]))
set_option maxHeartbeats 4000000 in
set_option maxRecDepth 100000 in
theorem apply_convert {w : World} {B g b n : Nat} {v : Value} {L : LG} (h : Led w B g b n v L) (hB : B ≤ w.heap.size) (hn : n < maxLen) {kd id ver : Int} {text : ByteArray} (hr : RC.Wf ⟨kd, id, ver, text⟩) (ha : L.applies ⟨kd, id, ver, text⟩ = true) (hkd : kd = 4) :
    Calls Try.prog 10 #[.pointer (some ⟨g, 0, none⟩), .agg #[.int .i64 kd, .int .u64 id, .int .u64 ver, .string text]] w fun e w' => e = .returned (.int .i64 (L.errno ⟨kd, id, ver, text⟩)) ∧ Did w w' B g b (n + 1) v (L.apply ⟨kd, id, ver, text⟩) := by
  have HOK := Aside0.mk (LG.apply_ok h.ok hr)
  have HID := Aside0.mk hr.id
  have HA := Aside0.mk ha
  have HH := Aside0.mk h
  have HN := Aside0.mk hn
  have HBB := Aside0.mk hB
  clear h hr hn hB
  obtain ⟨ea, ee⟩ := apply_of ha
  have hac : L.act ⟨kd, id, ver, text⟩ = ⟨setP L.posts ⟨id, ver, text⟩, L.pols, L.next, id⟩ := by simp [LG.act, hkd]
  rw [ea, hac] at HOK
  rw [ea, ee, hac]
  subst hkd
  clear ha ea ee hac
  go_enter Try.func10, Try.ntmps10
  go_wp2_with (first
    | ((with_reducible refine gate_dst (N := 3) rfl ?_); refine box_event ?hg (N := 3) ?hd (cs := #[.int .i64 4, .int .u64 id, .int .u64 ver, .string text]) (t := 26) ?hr ?_; (case hd => rfl); (case hg => rfl); (case hr => first | (go_simp; done) | (go_simp; rfl)); intro gb hg w3 hbox hb; have HB3 := Aside0.mk hb; have BK3 := Aside0.mk hbox; have HGB := Aside0.mk (show w.heap.size ≤ gb by rw [hg]; exact Nat.le_refl _); have c0 : w3.cell? ⟨gb, 0, none⟩ = some (.int .i64 4) := (blk_cell hbox 0).trans rfl; have c1 : w3.cell? ⟨gb, 1, none⟩ = some (.int .u64 id) := (blk_cell hbox 1).trans rfl; have c2 : w3.cell? ⟨gb, 2, none⟩ = some (.int .u64 ver) := (blk_cell hbox 2).trans rfl; have c3 : w3.cell? ⟨gb, 3, none⟩ = some (.string text) := (blk_cell hbox 3).trans rfl; clear hg hbox hb)
    | (go_at_call 27; refine (applies_calls (HH.out.below HB3.out) ⟨4, id, ver, text⟩ HID.out).mono ?_; rintro e w4 ⟨rfl, hb4⟩; rw [HA.out]; have HB4 := Aside0.mk (HB3.out.trans (hb4.mono HB3.out.size)); have BK4 := Aside0.mk (blk_below BK3.out hb4); clear c0 c1 c2 c3; have c0 : w4.cell? ⟨gb, 0, none⟩ = some (.int .i64 4) := (blk_cell BK4.out 0).trans rfl; have c1 : w4.cell? ⟨gb, 1, none⟩ = some (.int .u64 id) := (blk_cell BK4.out 1).trans rfl; have c2 : w4.cell? ⟨gb, 2, none⟩ = some (.int .u64 ver) := (blk_cell BK4.out 2).trans rfl; have c3 : w4.cell? ⟨gb, 3, none⟩ = some (.string text) := (blk_cell BK4.out 3).trans rfl; have HL4 := Aside0.mk (HH.out.below HB4.out); obtain ⟨⟨h0, h1, h2, h3⟩, hf⟩ := HL4.out.cells; have hgl : g < w4.heap.size := (HL4.out.lt (.inl rfl)).2; have hgb : gb < w4.heap.size := blk_lt BK4.out; clear hb4))
  refine region_tail 7 (by kernel_rfl) (by kernel_rfl) ?_
  simp only [List.take_succ_cons, List.take_zero, List.drop_succ_cons, List.drop_zero]
  repeat still_step
  refine wpStill_nil ?_
  have HM := Aside0.mk (show (w4.alloc (.cells #[.int .u64 id, .int .u64 ver, .string text] 42)).drew.ownsMap Try.prog 24 postR b n (mapD L.posts) from (HL4.out.map.alloc _).drew)
  have hk := Aside0.mk (keyOf_int_mk Try.underlying24 (wf64 HID.out))
  go_wp2_with (at_mapUpdate; refine wpList_mapUpdate_own _ rfl _ _ _ 67 rfl 24 42 law24 Try.underlying67 _ b n _ rfl HM.out HN.out _ _ _ rfl rfl hk.out (pd ⟨id, ver, text⟩) [] (postR_mk ⟨id, ver, text⟩) ?_; intro w6 hown6 hg6; have HO6 := Aside0.mk hown6; have HG6 := Aside0.mk hg6; have BG6 := Aside0.mk (blk_grown (blk_drew (blk_alloc HL4.out.blk _)) hg6 HL4.out.ne.1); have BB6 := Aside0.mk (blk_grown (blk_drew (blk_alloc BK4.out _)) hg6 (by have := HGB.out; have := (HH.out.lt (.inr (.inl rfl))).2; omega)); clear hown6 hg6 h0 h1 h2 h3 hf hgl c0 c1 c2 c3 hgb; have c1 : w6.cell? ⟨gb, 1, none⟩ = some (.int .u64 id) := (blk_cell BB6.out 1).trans rfl; have h2 : w6.cell? ⟨g, 2, none⟩ = some (.int .u64 L.next) := (blk_cell BG6.out 2).trans rfl; have h3 : w6.cell? ⟨g, 3, none⟩ = some (.int .u64 L.cur) := (blk_cell BG6.out 3).trans rfl; have hf2 := blk_frozen BG6.out 2; have hf3 := blk_frozen BG6.out 3; go_frame)
  go_ret
  have e1 := put_eq HL4.out.ok.rise (⟨id, ver, text⟩ : LP) (x := id) rfl (HO6.out.canon law24)
  have m46 : Mv (fun j => j = b) w4 w6 := (Mv.of_below (below_alloc (Below.refl _ _) _).drew).trans (.of_grown (S := fun j => j = b) HG6.out (fun j e => by cases e; rfl)) (fun j hj => .inl hj)
  have m1 : Mv (Owns g b v) w w6 := (Mv.of_below HB4.out).trans m46 (fun j hj => .inl (.inr (.inl hj)))
  refine ⟨rfl, Did.cells (L := L) (v := v) HH.out m1 (.set _ rfl) (blk_set BG6.out 3 _) rfl ?_ rfl ?_ HOK.out⟩
  · exact e1 ▸ HO6.out
  · exact own_mv HL4.out.row m46 (fun j hj e => HL4.out.ne.2.2 (by rw [hj, e]))
set_option maxHeartbeats 4000000 in
set_option maxRecDepth 100000 in
theorem apply_delete {w : World} {B g b n : Nat} {v : Value} {L : LG} (h : Led w B g b n v L) (hB : B ≤ w.heap.size) (hn : n < maxLen) {kd id ver : Int} {text : ByteArray} (hr : RC.Wf ⟨kd, id, ver, text⟩) (ha : L.applies ⟨kd, id, ver, text⟩ = true) (hkd : kd = 2) :
    Calls Try.prog 10 #[.pointer (some ⟨g, 0, none⟩), .agg #[.int .i64 kd, .int .u64 id, .int .u64 ver, .string text]] w fun e w' => e = .returned (.int .i64 (L.errno ⟨kd, id, ver, text⟩)) ∧ Did w w' B g b (n + 1) v (L.apply ⟨kd, id, ver, text⟩) := by
  have HOK := Aside0.mk (LG.apply_ok h.ok hr)
  have HID := Aside0.mk hr.id
  have HA := Aside0.mk ha
  have HH := Aside0.mk h
  have HN := Aside0.mk hn
  have HBB := Aside0.mk hB
  clear h hr hn hB
  obtain ⟨ea, ee⟩ := apply_of ha
  have hac : L.act ⟨kd, id, ver, text⟩ = ⟨delP L.posts id, L.pols, L.next, L.cur⟩ := by simp [LG.act, hkd]
  rw [ea, hac] at HOK
  rw [ea, ee, hac]
  subst hkd
  clear ha ea ee hac
  go_enter Try.func10, Try.ntmps10
  go_wp2_with (first
    | ((with_reducible refine gate_dst (N := 3) rfl ?_); refine box_event ?hg (N := 3) ?hd (cs := #[.int .i64 2, .int .u64 id, .int .u64 ver, .string text]) (t := 26) ?hr ?_; (case hd => rfl); (case hg => rfl); (case hr => first | (go_simp; done) | (go_simp; rfl)); intro gb hg w3 hbox hb; have HB3 := Aside0.mk hb; have BK3 := Aside0.mk hbox; have HGB := Aside0.mk (show w.heap.size ≤ gb by rw [hg]; exact Nat.le_refl _); have c0 : w3.cell? ⟨gb, 0, none⟩ = some (.int .i64 2) := (blk_cell hbox 0).trans rfl; have c1 : w3.cell? ⟨gb, 1, none⟩ = some (.int .u64 id) := (blk_cell hbox 1).trans rfl; have c2 : w3.cell? ⟨gb, 2, none⟩ = some (.int .u64 ver) := (blk_cell hbox 2).trans rfl; have c3 : w3.cell? ⟨gb, 3, none⟩ = some (.string text) := (blk_cell hbox 3).trans rfl; clear hg hbox hb)
    | (go_at_call 27; refine (applies_calls (HH.out.below HB3.out) ⟨2, id, ver, text⟩ HID.out).mono ?_; rintro e w4 ⟨rfl, hb4⟩; rw [HA.out]; have HB4 := Aside0.mk (HB3.out.trans (hb4.mono HB3.out.size)); have BK4 := Aside0.mk (blk_below BK3.out hb4); clear c0 c1 c2 c3; have c0 : w4.cell? ⟨gb, 0, none⟩ = some (.int .i64 2) := (blk_cell BK4.out 0).trans rfl; have c1 : w4.cell? ⟨gb, 1, none⟩ = some (.int .u64 id) := (blk_cell BK4.out 1).trans rfl; have c2 : w4.cell? ⟨gb, 2, none⟩ = some (.int .u64 ver) := (blk_cell BK4.out 2).trans rfl; have c3 : w4.cell? ⟨gb, 3, none⟩ = some (.string text) := (blk_cell BK4.out 3).trans rfl; have HL4 := Aside0.mk (HH.out.below HB4.out); obtain ⟨⟨h0, h1, h2, h3⟩, hf⟩ := HL4.out.cells; have hgl : g < w4.heap.size := (HL4.out.lt (.inl rfl)).2; have hgb : gb < w4.heap.size := blk_lt BK4.out; clear hb4))
  refine region_tail 6 (by kernel_rfl) (by kernel_rfl) ?_
  simp only [List.take_succ_cons, List.take_zero, List.drop_succ_cons, List.drop_zero]
  repeat still_step
  refine wpStill_nil ?_
  have HM := Aside0.mk (show (w4.alloc (.cells #[.int .u64 id, .int .u64 ver, .string text] 42)).drew.ownsMap Try.prog 24 postR b n (mapD L.posts) from (HL4.out.map.alloc _).drew)
  have hk := Aside0.mk (keyOf_int_mk Try.underlying24 (wf64 HID.out))
  go_wp2_with (at_delete; refine wpList_delete_own _ rfl _ _ 67 24 rfl 42 law24 Try.underlying67 postR b n _ rfl HM.out _ _ rfl hk.out ?_; intro w6 hown6 hturn6; have HO6 := Aside0.mk hown6; have HG6 := Aside0.mk hturn6.grown; clear hown6 hturn6 h0 h1 h2 h3 hf hgl c0 c1 c2 c3 hgb; go_frame)
  go_ret
  rw [del_eq] at HO6
  have m46 : Mv (fun j => j = b) w4 w6 := (Mv.of_below (below_alloc (Below.refl _ _) _).drew).trans (.of_grown (S := fun j => j = b) HG6.out (fun j e => by cases e; rfl)) (fun j hj => .inl hj)
  have m1 : Mv (Owns g b v) w w6 := (Mv.of_below HB4.out).trans m46 (fun j hj => .inl (.inr (.inl hj)))
  refine ⟨rfl, ⟨v, ⟨(m46.block g (blk_lt HL4.out.blk) HL4.out.ne.1).trans HL4.out.blk, HO6.out.mono (Nat.le_succ _), own_mv HL4.out.row m46 (fun j hj e => HL4.out.ne.2.2 (by rw [hj, e])), HH.out.gB, HH.out.bB, HOK.out⟩, fun j hj => .inl hj⟩, m1⟩
set_option maxHeartbeats 4000000 in
set_option maxRecDepth 100000 in
theorem apply_policy {w : World} {B g b n : Nat} {v : Value} {L : LG} (h : Led w B g b n v L) (hB : B ≤ w.heap.size) (hn : n < maxLen) {kd id ver : Int} {text : ByteArray} (hr : RC.Wf ⟨kd, id, ver, text⟩) (ha : L.applies ⟨kd, id, ver, text⟩ = true) (hkd : kd = 3) :
    Calls Try.prog 10 #[.pointer (some ⟨g, 0, none⟩), .agg #[.int .i64 kd, .int .u64 id, .int .u64 ver, .string text]] w fun e w' => e = .returned (.int .i64 (L.errno ⟨kd, id, ver, text⟩)) ∧ Did w w' B g b (n + 1) v (L.apply ⟨kd, id, ver, text⟩) := by
  have HOK := Aside0.mk (LG.apply_ok h.ok hr)
  have HID := Aside0.mk hr.id
  have HA := Aside0.mk ha
  have HH := Aside0.mk h
  have HN := Aside0.mk hn
  have HBB := Aside0.mk hB
  clear h hr hn hB
  obtain ⟨ea, ee⟩ := apply_of ha
  have hac : L.act ⟨kd, id, ver, text⟩ = ⟨L.posts, L.pols ++ [text], L.next, 0⟩ := by simp [LG.act, hkd]
  rw [ea, hac] at HOK
  rw [ea, ee, hac]
  subst hkd
  clear ha ea ee hac
  obtain ⟨i9, hi9, hz9, hs9, hb9⟩ := info_parts info9
  have I9 := Aside0.mk (And.intro hi9 (And.intro hz9 (And.intro hs9 hb9)))
  clear hi9 hz9 hs9 hb9
  go_enter Try.func10, Try.ntmps10
  go_wp2_with (first
    | ((with_reducible refine gate_dst (N := 3) rfl ?_); refine box_event ?hg (N := 3) ?hd (cs := #[.int .i64 3, .int .u64 id, .int .u64 ver, .string text]) (t := 26) ?hr ?_; (case hd => rfl); (case hg => rfl); (case hr => first | (go_simp; done) | (go_simp; rfl)); intro gb hg w3 hbox hb; have HB3 := Aside0.mk hb; have BK3 := Aside0.mk hbox; have HGB := Aside0.mk (show w.heap.size ≤ gb by rw [hg]; exact Nat.le_refl _); have c0 : w3.cell? ⟨gb, 0, none⟩ = some (.int .i64 3) := (blk_cell hbox 0).trans rfl; have c1 : w3.cell? ⟨gb, 1, none⟩ = some (.int .u64 id) := (blk_cell hbox 1).trans rfl; have c2 : w3.cell? ⟨gb, 2, none⟩ = some (.int .u64 ver) := (blk_cell hbox 2).trans rfl; have c3 : w3.cell? ⟨gb, 3, none⟩ = some (.string text) := (blk_cell hbox 3).trans rfl; clear hg hbox hb)
    | (go_at_call 27; refine (applies_calls (HH.out.below HB3.out) ⟨3, id, ver, text⟩ HID.out).mono ?_; rintro e w4 ⟨rfl, hb4⟩; rw [HA.out]; have HB4 := Aside0.mk (HB3.out.trans (hb4.mono HB3.out.size)); have BK4 := Aside0.mk (blk_below BK3.out hb4); clear c0 c1 c2 c3; have c0 : w4.cell? ⟨gb, 0, none⟩ = some (.int .i64 3) := (blk_cell BK4.out 0).trans rfl; have c1 : w4.cell? ⟨gb, 1, none⟩ = some (.int .u64 id) := (blk_cell BK4.out 1).trans rfl; have c2 : w4.cell? ⟨gb, 2, none⟩ = some (.int .u64 ver) := (blk_cell BK4.out 2).trans rfl; have c3 : w4.cell? ⟨gb, 3, none⟩ = some (.string text) := (blk_cell BK4.out 3).trans rfl; have HL4 := Aside0.mk (HH.out.below HB4.out); obtain ⟨⟨h0, h1, h2, h3⟩, hf⟩ := HL4.out.cells; have hgl : g < w4.heap.size := (HL4.out.lt (.inl rfl)).2; have hgb : gb < w4.heap.size := blk_lt BK4.out; clear hb4))
  have HR6 := Aside0.mk (show ((w4.alloc (.cells #[.int .u64 id, .int .u64 ver, .string text] 42)).alloc (.cells #[.string text] 9)).drew.ownsRow B 9 1 v L.pols.length (L.pols.map Value.string) from own_mv (S := fun _ => False) HL4.out.row (.of_below (below_alloc (below_alloc (Below.refl _ _) _) _).drew) (fun _ _ q => q))
  have HP := Aside0.mk HL4.out.ok.pols
  have e2 : ((w4.alloc (.cells #[.int .u64 id, .int .u64 ver, .string text] 42)).alloc (.cells #[.string text] 9)).drew.heap.size = w4.heap.size + 2 := by simp
  have HS2 := Aside0.mk e2
  have HBW := Aside0.mk (show B ≤ w4.heap.size from Nat.le_trans HBB.out HB4.out.size)
  have hnb := World.news_of_block (w := ((w4.alloc (.cells #[.int .u64 id, .int .u64 ver, .string text] 42)).alloc (.cells #[.string text] 9)).drew) (B := w4.heap.size + 1) (cs := #[.string text]) (t := 9) (fr := (0, 0)) (by have := blk_drew (blk_new (w4.alloc (.cells #[.int .u64 id, .int .u64 ver, .string text] 42)) (.cells #[.string text] 9)); rwa [show (w4.alloc (.cells #[.int .u64 id, .int .u64 ver, .string text] 42)).heap.size = w4.heap.size + 1 by simp] at this)
  have HNB := Aside0.mk hnb
  clear e2 hnb
  go_region_law (first | (refine step_append_lies _ rfl (.tmp 53) (.tmp 56) 56 rfl B 9 i9 (.string ⟨#[]⟩) 1 16 Try.underlying56 I9.out.1 I9.out.2.1 I9.out.2.2.1 I9.out.2.2.2 rfl (by decide) v L.pols.length (L.pols.map Value.string) rfl HR6.out ⟨w4.heap.size + 1, 0, none⟩ 1 1 [.string text] rfl rfl HNB.out (by simp [Value.oneCell']) (by decide) (by have := HP.out; unfold maxLen; omega) (by have := HP.out; omega) (by rw [HS2.out]; have := HBW.out; omega) (w4.heap.size + 2) HS2.out ?_; intro g6 cap6 w6 hown6 hg6 hloc6 hlt6; have HO6 := Aside0.mk hown6; have HG6 := Aside0.mk hg6; have HL6 := Aside0.mk hloc6; have BG6 := Aside0.mk ((hg6.block g (by rw [HS2.out]; omega) (fun q => HL4.out.ne.2.1 q.symm)).trans (blk_drew (blk_alloc (blk_alloc HL4.out.blk _) _))); clear h0 h1 h2 h3 hf; have h1 : w6.cell? ⟨g, 1, none⟩ = some v := (blk_cell BG6.out 1).trans rfl; have hf1 := blk_frozen BG6.out 1; have h3 : w6.cell? ⟨g, 3, none⟩ = some (.int .u64 L.cur) := (blk_cell BG6.out 3).trans rfl; have hf3 := blk_frozen BG6.out 3; clear hown6 hg6 hloc6 hlt6))
  all_goals
    have BG7 := Aside0.mk (blk_set BG6.out 1 (.slice (some ⟨g6, 0, none⟩) (L.pols.length + 1) cap6))
    go_wp2
    go_ret
    have hlen : (L.pols ++ [text]).length = L.pols.length + 1 := by simp
    have m46 : Mv (fun j => v.ownBlock = some j) w4 w6 := (Mv.of_below (below_alloc (below_alloc (Below.refl _ _) _) _).drew).trans (.of_grown (S := fun j => v.ownBlock = some j) HG6.out (fun j e => e)) (fun j hj => .inl hj)
    have m67 : Mv (fun j => j = g) w6 ((w6.setCell ⟨g, 1, none⟩ (.slice (some ⟨g6, 0, none⟩) (L.pols.length + 1) cap6)).setCell ⟨g, 3, none⟩ (.int .u64 0)) := (Mv.set (S := fun j => j = g) _ rfl).trans (.set (S := fun j => j = g) _ rfl) (S' := fun j => j = g) (fun j hj => .inl hj)
    have m1 : Mv (Owns g b v) w ((w6.setCell ⟨g, 1, none⟩ (.slice (some ⟨g6, 0, none⟩) (L.pols.length + 1) cap6)).setCell ⟨g, 3, none⟩ (.int .u64 0)) := ((Mv.of_below HB4.out).trans m46 (fun j hj => .inl (.inr (.inr hj)))).trans m67 (fun j hj => .inl (.inl hj))
    have hg6g : g6 ≠ g := by
      rcases HL6.out with q | q
      · exact fun e => HL4.out.ne.2.1 (by rw [q, e])
      · omega
    refine ⟨rfl, ⟨.slice (some ⟨g6, 0, none⟩) (L.pols.length + 1) cap6, ⟨blk_set BG7.out 3 _, ?_, ?_, HH.out.gB, HH.out.bB, HOK.out⟩, fun j hj => ?_⟩, m1⟩
    · exact (map_mv (map_mv HL4.out.map m46 HL4.out.ne.2.2) m67 (fun e => HL4.out.ne.1 e.symm)).mono (Nat.le_succ _)
    · have := own_mv HO6.out m67 (fun j hj e => hg6g (by simp [Value.ownBlock] at hj; omega))
      rw [hlen, List.map_append]
      exact this
    · have hj' : g6 = j := by simpa [Value.ownBlock] using hj
      subst hj'
      rcases HL6.out with q | q
      · exact .inl q
      · exact .inr (by have := HB4.out.size; omega)
/-- Apply (10) -/
theorem Apply_calls {w : World} {B g b n : Nat} {v : Value} {L : LG} (h : Led w B g b n v L) (hB : B ≤ w.heap.size) (hn : n < maxLen) (r : RC) (hr : r.Wf) :
    Calls Try.prog 10 #[.pointer (some ⟨g, 0, none⟩), recV r] w fun e w' => e = .returned (.int .i64 (L.errno r)) ∧ Did w w' B g b (n + 1) v (L.apply r) := by
  obtain ⟨kd, id, ver, text⟩ := r
  cases ha : LG.applies L ⟨kd, id, ver, text⟩
  · exact apply_not h hB hn hr ha trivial
  · rcases RC.ok_kind (LG.applies_ok ha) with hk | hk | hk | hk
    · exact apply_post h hB hn hr ha hk
    · exact apply_delete h hB hn hr ha hk
    · exact apply_policy h hB hn hr ha hk
    · exact apply_convert h hB hn hr ha hk
end Go.Proofs.Ytjfkenjmjoncbaa.Lg
