import Derived.Test.YtjfkenjmjoncbaaPAllx0
import Derived.Test.YtjfkenjmjoncbaaLgAlive
namespace Go.Proofs.Ytjfkenjmjoncbaa.Lg
open Go Go.Maps Go.WideShapes Go.RowKit Go.Proofs.Ytjfkenjmjoncbaa.PAll Go.Proofs.YtjfkenjmjoncbaaW.PrintWords Go.Proofs.YtjfkenjmjoncbaaW.PrintLast Go.Proofs.YtjfkenjmjoncbaaW.PrintMore
set_option linter.unusedVariables false
set_option linter.unusedSimpArgs false

/-! ### no ledger -/
theorem status_next (W : World) (L : LG) : (Instr.field 37 (.agg #[.int .u64 L.next, .int .u64 L.newest, .int .i64 L.posts.length, .int .u64 L.cur]) 0).run Try.prog W = .ok (.int .u64 L.next) W := by kernel_rfl
set_option maxHeartbeats 1000000 in
set_option maxRecDepth 100000 in
theorem nil_Get (w : World) (id : Int) : Calls Try.prog 15 #[.pointer none, .int .u64 id] w fun e w' => e = .returned (.tuple #[.agg #[.int .u64 0, .int .u64 0, .string ⟨#[]⟩], .bool false]) ∧ Below w.heap.size w w' := by
  go_enter Try.func15, Try.ntmps15
  go_wp2
  refine bodyPost_ret (results_ct rfl _ _ w.heap.size 42 #[.int .u64 0, .int .u64 0, .string ⟨#[]⟩] (0, 0) _ rfl (blk_new _ _) Try.underlying42 rfl (by kernel_rfl)) rfl ?_
  exact ⟨rfl, below_alloc (Below.refl _ _) _⟩
set_option maxHeartbeats 1000000 in
set_option maxRecDepth 100000 in
theorem nil_Policy (w : World) (id : Int) : Calls Try.prog 22 #[.pointer none, .int .u64 id] w fun e w' => e = .returned (.tuple #[.string ⟨#[]⟩, .bool false]) ∧ w' = w := by
  go_enter Try.func22, Try.ntmps22
  go_wp2
  refine bodyPost_ret (results_tmp2 rfl _ _ _) rfl ?_
  exact ⟨rfl, rfl⟩
set_option maxHeartbeats 1000000 in
set_option maxRecDepth 100000 in
theorem nil_Stale (w : World) : Calls Try.prog 16 #[.pointer none] w fun e w' => e = .returned (.tuple #[.agg #[.int .u64 0, .int .u64 0, .string ⟨#[]⟩], .bool false]) ∧ Below w.heap.size w w' := by
  go_enter Try.func16, Try.ntmps16
  go_wp2
  refine bodyPost_ret (results_ct rfl _ _ w.heap.size 42 #[.int .u64 0, .int .u64 0, .string ⟨#[]⟩] (0, 0) _ rfl (blk_new _ _) Try.underlying42 rfl (by kernel_rfl)) rfl ?_
  exact ⟨rfl, below_alloc (Below.refl _ _) _⟩
set_option maxHeartbeats 1000000 in
set_option maxRecDepth 100000 in
theorem nil_Status (w : World) : Calls Try.prog 13 #[.pointer none] w fun e w' => e = .returned (.agg #[.int .u64 0, .int .u64 0, .int .i64 0, .int .u64 0]) ∧ Below w.heap.size w w' := by
  go_enter Try.func13, Try.ntmps13
  go_wp2
  refine bodyPost_ret (results_single rfl (.cell w.heap.size 37 #[.int .u64 0, .int .u64 0, .int .i64 0, .int .u64 0] (0, 0) _ rfl (blk_new _ _) Try.underlying37 rfl (by kernel_rfl) .nil)) rfl ?_
  exact ⟨rfl, below_alloc (Below.refl _ _) _⟩
set_option maxHeartbeats 1000000 in
set_option maxRecDepth 100000 in
theorem nil_Pairs (w : World) : Calls Try.prog 9 #[.pointer none] w fun e w' => e = .returned (.slice none 0 0) ∧ w' = w := by
  go_enter Try.func9, Try.ntmps9
  go_wp2
  go_ret
  exact ⟨rfl, rfl⟩
set_option maxHeartbeats 1000000 in
set_option maxRecDepth 100000 in
theorem nil_List (w : World) (n : Int) : Calls Try.prog 14 #[.pointer none, .int .u64 0, .int .i64 n] w fun e w' => e = .returned (.slice none 0 0) ∧ w' = w := by
  go_enter Try.func14, Try.ntmps14
  go_wp2
  go_ret
  exact ⟨rfl, rfl⟩
set_option maxHeartbeats 1000000 in
set_option maxRecDepth 100000 in
theorem nil_Copy (w : World) : Calls Try.prog 18 #[.pointer none] w fun e w' => e = .returned (.pointer none) ∧ w' = w := by
  go_enter Try.func18, Try.ntmps18
  go_wp2
  go_ret
  exact ⟨rfl, rfl⟩
set_option maxHeartbeats 1000000 in
set_option maxRecDepth 100000 in
theorem nil_Apply (w : World) (kd id ver : Int) (text : ByteArray) : Calls Try.prog 10 #[.pointer none, .agg #[.int .i64 kd, .int .u64 id, .int .u64 ver, .string text]] w fun e w' => e = .returned (.int .i64 1) ∧ Below w.heap.size w w' := by
  go_enter Try.func10, Try.ntmps10
  go_wp2_with (first
    | ((with_reducible refine gate_dst (N := 3) rfl ?_); refine box_event ?hg (N := 3) ?hd (cs := #[.int .i64 kd, .int .u64 id, .int .u64 ver, .string text]) (t := 26) ?hr ?_; (case hd => rfl); (case hg => rfl); (case hr => first | (go_simp; done) | (go_simp; rfl)); intro gb hg w3 hbox hb; have HB3 := Aside0.mk hb; clear hg hbox hb))
  go_ret
  exact ⟨rfl, HB3.out⟩
set_option maxHeartbeats 1000000 in
set_option maxRecDepth 100000 in
theorem nil_Load (w : World) : Calls Try.prog 17 #[.slice none 0 0] w fun e w' => ∃ g b v, e = .returned (.tuple #[.pointer (some ⟨g, 0, none⟩), .int .i64 0]) ∧ Led w' w.heap.size g b 0 v LG.empty ∧ Below w.heap.size w w' := by
  go_enter Try.func17, Try.ntmps17
  go_wp2_with (go_at_call 23; refine (New_calls _).mono ?_; rintro e w1 ⟨g, b, rfl, hL, hb⟩; have HL1 := Aside0.mk hL; have HB1 := Aside0.mk hb; clear hL hb)
  refine bodyPost_ret (results_tmp2 rfl _ _ _) rfl ?_
  exact ⟨g, b, _, rfl, HL1.out, HB1.out⟩
set_option maxHeartbeats 4000000 in
set_option maxRecDepth 100000 in
theorem nil_long {w : World} {kd id ver : Int} {text : ByteArray} (ht : 300 < text.size) (n : Int) :
    Calls Try.prog 7 #[.agg #[.int .i64 kd, .int .u64 id, .int .u64 ver, .string text], .int .i64 n] w fun e w' => e = .returned (.bool true) ∧ Below w.heap.size w w' := by
  have ct : decide (300 < (text.size : Int)) = true := decide_eq_true (by omega)
  clear ht
  go_enter Try.func7, Try.ntmps7
  go_wp2_with (first
    | ((with_reducible refine gate_dst (N := 2) rfl ?_); refine box_event ?hg (N := 2) ?hd (cs := #[.int .i64 kd, .int .u64 id, .int .u64 ver, .string text]) (t := 26) ?hr ?_; (case hd => rfl); (case hg => rfl); (case hr => first | (go_simp; done) | (go_simp; rfl)); intro gb hg w3 hbox hb; have HB3 := Aside0.mk hb; have c3 : w3.cell? ⟨gb, 3, none⟩ = some (.string text) := (blk_cell hbox 3).trans rfl; clear hg hbox hb)
    | (go_at_call 11; refine (alive_calls _).mono ?_; rintro e w7 ⟨rfl, hb⟩; have HB7 := Aside0.mk (HB3.out.trans (hb.mono HB3.out.size)); clear hb))
  go_ret
  exact ⟨rfl, HB7.out⟩
set_option maxHeartbeats 8000000 in
set_option maxRecDepth 100000 in
theorem nil_short {w : World} {kd id ver : Int} {text : ByteArray} (ht : ¬ 300 < text.size) (n : Int) :
    Calls Try.prog 7 #[.agg #[.int .i64 kd, .int .u64 id, .int .u64 ver, .string text], .int .i64 n] w fun e w' => e = .returned (.bool true) ∧ Below w.heap.size w w' := by
  have ct : decide (300 < (text.size : Int)) = false := decide_eq_false (by omega)
  have hg := Aside0.mk (fun W => nil_Get W id)
  have hp := Aside0.mk (fun W => nil_Policy W id)
  have hfd := fun (W : World) => status_next W LG.empty
  clear ht
  go_enter Try.func7, Try.ntmps7
  go_wp2_with (first
    | ((with_reducible refine gate_dst (N := 2) rfl ?_); refine box_event ?hg (N := 2) ?hd (cs := #[.int .i64 kd, .int .u64 id, .int .u64 ver, .string text]) (t := 26) ?hr ?_; (case hd => rfl); (case hg => rfl); (case hr => first | (go_simp; done) | (go_simp; rfl)); intro gb hg' w3 hbox hb; have HB3 := Aside0.mk hb; have BK3 := Aside0.mk hbox; have c1 : w3.cell? ⟨gb, 1, none⟩ = some (.int .u64 id) := (blk_cell hbox 1).trans rfl; have c3 : w3.cell? ⟨gb, 3, none⟩ = some (.string text) := (blk_cell hbox 3).trans rfl; clear hg' hbox hb)
    | (go_at_call 15; (with_reducible refine (hg.out _).mono ?_); rintro e w4 ⟨rfl, hb⟩; have n0_ := Aside0.mk (blk_alloc (blk_below BK3.out hb) (.cells #[.int .u64 0, .int .u64 0, .string ⟨#[]⟩] 42)); have HB4 := Aside0.mk (below_alloc (HB3.out.trans (hb.mono HB3.out.size)) (.cells #[.int .u64 0, .int .u64 0, .string ⟨#[]⟩] 42)); have K4 := Aside0.mk (blk_new w4 (.cells #[.int .u64 0, .int .u64 0, .string ⟨#[]⟩] 42)); have hz4 : gb < w4.heap.size := blk_lt (blk_below BK3.out hb); have d1 : w4.cell? ⟨gb, 1, none⟩ = some (.int .u64 id) := (blk_cell (blk_below BK3.out hb) 1).trans rfl; clear c1 c3; have BK4 := n0_; clear n0_ hb)
    | (go_at_call 22; (with_reducible refine (hp.out _).mono ?_); rintro e w5 ⟨rfl, rfl⟩)
    | (go_at_call 16; (with_reducible refine (nil_Stale _).mono ?_); rintro e w6 ⟨rfl, hb⟩; have HB6 := Aside0.mk (below_alloc (HB4.out.trans (hb.mono HB4.out.size)) (.cells #[.int .u64 0, .int .u64 0, .string ⟨#[]⟩] 42)); have BK6 := Aside0.mk (blk_alloc (blk_below BK4.out hb) (.cells #[.int .u64 0, .int .u64 0, .string ⟨#[]⟩] 42)); have K6 := Aside0.mk (blk_alloc (blk_below K4.out hb) (.cells #[.int .u64 0, .int .u64 0, .string ⟨#[]⟩] 42)); have J6 := Aside0.mk (blk_new w6 (.cells #[.int .u64 0, .int .u64 0, .string ⟨#[]⟩] 42)); clear hb d1 hz4)
    | (go_at_call 17; (with_reducible refine (nil_Load _).mono ?_); rintro e w7 ⟨g, b, v, rfl, hL, hb⟩; have HL7 := Aside0.mk hL; have HB7 := Aside0.mk (HB6.out.trans (hb.mono HB6.out.size)); have BK7 := Aside0.mk (blk_below BK6.out hb); have K7 := Aside0.mk (blk_below K6.out hb); have J7 := Aside0.mk (blk_below J6.out hb); clear hb hL)
    | (go_at_call 11; refine (alive_calls _).mono ?_; rintro e w8 ⟨rfl, hb⟩; have HL8 := Aside0.mk (HL7.out.below hb); have HB8 := Aside0.mk (HB7.out.trans (hb.mono HB7.out.size)); have BK8 := Aside0.mk (blk_below BK7.out hb); have K8 := Aside0.mk (blk_below K7.out hb); have J8 := Aside0.mk (blk_below J7.out hb); have c0 : w8.cell? ⟨gb, 0, none⟩ = some (.int .i64 kd) := (blk_cell BK8.out 0).trans rfl; have c1 : w8.cell? ⟨gb, 1, none⟩ = some (.int .u64 id) := (blk_cell BK8.out 1).trans rfl; have c2 : w8.cell? ⟨gb, 2, none⟩ = some (.int .u64 ver) := (blk_cell BK8.out 2).trans rfl; have c3 : w8.cell? ⟨gb, 3, none⟩ = some (.string text) := (blk_cell BK8.out 3).trans rfl; clear hb)
    | (go_at_call 10; (with_reducible refine (nil_Apply _ _ _ _ _).mono ?_); rintro e w9 ⟨rfl, hb⟩; have HL9 := Aside0.mk (HL8.out.below hb); have HB9 := Aside0.mk (HB8.out.trans (hb.mono HB8.out.size)); have K9 := blk_below K8.out hb; have J9 := blk_below J8.out hb; clear c0 c1 c2 c3; have y0 : w9.cell? ⟨w4.heap.size, 0, none⟩ = some (.int .u64 0) := (blk_cell K9 0).trans rfl; have y1 : w9.cell? ⟨w4.heap.size, 1, none⟩ = some (.int .u64 0) := (blk_cell K9 1).trans rfl; have y2 : w9.cell? ⟨w4.heap.size, 2, none⟩ = some (.string ⟨#[]⟩) := (blk_cell K9 2).trans rfl; have z0 : w9.cell? ⟨w6.heap.size, 0, none⟩ = some (.int .u64 0) := (blk_cell J9 0).trans rfl; have z1 : w9.cell? ⟨w6.heap.size, 1, none⟩ = some (.int .u64 0) := (blk_cell J9 1).trans rfl; have z2 : w9.cell? ⟨w6.heap.size, 2, none⟩ = some (.string ⟨#[]⟩) := (blk_cell J9 2).trans rfl; clear hb K9 J9)
    | (go_at_call 14; (with_reducible refine (nil_List _ _).mono ?_); rintro e w10 ⟨rfl, rfl⟩)
    | (go_at_call 13; (with_reducible refine (nil_Status _).mono ?_); rintro e w11 ⟨rfl, hb⟩; have HL11 := Aside0.mk (HL9.out.below hb); have HB11 := Aside0.mk (HB9.out.trans (hb.mono HB9.out.size)); clear hb)
    | (go_at_call 9; (with_reducible refine (nil_Pairs _).mono ?_); rintro e w12 ⟨rfl, rfl⟩)
    | (go_at_call 18; (with_reducible refine (nil_Copy _).mono ?_); rintro e w13 ⟨rfl, rfl⟩)
    | (go_at_call 13; (with_reducible refine (Status_calls HL11.out).mono ?_); rintro e w14 ⟨rfl, hb⟩; have HB14 := Aside0.mk (HB11.out.trans (hb.mono HB11.out.size)); clear hb))
  go_ret
  exact ⟨rfl, HB14.out⟩
/-- LedgerNil (7) -/
theorem nil_true {w : World} (r : RC) (hr : r.Wf) {n : Int} (hn : (Lit.int .i64 n).wf = true) : Calls Try.prog 7 #[recV r, .int .i64 n] w fun e w' => e = .returned (.bool true) ∧ Below w.heap.size w w' := by
  obtain ⟨kd, id, ver, text⟩ := r
  by_cases ht : 300 < text.size
  · exact nil_long ht n
  · exact nil_short ht n
end Go.Proofs.Ytjfkenjmjoncbaa.Lg
