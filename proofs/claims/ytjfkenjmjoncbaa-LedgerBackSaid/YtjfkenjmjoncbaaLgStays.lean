import Derived.Test.YtjfkenjmjoncbaaPAllx0
import Derived.Test.YtjfkenjmjoncbaaLgSame
import Derived.Test.YtjfkenjmjoncbaaLgAlive
namespace Go.Proofs.Ytjfkenjmjoncbaa.Lg
open Go Go.Maps Go.WideShapes Go.RowKit Go.Proofs.Ytjfkenjmjoncbaa.PAll Go.Proofs.YtjfkenjmjoncbaaW.PrintWords Go.Proofs.YtjfkenjmjoncbaaW.PrintLast Go.Proofs.YtjfkenjmjoncbaaW.PrintMore
set_option linter.unusedVariables false
set_option linter.unusedSimpArgs false

theorem play_ok {rs : List RC} (hg : ∀ r ∈ rs, r.Wf) : (play LG.empty rs).Ok ∧ (play LG.empty rs).Below :=
  play_ind (P := fun L => L.Ok ∧ L.Below) (G := RC.Wf) (fun L r h hr => ⟨LG.apply_ok h.1 hr, LG.apply_below h.2 r⟩) rs LG.empty ⟨LG.empty_ok, LG.empty_below⟩ hg
theorem Apply_agg {w : World} {B g b n : Nat} {v : Value} {L : LG} (h : Led w B g b n v L) (hB : B ≤ w.heap.size) (hn : n < maxLen) {kd id ver : Int} {text : ByteArray} (hr : RC.Wf ⟨kd, id, ver, text⟩) :
    Calls Try.prog 10 #[.pointer (some ⟨g, 0, none⟩), .agg #[.int .i64 kd, .int .u64 id, .int .u64 ver, .string text]] w fun e w' => e = .returned (.int .i64 (L.errno ⟨kd, id, ver, text⟩)) ∧ Did w w' B g b (n + 1) v (L.apply ⟨kd, id, ver, text⟩) := Apply_calls h hB hn ⟨kd, id, ver, text⟩ hr
theorem pairs_small {L : LG} (h : L.Ok) {n : Nat} (hl : L.posts.length ≤ n) (hn : n ≤ 1000000) : L.pairsS.length ≤ 3000000 := by
  rw [pairsS_len]
  have := h.pols
  omega
set_option maxHeartbeats 4000000 in
set_option maxRecDepth 100000 in
theorem stays_long {w : World} {A0 : Option Addr} {c0 : Nat} {l0 : List RC} (hC : Kd.C kRC w A0 l0.length l0) (hc : l0.length ≤ c0) (hm : l0.length ≤ maxLen) (hg : ∀ r ∈ l0, r.Wf) {kd id ver : Int} {text : ByteArray} (hr : RC.Wf ⟨kd, id, ver, text⟩) (ht : 300 < text.size) :
    Calls Try.prog 3 #[.slice A0 l0.length c0, .agg #[.int .i64 kd, .int .u64 id, .int .u64 ver, .string text]] w fun e w' => e = .returned (.bool true) ∧ Below w.heap.size w w' := by
  have HC := Aside0.mk hC
  have HG := Aside0.mk hg
  have HM := Aside0.mk hm
  have HCC := Aside0.mk hc
  have ct : decide (300 < (text.size : Int)) = true := decide_eq_true (by omega)
  clear hC hc hm hg hr ht
  go_enter Try.func3, Try.ntmps3
  go_wp2_with (first
    | ((with_reducible refine gate_dst (N := 3) rfl ?_); refine box_event ?hg (N := 3) ?hd (cs := #[.int .i64 kd, .int .u64 id, .int .u64 ver, .string text]) (t := 26) ?hr ?_; (case hd => rfl); (case hg => rfl); (case hr => first | (go_simp; done) | (go_simp; rfl)); intro gb hg w3 hbox hb; have HB3 := Aside0.mk hb; have BK3 := Aside0.mk hbox; clear hg hbox hb)
    | (go_at_call 8; refine (played_calls (Kd.C_below HC.out HB3.out) HCC.out HM.out HG.out).mono ?_; rintro e w4 ⟨g, b, v, rfl, hL, hb⟩; have HB4 := Aside0.mk (HB3.out.trans (hb.mono HB3.out.size)); have BK4 := blk_below BK3.out hb; have c3 : w4.cell? ⟨gb, 3, none⟩ = some (.string text) := (blk_cell BK4 3).trans rfl; clear hL hb BK4))
  go_ret
  exact ⟨rfl, HB4.out⟩
set_option maxHeartbeats 4000000 in
set_option maxRecDepth 100000 in
theorem stays_no {w : World} {A0 : Option Addr} {c0 : Nat} {l0 : List RC} (hC : Kd.C kRC w A0 l0.length l0) (hc : l0.length ≤ c0) (hm : l0.length ≤ maxLen) (hg : ∀ r ∈ l0, r.Wf) {kd id ver : Int} {text : ByteArray} (hr : RC.Wf ⟨kd, id, ver, text⟩) (ht : ¬ 300 < text.size)
    (ha : (play LG.empty (l0.take 50)).applies ⟨kd, id, ver, text⟩ = false) :
    Calls Try.prog 3 #[.slice A0 l0.length c0, .agg #[.int .i64 kd, .int .u64 id, .int .u64 ver, .string text]] w fun e w' => e = .returned (.bool true) ∧ Below w.heap.size w w' := by
  have HC := Aside0.mk hC
  have HG := Aside0.mk hg
  have HM := Aside0.mk hm
  have HCC := Aside0.mk hc
  have HWF := Aside0.mk hr
  have ct : decide (300 < (text.size : Int)) = false := decide_eq_false (by omega)
  have HOK := Aside0.mk (play_ok (rs := l0.take 50) (fun r h => hg r (List.mem_of_mem_take h)))
  obtain ⟨e1, e2⟩ := apply_no ha
  generalize hLL : play LG.empty (l0.take 50) = L at HOK e1 e2
  have HLL := Aside0.mk hLL
  have HE1 := Aside0.mk e1
  have HE2 := Aside0.mk e2
  clear hC hc hm hg hr ht ha hLL e1 e2
  go_enter Try.func3, Try.ntmps3
  go_wp2_with (first
    | ((with_reducible refine gate_dst (N := 3) rfl ?_); refine box_event ?hg (N := 3) ?hd (cs := #[.int .i64 kd, .int .u64 id, .int .u64 ver, .string text]) (t := 26) ?hr ?_; (case hd => rfl); (case hg => rfl); (case hr => first | (go_simp; done) | (go_simp; rfl)); intro gb hg w3 hbox hb; have HB3 := Aside0.mk hb; have BK3 := Aside0.mk hbox; clear hg hbox hb)
    | (go_at_call 8; refine (played_calls (Kd.C_below HC.out HB3.out) HCC.out HM.out HG.out).mono ?_; rintro e w4 ⟨g, b, v, rfl, hL, hb⟩; rw [HLL.out] at hL; have HL4 := Aside0.mk hL; have HB4 := Aside0.mk (HB3.out.trans (hb.mono HB3.out.size)); have HS4 := Aside0.mk hb.size; have BK4 := Aside0.mk (blk_below BK3.out hb); have c3 : w4.cell? ⟨gb, 3, none⟩ = some (.string text) := (blk_cell BK4.out 3).trans rfl; clear hL hb)
    | (go_at_call 9; (with_reducible refine (Pairs_calls HL4.out (by omega)).mono ?_); rintro e w5 ⟨u5, B5, rfl, hs, hp, hb⟩; have HP5 := Aside0.mk hp.top; have HS5 := Aside0.mk hs; have HL5 := Aside0.mk (HL4.out.below hb); have HB5 := Aside0.mk (HB4.out.trans (hb.mono HB4.out.size)); have HZ5 := Aside0.mk (Nat.le_trans HS4.out hb.size); have BK5 := blk_below BK4.out hb; clear c3; have c0 : w5.cell? ⟨gb, 0, none⟩ = some (.int .i64 kd) := (blk_cell BK5 0).trans rfl; have c1 : w5.cell? ⟨gb, 1, none⟩ = some (.int .u64 id) := (blk_cell BK5 1).trans rfl; have c2 : w5.cell? ⟨gb, 2, none⟩ = some (.int .u64 ver) := (blk_cell BK5 2).trans rfl; have c3 : w5.cell? ⟨gb, 3, none⟩ = some (.string text) := (blk_cell BK5 3).trans rfl; clear hs hp hb BK5)
    | (go_at_call 10; refine (Apply_agg HL5.out HZ5.out (by unfold maxLen; omega) HWF.out).mono ?_; rintro e w6 ⟨rfl, ⟨v6, hL, _⟩, hm⟩; rw [HE1.out] at hL; rw [HE2.out]; have HL6 := Aside0.mk hL; have HP6 := Aside0.mk (HP5.out.mv hm (fun j hj => .inl (Nat.lt_of_lt_of_le (HL4.out.lt hj).2 HS5.out))); have HB6 := Aside0.mk (mv_below HB5.out hm (fun j hj => Nat.le_trans HB3.out.size (HL5.out.lt hj).1) HB5.out.size); clear hL hm c0 c1 c2 c3)
    | (go_at_call 11; refine (alive_calls _).mono ?_; rintro e w7 ⟨rfl, hb⟩; have HL7 := Aside0.mk (HL6.out.below hb); have HP7 := Aside0.mk (HP6.out.below hb); have HB7 := Aside0.mk (HB6.out.trans (hb.mono HB6.out.size)); clear hb)
    | (go_at_call 9; (with_reducible refine (Pairs_calls HL7.out (by omega)).mono ?_); rintro e w8 ⟨u8, B8, rfl, hs, hp, hb⟩; have HP8 := Aside0.mk hp.top; have HO8 := Aside0.mk (HP7.out.below hb); have HB8 := Aside0.mk (HB7.out.trans (hb.mono HB7.out.size)); clear hs hp hb)
    | (go_at_call 12; (obtain ⟨rr, hrr, hcall⟩ := same_calls HP8.out HO8.out (pairsS_bytes _) (pairsS_bytes _) (pairs_small HOK.out.1 HL7.out.len (by omega))); obtain rfl := hrr.2 rfl; refine hcall.mono ?_; rintro e w9 ⟨rfl, hd⟩; have HB9 := Aside0.mk (HB8.out.trans ((drawn_below hd).mono HB8.out.size)); clear hd))
  go_ret
  exact ⟨rfl, HB9.out⟩
set_option maxHeartbeats 4000000 in
set_option maxRecDepth 100000 in
theorem stays_yes {w : World} {A0 : Option Addr} {c0 : Nat} {l0 : List RC} (hC : Kd.C kRC w A0 l0.length l0) (hc : l0.length ≤ c0) (hm : l0.length ≤ maxLen) (hg : ∀ r ∈ l0, r.Wf) {kd id ver : Int} {text : ByteArray} (hr : RC.Wf ⟨kd, id, ver, text⟩) (ht : ¬ 300 < text.size)
    (ha : (play LG.empty (l0.take 50)).applies ⟨kd, id, ver, text⟩ = true) :
    Calls Try.prog 3 #[.slice A0 l0.length c0, .agg #[.int .i64 kd, .int .u64 id, .int .u64 ver, .string text]] w fun e w' => e = .returned (.bool true) ∧ Below w.heap.size w w' := by
  have HC := Aside0.mk hC
  have HG := Aside0.mk hg
  have HM := Aside0.mk hm
  have HCC := Aside0.mk hc
  have HWF := Aside0.mk hr
  have ct : decide (300 < (text.size : Int)) = false := decide_eq_false (by omega)
  obtain ⟨hok1, hok2⟩ := play_ok (rs := l0.take 50) (fun r h => hg r (List.mem_of_mem_take h))
  obtain ⟨-, e2⟩ := apply_of ha
  obtain ⟨s1, s2⟩ := LG.stays hok1 hok2 hr ha
  obtain ⟨n1, n2⟩ := apply_no s1
  have hne : (play LG.empty (l0.take 50)).pairsS ≠ ((play LG.empty (l0.take 50)).apply ⟨kd, id, ver, text⟩).pairsS := fun h => s2 (by rw [← pairsS_pairs, ← pairsS_pairs, h])
  have hok3 := LG.apply_ok hok1 hr
  generalize hMM : (play LG.empty (l0.take 50)).apply ⟨kd, id, ver, text⟩ = M at n1 n2 hne hok3
  generalize hLL : play LG.empty (l0.take 50) = L at hok1 hne e2 hMM
  have HLL := Aside0.mk hLL
  have HMM := Aside0.mk hMM
  have HE2 := Aside0.mk e2
  have HN1 := Aside0.mk n1
  have HN2 := Aside0.mk n2
  have HNE := Aside0.mk hne
  have HOK := Aside0.mk hok1
  have HOM := Aside0.mk hok3
  clear hC hc hm hg hr ht ha hLL hMM e2 n1 n2 hne hok1 hok2 hok3 s1 s2
  go_enter Try.func3, Try.ntmps3
  go_wp2_with (first
    | ((with_reducible refine gate_dst (N := 3) rfl ?_); refine box_event ?hg (N := 3) ?hd (cs := #[.int .i64 kd, .int .u64 id, .int .u64 ver, .string text]) (t := 26) ?hr ?_; (case hd => rfl); (case hg => rfl); (case hr => first | (go_simp; done) | (go_simp; rfl)); intro gb hg w3 hbox hb; have HB3 := Aside0.mk hb; have BK3 := Aside0.mk hbox; have HGB := Aside0.mk (blk_lt hbox); clear hg hbox hb)
    | (go_at_call 8; refine (played_calls (Kd.C_below HC.out HB3.out) HCC.out HM.out HG.out).mono ?_; rintro e w4 ⟨g, b, v, rfl, hL, hb⟩; rw [HLL.out] at hL; have HL4 := Aside0.mk hL; have HB4 := Aside0.mk (HB3.out.trans (hb.mono HB3.out.size)); have HS4 := Aside0.mk hb.size; have BK4 := Aside0.mk (blk_below BK3.out hb); have c3 : w4.cell? ⟨gb, 3, none⟩ = some (.string text) := (blk_cell BK4.out 3).trans rfl; clear hL hb)
    | (go_at_call 9; (with_reducible refine (Pairs_calls HL4.out (by omega)).mono ?_); rintro e w5 ⟨u5, B5, rfl, hs, hp, hb⟩; have HP5 := Aside0.mk hp.top; have HS5 := Aside0.mk hs; have HL5 := Aside0.mk (HL4.out.below hb); have HB5 := Aside0.mk (HB4.out.trans (hb.mono HB4.out.size)); have HZ5 := Aside0.mk (Nat.le_trans HS4.out hb.size); have BK5 := Aside0.mk (blk_below BK4.out hb); clear c3; have c0 : w5.cell? ⟨gb, 0, none⟩ = some (.int .i64 kd) := (blk_cell BK5.out 0).trans rfl; have c1 : w5.cell? ⟨gb, 1, none⟩ = some (.int .u64 id) := (blk_cell BK5.out 1).trans rfl; have c2 : w5.cell? ⟨gb, 2, none⟩ = some (.int .u64 ver) := (blk_cell BK5.out 2).trans rfl; have c3 : w5.cell? ⟨gb, 3, none⟩ = some (.string text) := (blk_cell BK5.out 3).trans rfl; clear hs hp hb)
    | (go_at_call 10; (with_reducible refine (Apply_agg HL5.out HZ5.out (by unfold maxLen; omega) HWF.out).mono ?_); rintro e w6 ⟨rfl, ⟨v6, hL, hv6⟩, hm⟩; rw [HMM.out] at hL; rw [HE2.out]; have HL6 := Aside0.mk hL; have HV6 := Aside0.mk (show ∀ j, Owns g b v6 j → j < B5 ∨ w5.heap.size ≤ j from fun j hj => by rcases hj with h_ | h_ | h_; (· exact .inl (Nat.lt_of_lt_of_le (HL4.out.lt (.inl h_)).2 HS5.out)); (· exact .inl (Nat.lt_of_lt_of_le (HL4.out.lt (.inr (.inl h_))).2 HS5.out)); (· rcases hv6 j h_ with h2_ | h2_; (· exact .inl (Nat.lt_of_lt_of_le (HL4.out.lt (.inr (.inr h2_))).2 HS5.out)); (· exact .inr h2_))); have HP6 := Aside0.mk (HP5.out.mv hm (fun j hj => .inl (Nat.lt_of_lt_of_le (HL4.out.lt hj).2 HS5.out))); have HB6 := Aside0.mk (mv_below HB5.out hm (fun j hj => Nat.le_trans HB3.out.size (HL5.out.lt hj).1) HB5.out.size); have HZ6 := Aside0.mk (Nat.le_trans HZ5.out hm.size); have BK6 := Aside0.mk ((hm.block gb (blk_lt BK5.out) (fun hj => by have := (HL5.out.lt hj).1; have := HGB.out; omega)).trans BK5.out); clear hL hm c0 c1 c2 c3; have c0 : w6.cell? ⟨gb, 0, none⟩ = some (.int .i64 kd) := (blk_cell BK6.out 0).trans rfl; have c1 : w6.cell? ⟨gb, 1, none⟩ = some (.int .u64 id) := (blk_cell BK6.out 1).trans rfl; have c2 : w6.cell? ⟨gb, 2, none⟩ = some (.int .u64 ver) := (blk_cell BK6.out 2).trans rfl; have c3 : w6.cell? ⟨gb, 3, none⟩ = some (.string text) := (blk_cell BK6.out 3).trans rfl)
    | (go_at_call 9; (with_reducible refine (Pairs_calls HL6.out (by omega)).mono ?_); rintro e w7 ⟨u7, B7, rfl, hs, hp, hb⟩; have HP7 := Aside0.mk (HP6.out.below hb); have HQ7 := Aside0.mk hp.top; have HS7 := Aside0.mk hs; have HL7 := Aside0.mk (HL6.out.below hb); have HB7 := Aside0.mk (HB6.out.trans (hb.mono HB6.out.size)); have HZ7 := Aside0.mk (Nat.le_trans HZ6.out hb.size); have BK7 := Aside0.mk (blk_below BK6.out hb); clear c0 c1 c2 c3; have c0 : w7.cell? ⟨gb, 0, none⟩ = some (.int .i64 kd) := (blk_cell BK7.out 0).trans rfl; have c1 : w7.cell? ⟨gb, 1, none⟩ = some (.int .u64 id) := (blk_cell BK7.out 1).trans rfl; have c2 : w7.cell? ⟨gb, 2, none⟩ = some (.int .u64 ver) := (blk_cell BK7.out 2).trans rfl; have c3 : w7.cell? ⟨gb, 3, none⟩ = some (.string text) := (blk_cell BK7.out 3).trans rfl; clear hs hp hb)
    | (go_at_call 10; (with_reducible refine (Apply_agg HL7.out HZ7.out (by unfold maxLen; omega) HWF.out).mono ?_); rintro e w8 ⟨rfl, ⟨v8, hL, hv8⟩, hm⟩; rw [HN1.out] at hL; rw [HN2.out]; have HL8 := Aside0.mk hL; have HP8 := Aside0.mk (HP7.out.mv hm (fun j hj => HV6.out j hj)); have HQ8 := Aside0.mk (HQ7.out.mv hm (fun j hj => .inl (Nat.lt_of_lt_of_le (HL6.out.lt hj).2 HS7.out))); have HB8 := Aside0.mk (mv_below HB7.out hm (fun j hj => Nat.le_trans HB3.out.size (HL7.out.lt hj).1) HB7.out.size); clear hL hm c0 c1 c2 c3)
    | (go_at_call 11; refine (alive_calls _).mono ?_; rintro e w9 ⟨rfl, hb⟩; have HL9 := Aside0.mk (HL8.out.below hb); have HP9 := Aside0.mk (HP8.out.below hb); have HQ9 := Aside0.mk (HQ8.out.below hb); have HB9 := Aside0.mk (HB8.out.trans (hb.mono HB8.out.size)); clear hb)
    | (go_at_call 9; (with_reducible refine (Pairs_calls HL9.out (by omega)).mono ?_); rintro e w10 ⟨u10, B10, rfl, hs, hp, hb⟩; have HR10 := Aside0.mk hp.top; have HP10 := Aside0.mk (HP9.out.below hb); have HQ10 := Aside0.mk (HQ9.out.below hb); have HB10 := Aside0.mk (HB9.out.trans (hb.mono HB9.out.size)); clear hs hp hb)
    | (go_at_call 12; (obtain ⟨rr, hrr, hcall⟩ := same_calls HR10.out HQ10.out (pairsS_bytes _) (pairsS_bytes _) (pairs_small HOM.out HL9.out.len (by omega))); (with_reducible refine hcall.mono ?_); obtain rfl := hrr.2 rfl; rintro e w11 ⟨rfl, hd⟩; have HP11 := Aside0.mk (HP10.out.below (drawn_below hd)); have HQ11 := Aside0.mk (HQ10.out.below (drawn_below hd)); have HB11 := Aside0.mk (HB10.out.trans ((drawn_below hd).mono HB10.out.size)); clear hd)
    | (go_at_call 12; (obtain ⟨rr, hrr, hcall⟩ := same_calls HP11.out HQ11.out (pairsS_bytes _) (pairsS_bytes _) (pairs_small HOK.out HL5.out.len (by omega))); (with_reducible refine hcall.mono ?_); (obtain rfl : rr = false := by cases rr; rfl; exact absurd (hrr.1 rfl) HNE.out); rintro e w12 ⟨rfl, hd⟩; have HB12 := Aside0.mk (HB11.out.trans ((drawn_below hd).mono HB11.out.size)); clear hd))
  go_ret
  exact ⟨rfl, HB12.out⟩
/-- LedgerStays (3) -/
theorem stays_true {w : World} {A0 : Option Addr} {c0 : Nat} {l0 : List RC} (hC : Kd.C kRC w A0 l0.length l0) (hc : l0.length ≤ c0) (hm : l0.length ≤ maxLen) (hg : ∀ r ∈ l0, r.Wf) (r : RC) (hr : r.Wf) :
    Calls Try.prog 3 #[.slice A0 l0.length c0, recV r] w fun e w' => e = .returned (.bool true) ∧ Below w.heap.size w w' := by
  obtain ⟨kd, id, ver, text⟩ := r
  by_cases ht : 300 < text.size
  · exact stays_long hC hc hm hg hr ht
  · cases ha : (play LG.empty (l0.take 50)).applies ⟨kd, id, ver, text⟩
    · exact stays_no hC hc hm hg hr ht ha
    · exact stays_yes hC hc hm hg hr ht ha
end Go.Proofs.Ytjfkenjmjoncbaa.Lg
