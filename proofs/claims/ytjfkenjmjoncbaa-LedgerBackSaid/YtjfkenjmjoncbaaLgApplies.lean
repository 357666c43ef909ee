import Derived.Test.YtjfkenjmjoncbaaPAllx0
import Derived.Test.YtjfkenjmjoncbaaPAllx1
import Derived.Test.YtjfkenjmjoncbaaLgStale
namespace Go.Proofs.Ytjfkenjmjoncbaa.Lg
open Go Go.Maps Go.WideShapes Go.RowKit Go.Proofs.Ytjfkenjmjoncbaa.PAll Go.Proofs.YtjfkenjmjoncbaaW.PrintWords Go.Proofs.YtjfkenjmjoncbaaW.PrintLast Go.Proofs.YtjfkenjmjoncbaaW.PrintMore
set_option linter.unusedVariables false
set_option linter.unusedSimpArgs false

theorem check_is (r : RC) : record_Check.f 3 r.kind r.id r.ver r.text = some (if r.ok = true then 0 else 1) := by
  obtain ⟨a, b, c, s⟩ := r
  have hn : s.toList = ([] : List UInt8) ↔ s = ByteArray.empty := by
    rw [ByteArray.toList_eq]
    constructor
    · intro h
      cases s
      rename_i d
      cases d
      simp at h
      subst h
      rfl
    · intro h
      rw [h]
      rfl
  have hbe : (s.toList == ([] : List UInt8)) = decide (s = ByteArray.empty) := by
    rw [Bool.eq_iff_iff, beq_iff_eq, decide_eq_true_eq]
    exact hn
  unfold RC.ok
  simp only [record_Check.f, record_Check.j0, record_Check.j1, record_Check.j2, hbe]
  by_cases h1 : a = 1
  · subst h1
    by_cases h2 : b > 0 <;> by_cases h3 : c > 0 <;> by_cases h4 : s.size ≤ 4096 <;> simp [h2, h3, h4] <;> omega
  by_cases h4 : a = 4
  · subst h4
    by_cases h2 : b > 0 <;> by_cases h3 : c > 0 <;> by_cases h4 : s.size ≤ 4096 <;> simp [h2, h3, h4] <;> omega
  by_cases h2 : a = 2
  · subst h2
    by_cases h2 : b > 0 <;> by_cases h3 : c = 0 <;> by_cases h4 : s = ByteArray.empty <;> simp [h2, h3, h4]
  by_cases h3 : a = 3
  · subst h3
    by_cases h2 : b = 0 <;> by_cases h3 : c > 0 <;> by_cases h4 : s.size ≤ 2000 <;> simp [h2, h3, h4] <;> omega
  simp [h1, h2, h3, h4]
def recV (r : RC) : Value := .agg #[.int .i64 r.kind, .int .u64 r.id, .int .u64 r.ver, .string r.text]
theorem newest_wrap {L : LG} (h : L.Ok) : IntKind.u64.wrap (L.newest + 1) = L.newest + 1 := by
  have := h.pols
  unfold LG.newest
  simp [IntKind.wrap, IntKind.bits, IntKind.signed]
  omega
theorem look_run {w : World} {b n : Nat} {L : LG} {id : Int} (hown : w.ownsMap Try.prog 24 postR b n (mapD L.posts)) (hkey : keyOf Try.prog 24 (.int .u64 id) = some (.int .u64 id)) :
    (Instr.lookup 67 (.map (some b)) (.int .u64 id) true).run Try.prog w = .ok (.tuple #[.agg #[.int .u64 (L.get id).id, .int .u64 (L.get id).ver, .string (L.get id).text], .bool (L.is id)]) w := by
  obtain ⟨v, ps, hrun, hv⟩ := hown.look_ok law24 Try.underlying67 (zero42 w) (postR_mk zeroP) hkey
  rw [get_at hv, mapD_has] at hrun
  exact hrun
set_option maxHeartbeats 4000000 in
set_option maxRecDepth 100000 in
theorem applies_not {w : World} {B g b n : Nat} {v : Value} {L : LG} (h : Led w B g b n v L) {kd id ver : Int} {text : ByteArray} (hid : 0 ≤ id ∧ id ≤ 18446744073709551615) (hok : (RC.ok ⟨kd, id, ver, text⟩) = false) (hkd : True) :
    Calls Try.prog 27 #[.pointer (some ⟨g, 0, none⟩), .agg #[.int .i64 kd, .int .u64 id, .int .u64 ver, .string text]] w fun e w' => e = .returned (.bool (L.applies ⟨kd, id, ver, text⟩)) ∧ Below w.heap.size w w' := by
  have HID := Aside0.mk hid
  have HC := Aside0.mk (check_is ⟨kd, id, ver, text⟩)
  rw [hok] at HC
  have HH := Aside0.mk h
  clear h hid
  have ha : L.applies ⟨kd, id, ver, text⟩ = false := by unfold LG.applies; rw [hok]; rfl
  rw [ha]
  clear hok hkd ha
  simp only [Bool.false_eq_true, if_false] at HC
  go_enter Try.func27, Try.ntmps27
  go_wp2_with (first
    | ((with_reducible refine gate_dst (N := 3) rfl ?_); refine box_event ?hg (N := 3) ?hd (cs := #[.int .i64 kd, .int .u64 id, .int .u64 ver, .string text]) (t := 26) ?hr ?_; (case hd => rfl); (case hg => rfl); (case hr => first | (go_simp; done) | (go_simp; rfl)); intro gb hg w3 hbox hb; have HB3 := Aside0.mk hb; have BK3 := Aside0.mk hbox; have c0 : w3.cell? ⟨gb, 0, none⟩ = some (.int .i64 kd) := (blk_cell hbox 0).trans rfl; have c1 : w3.cell? ⟨gb, 1, none⟩ = some (.int .u64 id) := (blk_cell hbox 1).trans rfl; have c2 : w3.cell? ⟨gb, 2, none⟩ = some (.int .u64 ver) := (blk_cell hbox 2).trans rfl; have c3 : w3.cell? ⟨gb, 3, none⟩ = some (.string text) := (blk_cell hbox 3).trans rfl; clear hg hbox hb)
    | (go_at_call 44; refine (record_Check.calls 3 _ _ _ _ _ _ HC.out).mono ?_; rintro e w4 ⟨rfl, hb4⟩; have HB4 := Aside0.mk (HB3.out.trans (hb4.mono HB3.out.size)); have BK4 := Aside0.mk (blk_below BK3.out hb4); clear c0 c1 c2 c3; have c0 : w4.cell? ⟨gb, 0, none⟩ = some (.int .i64 kd) := (blk_cell BK4.out 0).trans rfl; have c1 : w4.cell? ⟨gb, 1, none⟩ = some (.int .u64 id) := (blk_cell BK4.out 1).trans rfl; have c2 : w4.cell? ⟨gb, 2, none⟩ = some (.int .u64 ver) := (blk_cell BK4.out 2).trans rfl; have c3 : w4.cell? ⟨gb, 3, none⟩ = some (.string text) := (blk_cell BK4.out 3).trans rfl; have HL4 := Aside0.mk (HH.out.below HB4.out); obtain ⟨⟨h0, h1, h2, h3⟩, hf⟩ := HL4.out.cells; have HM4 := Aside0.mk HL4.out.map; have hgl : g < w4.heap.size := (HL4.out.lt (.inl rfl)).2; have hgb : gb < w4.heap.size := blk_lt BK4.out; have HN := Aside0.mk (fun m => newest_calls (HL4.out.below (pw_below_drewN (Below.refl _ _) m))); clear hb4))
  go_ret
  exact ⟨rfl, by repeat (first | exact HB4.out | apply Below.drew | apply below_alloc | apply pw_below_drewN | apply below_drew1)⟩
set_option maxHeartbeats 4000000 in
set_option maxRecDepth 100000 in
theorem applies_post {w : World} {B g b n : Nat} {v : Value} {L : LG} (h : Led w B g b n v L) {kd id ver : Int} {text : ByteArray} (hid : 0 ≤ id ∧ id ≤ 18446744073709551615) (hok : (RC.ok ⟨kd, id, ver, text⟩) = true) (hkd : kd = 1) :
    Calls Try.prog 27 #[.pointer (some ⟨g, 0, none⟩), .agg #[.int .i64 kd, .int .u64 id, .int .u64 ver, .string text]] w fun e w' => e = .returned (.bool (L.applies ⟨kd, id, ver, text⟩)) ∧ Below w.heap.size w w' := by
  have HID := Aside0.mk hid
  have HC := Aside0.mk (check_is ⟨kd, id, ver, text⟩)
  rw [hok] at HC
  have HH := Aside0.mk h
  clear h hid
  subst hkd
  have ha : L.applies ⟨1, id, ver, text⟩ = (decide (id = L.next) && decide (id < 9223372036854775807) && decide (ver = L.newest)) := by unfold LG.applies; rw [hok]; rfl
  rw [ha]
  clear hok ha
  simp only [if_true] at HC
  by_cases e1 : id = L.next
  · have e1b : (id == L.next) = true := beq_iff_eq.2 e1
    by_cases e2 : id < 9223372036854775807
    · have e2b : decide (id < 9223372036854775807) = true := decide_eq_true e2
      rw [e2b, show decide (id = L.next) = true from decide_eq_true e1, show decide (ver = L.newest) = (ver == L.newest) from rfl]
      clear e1 e2
      go_enter Try.func27, Try.ntmps27
      go_wp2_with (first
        | ((with_reducible refine gate_dst (N := 3) rfl ?_); refine box_event ?hg (N := 3) ?hd (cs := #[.int .i64 1, .int .u64 id, .int .u64 ver, .string text]) (t := 26) ?hr ?_; (case hd => rfl); (case hg => rfl); (case hr => first | (go_simp; done) | (go_simp; rfl)); intro gb hg w3 hbox hb; have HB3 := Aside0.mk hb; have BK3 := Aside0.mk hbox; have c0 : w3.cell? ⟨gb, 0, none⟩ = some (.int .i64 1) := (blk_cell hbox 0).trans rfl; have c1 : w3.cell? ⟨gb, 1, none⟩ = some (.int .u64 id) := (blk_cell hbox 1).trans rfl; have c2 : w3.cell? ⟨gb, 2, none⟩ = some (.int .u64 ver) := (blk_cell hbox 2).trans rfl; have c3 : w3.cell? ⟨gb, 3, none⟩ = some (.string text) := (blk_cell hbox 3).trans rfl; clear hg hbox hb)
        | (go_at_call 44; refine (record_Check.calls 3 _ _ _ _ _ _ HC.out).mono ?_; rintro e w4 ⟨rfl, hb4⟩; have HB4 := Aside0.mk (HB3.out.trans (hb4.mono HB3.out.size)); have BK4 := Aside0.mk (blk_below BK3.out hb4); clear c0 c1 c2 c3; have c0 : w4.cell? ⟨gb, 0, none⟩ = some (.int .i64 1) := (blk_cell BK4.out 0).trans rfl; have c1 : w4.cell? ⟨gb, 1, none⟩ = some (.int .u64 id) := (blk_cell BK4.out 1).trans rfl; have c2 : w4.cell? ⟨gb, 2, none⟩ = some (.int .u64 ver) := (blk_cell BK4.out 2).trans rfl; have c3 : w4.cell? ⟨gb, 3, none⟩ = some (.string text) := (blk_cell BK4.out 3).trans rfl; have HL4 := Aside0.mk (HH.out.below HB4.out); obtain ⟨⟨h0, h1, h2, h3⟩, hf⟩ := HL4.out.cells; have HM4 := Aside0.mk HL4.out.map; have hgl : g < w4.heap.size := (HL4.out.lt (.inl rfl)).2; have hgb : gb < w4.heap.size := blk_lt BK4.out; have HN := Aside0.mk (fun m => newest_calls (HL4.out.below (pw_below_drewN (Below.refl _ _) m))); clear hb4))
      go_quiet ((go_at_call 26; refine Calls.quiet_of_same (HN.out _)))
      go_wp2
      go_ret
      exact ⟨rfl, by repeat (first | exact HB4.out | apply Below.drew | apply below_alloc | apply pw_below_drewN | apply below_drew1)⟩
    · have e2b : decide (id < 9223372036854775807) = false := decide_eq_false e2
      rw [e2b, Bool.and_false, Bool.false_and]
      clear e1 e2
      go_enter Try.func27, Try.ntmps27
      go_wp2_with (first
        | ((with_reducible refine gate_dst (N := 3) rfl ?_); refine box_event ?hg (N := 3) ?hd (cs := #[.int .i64 1, .int .u64 id, .int .u64 ver, .string text]) (t := 26) ?hr ?_; (case hd => rfl); (case hg => rfl); (case hr => first | (go_simp; done) | (go_simp; rfl)); intro gb hg w3 hbox hb; have HB3 := Aside0.mk hb; have BK3 := Aside0.mk hbox; have c0 : w3.cell? ⟨gb, 0, none⟩ = some (.int .i64 1) := (blk_cell hbox 0).trans rfl; have c1 : w3.cell? ⟨gb, 1, none⟩ = some (.int .u64 id) := (blk_cell hbox 1).trans rfl; have c2 : w3.cell? ⟨gb, 2, none⟩ = some (.int .u64 ver) := (blk_cell hbox 2).trans rfl; have c3 : w3.cell? ⟨gb, 3, none⟩ = some (.string text) := (blk_cell hbox 3).trans rfl; clear hg hbox hb)
        | (go_at_call 44; refine (record_Check.calls 3 _ _ _ _ _ _ HC.out).mono ?_; rintro e w4 ⟨rfl, hb4⟩; have HB4 := Aside0.mk (HB3.out.trans (hb4.mono HB3.out.size)); have BK4 := Aside0.mk (blk_below BK3.out hb4); clear c0 c1 c2 c3; have c0 : w4.cell? ⟨gb, 0, none⟩ = some (.int .i64 1) := (blk_cell BK4.out 0).trans rfl; have c1 : w4.cell? ⟨gb, 1, none⟩ = some (.int .u64 id) := (blk_cell BK4.out 1).trans rfl; have c2 : w4.cell? ⟨gb, 2, none⟩ = some (.int .u64 ver) := (blk_cell BK4.out 2).trans rfl; have c3 : w4.cell? ⟨gb, 3, none⟩ = some (.string text) := (blk_cell BK4.out 3).trans rfl; have HL4 := Aside0.mk (HH.out.below HB4.out); obtain ⟨⟨h0, h1, h2, h3⟩, hf⟩ := HL4.out.cells; have HM4 := Aside0.mk HL4.out.map; have hgl : g < w4.heap.size := (HL4.out.lt (.inl rfl)).2; have hgb : gb < w4.heap.size := blk_lt BK4.out; have HN := Aside0.mk (fun m => newest_calls (HL4.out.below (pw_below_drewN (Below.refl _ _) m))); clear hb4))
      go_quiet ((go_at_call 26; refine Calls.quiet_of_same (HN.out _)))
      go_wp2
      go_ret
      exact ⟨rfl, by repeat (first | exact HB4.out | apply Below.drew | apply below_alloc | apply pw_below_drewN | apply below_drew1)⟩
  · have e1b : (id == L.next) = false := beq_eq_false_iff_ne.2 e1
    rw [show decide (id = L.next) = false from decide_eq_false e1, Bool.false_and, Bool.false_and]
    clear e1
    go_enter Try.func27, Try.ntmps27
    go_wp2_with (first
      | ((with_reducible refine gate_dst (N := 3) rfl ?_); refine box_event ?hg (N := 3) ?hd (cs := #[.int .i64 1, .int .u64 id, .int .u64 ver, .string text]) (t := 26) ?hr ?_; (case hd => rfl); (case hg => rfl); (case hr => first | (go_simp; done) | (go_simp; rfl)); intro gb hg w3 hbox hb; have HB3 := Aside0.mk hb; have BK3 := Aside0.mk hbox; have c0 : w3.cell? ⟨gb, 0, none⟩ = some (.int .i64 1) := (blk_cell hbox 0).trans rfl; have c1 : w3.cell? ⟨gb, 1, none⟩ = some (.int .u64 id) := (blk_cell hbox 1).trans rfl; have c2 : w3.cell? ⟨gb, 2, none⟩ = some (.int .u64 ver) := (blk_cell hbox 2).trans rfl; have c3 : w3.cell? ⟨gb, 3, none⟩ = some (.string text) := (blk_cell hbox 3).trans rfl; clear hg hbox hb)
      | (go_at_call 44; refine (record_Check.calls 3 _ _ _ _ _ _ HC.out).mono ?_; rintro e w4 ⟨rfl, hb4⟩; have HB4 := Aside0.mk (HB3.out.trans (hb4.mono HB3.out.size)); have BK4 := Aside0.mk (blk_below BK3.out hb4); clear c0 c1 c2 c3; have c0 : w4.cell? ⟨gb, 0, none⟩ = some (.int .i64 1) := (blk_cell BK4.out 0).trans rfl; have c1 : w4.cell? ⟨gb, 1, none⟩ = some (.int .u64 id) := (blk_cell BK4.out 1).trans rfl; have c2 : w4.cell? ⟨gb, 2, none⟩ = some (.int .u64 ver) := (blk_cell BK4.out 2).trans rfl; have c3 : w4.cell? ⟨gb, 3, none⟩ = some (.string text) := (blk_cell BK4.out 3).trans rfl; have HL4 := Aside0.mk (HH.out.below HB4.out); obtain ⟨⟨h0, h1, h2, h3⟩, hf⟩ := HL4.out.cells; have HM4 := Aside0.mk HL4.out.map; have hgl : g < w4.heap.size := (HL4.out.lt (.inl rfl)).2; have hgb : gb < w4.heap.size := blk_lt BK4.out; have HN := Aside0.mk (fun m => newest_calls (HL4.out.below (pw_below_drewN (Below.refl _ _) m))); clear hb4))
    go_quiet ((go_at_call 26; refine Calls.quiet_of_same (HN.out _)))
    go_wp2
    go_ret
    exact ⟨rfl, by repeat (first | exact HB4.out | apply Below.drew | apply below_alloc | apply pw_below_drewN | apply below_drew1)⟩
set_option maxHeartbeats 4000000 in
set_option maxRecDepth 100000 in
theorem applies_delete {w : World} {B g b n : Nat} {v : Value} {L : LG} (h : Led w B g b n v L) {kd id ver : Int} {text : ByteArray} (hid : 0 ≤ id ∧ id ≤ 18446744073709551615) (hok : (RC.ok ⟨kd, id, ver, text⟩) = true) (hkd : kd = 2) :
    Calls Try.prog 27 #[.pointer (some ⟨g, 0, none⟩), .agg #[.int .i64 kd, .int .u64 id, .int .u64 ver, .string text]] w fun e w' => e = .returned (.bool (L.applies ⟨kd, id, ver, text⟩)) ∧ Below w.heap.size w w' := by
  have HID := Aside0.mk hid
  have HC := Aside0.mk (check_is ⟨kd, id, ver, text⟩)
  rw [hok] at HC
  have HH := Aside0.mk h
  clear h hid
  subst hkd
  have ha : L.applies ⟨2, id, ver, text⟩ = L.is id := by unfold LG.applies; rw [hok]; rfl
  rw [ha]
  clear hok ha
  simp only [if_true] at HC
  have hk := Aside0.mk (keyOf_int_mk Try.underlying24 (wf64 HID.out))
  go_enter Try.func27, Try.ntmps27
  go_wp2_with (first
    | ((with_reducible refine gate_dst (N := 3) rfl ?_); refine box_event ?hg (N := 3) ?hd (cs := #[.int .i64 2, .int .u64 id, .int .u64 ver, .string text]) (t := 26) ?hr ?_; (case hd => rfl); (case hg => rfl); (case hr => first | (go_simp; done) | (go_simp; rfl)); intro gb hg w3 hbox hb; have HB3 := Aside0.mk hb; have BK3 := Aside0.mk hbox; have c0 : w3.cell? ⟨gb, 0, none⟩ = some (.int .i64 2) := (blk_cell hbox 0).trans rfl; have c1 : w3.cell? ⟨gb, 1, none⟩ = some (.int .u64 id) := (blk_cell hbox 1).trans rfl; have c2 : w3.cell? ⟨gb, 2, none⟩ = some (.int .u64 ver) := (blk_cell hbox 2).trans rfl; have c3 : w3.cell? ⟨gb, 3, none⟩ = some (.string text) := (blk_cell hbox 3).trans rfl; clear hg hbox hb)
    | (go_at_call 44; refine (record_Check.calls 3 _ _ _ _ _ _ HC.out).mono ?_; rintro e w4 ⟨rfl, hb4⟩; have HB4 := Aside0.mk (HB3.out.trans (hb4.mono HB3.out.size)); have BK4 := Aside0.mk (blk_below BK3.out hb4); clear c0 c1 c2 c3; have c0 : w4.cell? ⟨gb, 0, none⟩ = some (.int .i64 2) := (blk_cell BK4.out 0).trans rfl; have c1 : w4.cell? ⟨gb, 1, none⟩ = some (.int .u64 id) := (blk_cell BK4.out 1).trans rfl; have c2 : w4.cell? ⟨gb, 2, none⟩ = some (.int .u64 ver) := (blk_cell BK4.out 2).trans rfl; have c3 : w4.cell? ⟨gb, 3, none⟩ = some (.string text) := (blk_cell BK4.out 3).trans rfl; have HL4 := Aside0.mk (HH.out.below HB4.out); obtain ⟨⟨h0, h1, h2, h3⟩, hf⟩ := HL4.out.cells; have HM4 := Aside0.mk HL4.out.map; have hgl : g < w4.heap.size := (HL4.out.lt (.inl rfl)).2; have hgb : gb < w4.heap.size := blk_lt BK4.out; have HN := Aside0.mk (fun m => newest_calls (HL4.out.below (pw_below_drewN (Below.refl _ _) m))); clear hb4))
  have hl1 := look_run HM4.out.drew hk.out
  have hl2 := look_run (HM4.out.alloc (.cells #[.int .u64 0, .int .u64 0, .string ⟨#[]⟩] 42)).drew hk.out
  go_region
  all_goals go_wp2
  all_goals (go_ret; exact ⟨rfl, by repeat (first | exact HB4.out | apply Below.drew | apply below_alloc | apply pw_below_drewN | apply below_drew1)⟩)
set_option maxHeartbeats 4000000 in
set_option maxRecDepth 100000 in
theorem applies_policy {w : World} {B g b n : Nat} {v : Value} {L : LG} (h : Led w B g b n v L) {kd id ver : Int} {text : ByteArray} (hid : 0 ≤ id ∧ id ≤ 18446744073709551615) (hok : (RC.ok ⟨kd, id, ver, text⟩) = true) (hkd : kd = 3) :
    Calls Try.prog 27 #[.pointer (some ⟨g, 0, none⟩), .agg #[.int .i64 kd, .int .u64 id, .int .u64 ver, .string text]] w fun e w' => e = .returned (.bool (L.applies ⟨kd, id, ver, text⟩)) ∧ Below w.heap.size w w' := by
  have HID := Aside0.mk hid
  have HC := Aside0.mk (check_is ⟨kd, id, ver, text⟩)
  rw [hok] at HC
  have HH := Aside0.mk h
  clear h hid
  subst hkd
  have ha : L.applies ⟨3, id, ver, text⟩ = (decide (ver = L.newest + 1) && decide (ver ≤ 100)) := by unfold LG.applies; rw [hok]; rfl
  rw [ha]
  clear hok ha
  simp only [if_true] at HC
  obtain ⟨nx, hnx⟩ : ∃ nx, L.newest + 1 = nx := ⟨_, rfl⟩
  have hw : IntKind.u64.wrap (L.newest + 1) = nx := (newest_wrap HH.out.ok).trans hnx
  rw [hnx]
  by_cases e1 : ver = nx
  · have e1b : (ver == nx) = true := beq_iff_eq.2 e1
    rw [show decide (ver = nx) = true from decide_eq_true e1, Bool.true_and]
    clear e1 hnx
    go_enter Try.func27, Try.ntmps27
    go_wp2_with (first
      | ((with_reducible refine gate_dst (N := 3) rfl ?_); refine box_event ?hg (N := 3) ?hd (cs := #[.int .i64 3, .int .u64 id, .int .u64 ver, .string text]) (t := 26) ?hr ?_; (case hd => rfl); (case hg => rfl); (case hr => first | (go_simp; done) | (go_simp; rfl)); intro gb hg w3 hbox hb; have HB3 := Aside0.mk hb; have BK3 := Aside0.mk hbox; have c0 : w3.cell? ⟨gb, 0, none⟩ = some (.int .i64 3) := (blk_cell hbox 0).trans rfl; have c1 : w3.cell? ⟨gb, 1, none⟩ = some (.int .u64 id) := (blk_cell hbox 1).trans rfl; have c2 : w3.cell? ⟨gb, 2, none⟩ = some (.int .u64 ver) := (blk_cell hbox 2).trans rfl; have c3 : w3.cell? ⟨gb, 3, none⟩ = some (.string text) := (blk_cell hbox 3).trans rfl; clear hg hbox hb)
      | (go_at_call 44; refine (record_Check.calls 3 _ _ _ _ _ _ HC.out).mono ?_; rintro e w4 ⟨rfl, hb4⟩; have HB4 := Aside0.mk (HB3.out.trans (hb4.mono HB3.out.size)); have BK4 := Aside0.mk (blk_below BK3.out hb4); clear c0 c1 c2 c3; have c0 : w4.cell? ⟨gb, 0, none⟩ = some (.int .i64 3) := (blk_cell BK4.out 0).trans rfl; have c1 : w4.cell? ⟨gb, 1, none⟩ = some (.int .u64 id) := (blk_cell BK4.out 1).trans rfl; have c2 : w4.cell? ⟨gb, 2, none⟩ = some (.int .u64 ver) := (blk_cell BK4.out 2).trans rfl; have c3 : w4.cell? ⟨gb, 3, none⟩ = some (.string text) := (blk_cell BK4.out 3).trans rfl; have HL4 := Aside0.mk (HH.out.below HB4.out); obtain ⟨⟨h0, h1, h2, h3⟩, hf⟩ := HL4.out.cells; have HM4 := Aside0.mk HL4.out.map; have hgl : g < w4.heap.size := (HL4.out.lt (.inl rfl)).2; have hgb : gb < w4.heap.size := blk_lt BK4.out; have HN := Aside0.mk (fun m => newest_calls (HL4.out.below (pw_below_drewN (Below.refl _ _) m))); clear hb4))
    go_quiet ((go_at_call 26; refine Calls.quiet_of_same (HN.out _)))
    go_wp2
    go_ret
    exact ⟨rfl, by repeat (first | exact HB4.out | apply Below.drew | apply below_alloc | apply pw_below_drewN | apply below_drew1)⟩
  · have e1b : (ver == nx) = false := beq_eq_false_iff_ne.2 e1
    rw [show decide (ver = nx) = false from decide_eq_false e1, Bool.false_and]
    clear e1 hnx
    go_enter Try.func27, Try.ntmps27
    go_wp2_with (first
      | ((with_reducible refine gate_dst (N := 3) rfl ?_); refine box_event ?hg (N := 3) ?hd (cs := #[.int .i64 3, .int .u64 id, .int .u64 ver, .string text]) (t := 26) ?hr ?_; (case hd => rfl); (case hg => rfl); (case hr => first | (go_simp; done) | (go_simp; rfl)); intro gb hg w3 hbox hb; have HB3 := Aside0.mk hb; have BK3 := Aside0.mk hbox; have c0 : w3.cell? ⟨gb, 0, none⟩ = some (.int .i64 3) := (blk_cell hbox 0).trans rfl; have c1 : w3.cell? ⟨gb, 1, none⟩ = some (.int .u64 id) := (blk_cell hbox 1).trans rfl; have c2 : w3.cell? ⟨gb, 2, none⟩ = some (.int .u64 ver) := (blk_cell hbox 2).trans rfl; have c3 : w3.cell? ⟨gb, 3, none⟩ = some (.string text) := (blk_cell hbox 3).trans rfl; clear hg hbox hb)
      | (go_at_call 44; refine (record_Check.calls 3 _ _ _ _ _ _ HC.out).mono ?_; rintro e w4 ⟨rfl, hb4⟩; have HB4 := Aside0.mk (HB3.out.trans (hb4.mono HB3.out.size)); have BK4 := Aside0.mk (blk_below BK3.out hb4); clear c0 c1 c2 c3; have c0 : w4.cell? ⟨gb, 0, none⟩ = some (.int .i64 3) := (blk_cell BK4.out 0).trans rfl; have c1 : w4.cell? ⟨gb, 1, none⟩ = some (.int .u64 id) := (blk_cell BK4.out 1).trans rfl; have c2 : w4.cell? ⟨gb, 2, none⟩ = some (.int .u64 ver) := (blk_cell BK4.out 2).trans rfl; have c3 : w4.cell? ⟨gb, 3, none⟩ = some (.string text) := (blk_cell BK4.out 3).trans rfl; have HL4 := Aside0.mk (HH.out.below HB4.out); obtain ⟨⟨h0, h1, h2, h3⟩, hf⟩ := HL4.out.cells; have HM4 := Aside0.mk HL4.out.map; have hgl : g < w4.heap.size := (HL4.out.lt (.inl rfl)).2; have hgb : gb < w4.heap.size := blk_lt BK4.out; have HN := Aside0.mk (fun m => newest_calls (HL4.out.below (pw_below_drewN (Below.refl _ _) m))); clear hb4))
    go_quiet ((go_at_call 26; refine Calls.quiet_of_same (HN.out _)))
    go_wp2
    go_ret
    exact ⟨rfl, by repeat (first | exact HB4.out | apply Below.drew | apply below_alloc | apply pw_below_drewN | apply below_drew1)⟩
set_option maxHeartbeats 4000000 in
set_option maxRecDepth 100000 in
theorem applies_convert {w : World} {B g b n : Nat} {v : Value} {L : LG} (h : Led w B g b n v L) {kd id ver : Int} {text : ByteArray} (hid : 0 ≤ id ∧ id ≤ 18446744073709551615) (hok : (RC.ok ⟨kd, id, ver, text⟩) = true) (hkd : kd = 4) :
    Calls Try.prog 27 #[.pointer (some ⟨g, 0, none⟩), .agg #[.int .i64 kd, .int .u64 id, .int .u64 ver, .string text]] w fun e w' => e = .returned (.bool (L.applies ⟨kd, id, ver, text⟩)) ∧ Below w.heap.size w w' := by
  have HID := Aside0.mk hid
  have HC := Aside0.mk (check_is ⟨kd, id, ver, text⟩)
  rw [hok] at HC
  have HH := Aside0.mk h
  clear h hid
  subst hkd
  have ha : L.applies ⟨4, id, ver, text⟩ = (L.stale.isSome && decide (L.staleP.id = id) && decide (ver = L.newest)) := by
    unfold LG.applies
    rw [hok]
    unfold LG.staleP
    cases L.stale <;> rfl
  rw [ha]
  clear hok ha
  simp only [if_true] at HC
  obtain ⟨sp, hsp⟩ : ∃ sp, L.staleP = sp := ⟨_, rfl⟩
  obtain ⟨si, hsi⟩ : ∃ si, L.stale.isSome = si := ⟨_, rfl⟩
  have HS := fun (w' : World) (h' : Led w' B g b n v L) => Stale_calls h'
  rw [hsp, hsi] at *
  have HS' := Aside0.mk HS
  clear HS hsp hsi
  obtain ⟨s1, s2, s3⟩ := sp
  cases si
  · rw [Bool.false_and, Bool.false_and]
    go_enter Try.func27, Try.ntmps27
    go_wp2_with (first
      | ((with_reducible refine gate_dst (N := 3) rfl ?_); refine box_event ?hg (N := 3) ?hd (cs := #[.int .i64 4, .int .u64 id, .int .u64 ver, .string text]) (t := 26) ?hr ?_; (case hd => rfl); (case hg => rfl); (case hr => first | (go_simp; done) | (go_simp; rfl)); intro gb hg w3 hbox hb; have HB3 := Aside0.mk hb; have BK3 := Aside0.mk hbox; have c0 : w3.cell? ⟨gb, 0, none⟩ = some (.int .i64 4) := (blk_cell hbox 0).trans rfl; have c1 : w3.cell? ⟨gb, 1, none⟩ = some (.int .u64 id) := (blk_cell hbox 1).trans rfl; have c2 : w3.cell? ⟨gb, 2, none⟩ = some (.int .u64 ver) := (blk_cell hbox 2).trans rfl; have c3 : w3.cell? ⟨gb, 3, none⟩ = some (.string text) := (blk_cell hbox 3).trans rfl; clear hg hbox hb)
      | (go_at_call 44; refine (record_Check.calls 3 _ _ _ _ _ _ HC.out).mono ?_; rintro e w4 ⟨rfl, hb4⟩; have HB4 := Aside0.mk (HB3.out.trans (hb4.mono HB3.out.size)); have BK4 := Aside0.mk (blk_below BK3.out hb4); clear c0 c1 c2 c3; have c0 : w4.cell? ⟨gb, 0, none⟩ = some (.int .i64 4) := (blk_cell BK4.out 0).trans rfl; have c1 : w4.cell? ⟨gb, 1, none⟩ = some (.int .u64 id) := (blk_cell BK4.out 1).trans rfl; have c2 : w4.cell? ⟨gb, 2, none⟩ = some (.int .u64 ver) := (blk_cell BK4.out 2).trans rfl; have c3 : w4.cell? ⟨gb, 3, none⟩ = some (.string text) := (blk_cell BK4.out 3).trans rfl; have HL4 := Aside0.mk (HH.out.below HB4.out); obtain ⟨⟨h0, h1, h2, h3⟩, hf⟩ := HL4.out.cells; have HM4 := Aside0.mk HL4.out.map; have hgl : g < w4.heap.size := (HL4.out.lt (.inl rfl)).2; have hgb : gb < w4.heap.size := blk_lt BK4.out; have HN := Aside0.mk (fun m => newest_calls (HL4.out.below (pw_below_drewN (Below.refl _ _) m))); clear hb4)
      | (go_at_call 16; refine (HS'.out _ HL4.out).mono ?_; rintro e w5 ⟨rfl, hb5⟩; unfold postV; have HB5 := Aside0.mk (HB4.out.trans (hb5.mono HB4.out.size)); have BK5 := Aside0.mk (blk_below BK4.out hb5); have HL5 := Aside0.mk (HL4.out.below hb5); clear c0 c1 c2 c3 h0 h1 h2 h3 hf hgl hgb HN; have c1 : w5.cell? ⟨gb, 1, none⟩ = some (.int .u64 id) := (blk_cell BK5.out 1).trans rfl; have c2 : w5.cell? ⟨gb, 2, none⟩ = some (.int .u64 ver) := (blk_cell BK5.out 2).trans rfl; have hgb : gb < w5.heap.size := blk_lt BK5.out; have HN := Aside0.mk (fun m => newest_calls ((HL5.out.below (below_alloc (Below.refl _ _) (.cells #[.int .u64 s1, .int .u64 s2, .string s3] 42))).below (pw_below_drewN (Below.refl _ _) m))); clear hb5))
    go_quiet ((go_at_call 26; refine Calls.quiet_of_same (HN.out _)))
    go_wp2
    go_ret
    exact ⟨rfl, by repeat (first | exact HB5.out | apply Below.drew | apply below_alloc | apply pw_below_drewN | apply below_drew1)⟩
  · by_cases e1 : s1 = id
    · have e1b : (s1 == id) = true := beq_iff_eq.2 e1
      rw [show decide (s1 = id) = true from decide_eq_true e1, Bool.true_and, Bool.true_and, show decide (ver = L.newest) = (ver == L.newest) from rfl]
      clear e1
      go_enter Try.func27, Try.ntmps27
      go_wp2_with (first
        | ((with_reducible refine gate_dst (N := 3) rfl ?_); refine box_event ?hg (N := 3) ?hd (cs := #[.int .i64 4, .int .u64 id, .int .u64 ver, .string text]) (t := 26) ?hr ?_; (case hd => rfl); (case hg => rfl); (case hr => first | (go_simp; done) | (go_simp; rfl)); intro gb hg w3 hbox hb; have HB3 := Aside0.mk hb; have BK3 := Aside0.mk hbox; have c0 : w3.cell? ⟨gb, 0, none⟩ = some (.int .i64 4) := (blk_cell hbox 0).trans rfl; have c1 : w3.cell? ⟨gb, 1, none⟩ = some (.int .u64 id) := (blk_cell hbox 1).trans rfl; have c2 : w3.cell? ⟨gb, 2, none⟩ = some (.int .u64 ver) := (blk_cell hbox 2).trans rfl; have c3 : w3.cell? ⟨gb, 3, none⟩ = some (.string text) := (blk_cell hbox 3).trans rfl; clear hg hbox hb)
        | (go_at_call 44; refine (record_Check.calls 3 _ _ _ _ _ _ HC.out).mono ?_; rintro e w4 ⟨rfl, hb4⟩; have HB4 := Aside0.mk (HB3.out.trans (hb4.mono HB3.out.size)); have BK4 := Aside0.mk (blk_below BK3.out hb4); clear c0 c1 c2 c3; have c0 : w4.cell? ⟨gb, 0, none⟩ = some (.int .i64 4) := (blk_cell BK4.out 0).trans rfl; have c1 : w4.cell? ⟨gb, 1, none⟩ = some (.int .u64 id) := (blk_cell BK4.out 1).trans rfl; have c2 : w4.cell? ⟨gb, 2, none⟩ = some (.int .u64 ver) := (blk_cell BK4.out 2).trans rfl; have c3 : w4.cell? ⟨gb, 3, none⟩ = some (.string text) := (blk_cell BK4.out 3).trans rfl; have HL4 := Aside0.mk (HH.out.below HB4.out); obtain ⟨⟨h0, h1, h2, h3⟩, hf⟩ := HL4.out.cells; have HM4 := Aside0.mk HL4.out.map; have hgl : g < w4.heap.size := (HL4.out.lt (.inl rfl)).2; have hgb : gb < w4.heap.size := blk_lt BK4.out; have HN := Aside0.mk (fun m => newest_calls (HL4.out.below (pw_below_drewN (Below.refl _ _) m))); clear hb4)
        | (go_at_call 16; refine (HS'.out _ HL4.out).mono ?_; rintro e w5 ⟨rfl, hb5⟩; unfold postV; have HB5 := Aside0.mk (HB4.out.trans (hb5.mono HB4.out.size)); have BK5 := Aside0.mk (blk_below BK4.out hb5); have HL5 := Aside0.mk (HL4.out.below hb5); clear c0 c1 c2 c3 h0 h1 h2 h3 hf hgl hgb HN; have c1 : w5.cell? ⟨gb, 1, none⟩ = some (.int .u64 id) := (blk_cell BK5.out 1).trans rfl; have c2 : w5.cell? ⟨gb, 2, none⟩ = some (.int .u64 ver) := (blk_cell BK5.out 2).trans rfl; have hgb : gb < w5.heap.size := blk_lt BK5.out; have HN := Aside0.mk (fun m => newest_calls ((HL5.out.below (below_alloc (Below.refl _ _) (.cells #[.int .u64 s1, .int .u64 s2, .string s3] 42))).below (pw_below_drewN (Below.refl _ _) m))); clear hb5))
      go_quiet ((go_at_call 26; refine Calls.quiet_of_same (HN.out _)))
      go_wp2
      go_ret
      exact ⟨rfl, by repeat (first | exact HB5.out | apply Below.drew | apply below_alloc | apply pw_below_drewN | apply below_drew1)⟩
    · have e1b : (s1 == id) = false := beq_eq_false_iff_ne.2 e1
      rw [show decide (s1 = id) = false from decide_eq_false e1, Bool.true_and, Bool.false_and]
      clear e1
      go_enter Try.func27, Try.ntmps27
      go_wp2_with (first
        | ((with_reducible refine gate_dst (N := 3) rfl ?_); refine box_event ?hg (N := 3) ?hd (cs := #[.int .i64 4, .int .u64 id, .int .u64 ver, .string text]) (t := 26) ?hr ?_; (case hd => rfl); (case hg => rfl); (case hr => first | (go_simp; done) | (go_simp; rfl)); intro gb hg w3 hbox hb; have HB3 := Aside0.mk hb; have BK3 := Aside0.mk hbox; have c0 : w3.cell? ⟨gb, 0, none⟩ = some (.int .i64 4) := (blk_cell hbox 0).trans rfl; have c1 : w3.cell? ⟨gb, 1, none⟩ = some (.int .u64 id) := (blk_cell hbox 1).trans rfl; have c2 : w3.cell? ⟨gb, 2, none⟩ = some (.int .u64 ver) := (blk_cell hbox 2).trans rfl; have c3 : w3.cell? ⟨gb, 3, none⟩ = some (.string text) := (blk_cell hbox 3).trans rfl; clear hg hbox hb)
        | (go_at_call 44; refine (record_Check.calls 3 _ _ _ _ _ _ HC.out).mono ?_; rintro e w4 ⟨rfl, hb4⟩; have HB4 := Aside0.mk (HB3.out.trans (hb4.mono HB3.out.size)); have BK4 := Aside0.mk (blk_below BK3.out hb4); clear c0 c1 c2 c3; have c0 : w4.cell? ⟨gb, 0, none⟩ = some (.int .i64 4) := (blk_cell BK4.out 0).trans rfl; have c1 : w4.cell? ⟨gb, 1, none⟩ = some (.int .u64 id) := (blk_cell BK4.out 1).trans rfl; have c2 : w4.cell? ⟨gb, 2, none⟩ = some (.int .u64 ver) := (blk_cell BK4.out 2).trans rfl; have c3 : w4.cell? ⟨gb, 3, none⟩ = some (.string text) := (blk_cell BK4.out 3).trans rfl; have HL4 := Aside0.mk (HH.out.below HB4.out); obtain ⟨⟨h0, h1, h2, h3⟩, hf⟩ := HL4.out.cells; have HM4 := Aside0.mk HL4.out.map; have hgl : g < w4.heap.size := (HL4.out.lt (.inl rfl)).2; have hgb : gb < w4.heap.size := blk_lt BK4.out; have HN := Aside0.mk (fun m => newest_calls (HL4.out.below (pw_below_drewN (Below.refl _ _) m))); clear hb4)
        | (go_at_call 16; refine (HS'.out _ HL4.out).mono ?_; rintro e w5 ⟨rfl, hb5⟩; unfold postV; have HB5 := Aside0.mk (HB4.out.trans (hb5.mono HB4.out.size)); have BK5 := Aside0.mk (blk_below BK4.out hb5); have HL5 := Aside0.mk (HL4.out.below hb5); clear c0 c1 c2 c3 h0 h1 h2 h3 hf hgl hgb HN; have c1 : w5.cell? ⟨gb, 1, none⟩ = some (.int .u64 id) := (blk_cell BK5.out 1).trans rfl; have c2 : w5.cell? ⟨gb, 2, none⟩ = some (.int .u64 ver) := (blk_cell BK5.out 2).trans rfl; have hgb : gb < w5.heap.size := blk_lt BK5.out; have HN := Aside0.mk (fun m => newest_calls ((HL5.out.below (below_alloc (Below.refl _ _) (.cells #[.int .u64 s1, .int .u64 s2, .string s3] 42))).below (pw_below_drewN (Below.refl _ _) m))); clear hb5))
      go_quiet ((go_at_call 26; refine Calls.quiet_of_same (HN.out _)))
      go_wp2
      go_ret
      exact ⟨rfl, by repeat (first | exact HB5.out | apply Below.drew | apply below_alloc | apply pw_below_drewN | apply below_drew1)⟩
/-- applies (27) -/
theorem applies_calls {w : World} {B g b n : Nat} {v : Value} {L : LG} (h : Led w B g b n v L) (r : RC) (hid : 0 ≤ r.id ∧ r.id ≤ 18446744073709551615) :
    Calls Try.prog 27 #[.pointer (some ⟨g, 0, none⟩), recV r] w fun e w' => e = .returned (.bool (L.applies r)) ∧ Below w.heap.size w w' := by
  obtain ⟨kd, id, ver, text⟩ := r
  cases hok : RC.ok ⟨kd, id, ver, text⟩
  · exact applies_not h hid hok trivial
  · rcases RC.ok_kind hok with hk | hk | hk | hk
    · exact applies_post h hid hok hk
    · exact applies_delete h hid hok hk
    · exact applies_policy h hid hok hk
    · exact applies_convert h hid hok hk
end Go.Proofs.Ytjfkenjmjoncbaa.Lg
