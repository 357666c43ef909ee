import Derived.Test.YtjfkenjmjoncbaaPAllx0
import Derived.Test.YtjfkenjmjoncbaaPAllx8
import Derived.Test.YtjfkenjmjoncbaaLgApply
import Derived.Test.YtjfkenjmjoncbaaLgNum
import Derived.Test.YtjfkenjmjoncbaaLgRow
import Derived.Deep.RegionLaw
import Derived.Deep.AppendLies
namespace Go.Proofs.Ytjfkenjmjoncbaa.Lg
open Go Go.Maps Go.WideShapes Go.RowKit Go.Proofs.Ytjfkenjmjoncbaa.PAll Go.Proofs.YtjfkenjmjoncbaaW.PrintWords Go.Proofs.YtjfkenjmjoncbaaW.PrintLast Go.Proofs.YtjfkenjmjoncbaaW.PrintMore
set_option linter.unusedVariables false
set_option linter.unusedSimpArgs false

/-! ### load: a pair is added -/
def verOf (bs : List Int) : Int := ((valN (bs.take 8) : Nat) : Int)
def ldOk (L : LG) (k : Int) (bs : List Int) (nw : Int) : Bool :=
  if 9223372036854775808 ≤ k then decide (k = 9223372036854775808 + L.newest + 1) && decide (L.newest ≠ nw) && decide (bs.length ≤ 2000)
  else decide (k ≠ 0) && decide (k < L.next) && decide (8 ≤ bs.length) && decide (bs.length ≤ 4104) && (decide (0 < verOf bs) && decide (verOf bs ≤ nw) && (decide (L.cur < k) || decide (verOf bs = nw)))
def ldL (L : LG) (k : Int) (bs : List Int) : LG :=
  if 9223372036854775808 ≤ k then ⟨L.posts, L.pols ++ [strOfNums bs], L.next, L.cur⟩ else ⟨setP L.posts ⟨k, verOf bs, strOfNums (bs.drop 8)⟩, L.pols, L.next, L.cur⟩
theorem str_size (bs : List Int) : (strOfNums bs).size = bs.length := strOfNums_size bs
/-- a call has been made for a pair -/
structure Ldd (w w' : World) (B g b n : Nat) (v : Value) (L : LG) (k : Int) (bs : List Int) (nw : Int) : Prop where
  mv : Mv (Owns g b v) w w'
  did : ldOk L k bs nw = true → Did w w' B g b (n + 1) v (ldL L k bs)
theorem Ldd.no {w w' : World} {B g b n : Nat} {v : Value} {L : LG} {k : Int} {bs : List Int} {nw : Int} (h : Below w.heap.size w w') (ho : ldOk L k bs nw = false) : Ldd w w' B g b n v L k bs nw := ⟨.of_below h, fun e => by rw [ho] at e; cases e⟩
theorem ldL_ok {L : LG} (h : L.Ok) {k : Int} {bs : List Int} {nw : Int} (hk : 0 ≤ k ∧ k ≤ 18446744073709551615) (hb : Bytes bs) (hn : L.newest ≤ nw) (h100 : nw ≤ 100) (ho : ldOk L k bs nw = true) : (ldL L k bs).Ok := by
  unfold ldOk at ho
  unfold ldL
  split at ho
  · next hi =>
    rw [if_pos hi]
    simp only [Bool.and_eq_true, decide_eq_true_eq] at ho
    have hnn : L.newest = (L.pols.length : Int) := rfl
    refine ⟨h.rise, h.ids, h.vers, h.next, h.cur, by rw [List.length_append, List.length_singleton]; omega, h.texts, fun s hs => ?_⟩
    rcases List.mem_append.1 hs with q | q
    · exact h.ptexts s q
    · rw [List.mem_singleton.1 q, str_size]; exact ho.2
  · next hi =>
    rw [if_neg hi]
    simp only [Bool.and_eq_true, decide_eq_true_eq] at ho
    have hv := num64 (bytes_take hb 8) (List.length_take_le 8 bs)
    refine ⟨setP_rise h.rise _, fun p hp => ?_, fun p hp => ?_, h.next, h.cur, h.pols, fun p hp => ?_, h.ptexts⟩
    all_goals rcases mem_setP.1 hp with rfl | ⟨q, _⟩
    · simp only; omega
    · exact h.ids p q
    · exact hv
    · exact h.vers p q
    · simp only [str_size, List.length_drop]; omega
    · exact h.texts p q
set_option maxHeartbeats 4000000 in
set_option maxRecDepth 100000 in
theorem load_hi1 {w : World} {B g b n : Nat} {v : Value} {L : LG} (h : Led w B g b n v L) (hB : B ≤ w.heap.size) (hn : n < maxLen) {k : Int} {A : Option Addr} {c : Nat} {bs : List Int} {nw : Int} (hk : 0 ≤ k ∧ k ≤ 18446744073709551615) (hC : (Kd.int .u8).C w A bs.length bs) (hc : bs.length ≤ c) (hb : Bytes bs) (hnw : L.newest ≤ nw) (h100 : nw ≤ 100) (hi : 9223372036854775808 ≤ k) (hx : k ≠ 9223372036854775808 + L.newest + 1) :
    Calls Try.prog 30 #[.pointer (some ⟨g, 0, none⟩), .agg #[.int .u64 k, .slice A bs.length c], .int .u64 nw] w fun e w' => e = .returned (.bool (ldOk L k bs nw)) ∧ Ldd w w' B g b n v L k bs nw := by
  have HOF : Aside0 (ldOk L k bs nw = false) := ⟨by unfold ldOk; rw [if_pos hi, show decide (k = 9223372036854775808 + L.newest + 1) = false from decide_eq_false hx]; rfl⟩
  have HH := Aside0.mk h
  have HN := Aside0.mk hn
  have HBB := Aside0.mk hB
  have HK := Aside0.mk hk
  have HC := Aside0.mk hC
  have HCC := Aside0.mk hc
  have HBY := Aside0.mk hb
  have HPO := Aside0.mk h.ok.pols
  obtain ⟨K1, hK1⟩ : ∃ K1, K1 = 9223372036854775808 + L.newest := ⟨_, rfl⟩
  obtain ⟨K2, hK2⟩ : ∃ K2, K2 = K1 + 1 := ⟨_, rfl⟩
  have hw2 : IntKind.u64.wrap (9223372036854775808 + L.newest) = K1 := by have := HPO.out; rw [hK1]; simp [IntKind.wrap, IntKind.bits, IntKind.signed, LG.newest]; omega
  have hw3 : IntKind.u64.wrap (K1 + 1) = K2 := by have := HPO.out; rw [hK2, hK1]; simp [IntKind.wrap, IntKind.bits, IntKind.signed, LG.newest]; omega
  have HK2 := Aside0.mk (show K2 = 9223372036854775808 + L.newest + 1 by rw [hK2, hK1])
  clear h hn hB hk hC hc hb hK1 hK2
  have e0 : decide (9223372036854775808 ≤ k) = true := decide_eq_true hi
  have e1 : (k != K2) = true := bne_iff_ne.2 (by rw [HK2.out]; exact hx)
  clear hi hx
  go_enter Try.func30, Try.ntmps30
  go_wp2_with (first
    | ((with_reducible refine gate_dst (N := 4) rfl ?_); refine box_event ?hg (N := 4) ?hd (cs := #[.int .u64 k, .slice A bs.length c]) (t := 52) ?hr ?_; (case hd => rfl); (case hg => rfl); (case hr => first | (go_simp; done) | (go_simp; rfl)); intro gb hg w3 hbox hb; have HB3 := Aside0.mk hb; have BK3 := Aside0.mk hbox; have HGB := Aside0.mk (show w.heap.size ≤ gb by rw [hg]; exact Nat.le_refl _); have c0 : w3.cell? ⟨gb, 0, none⟩ = some (.int .u64 k) := (blk_cell hbox 0).trans rfl; have c1 : w3.cell? ⟨gb, 1, none⟩ = some (.slice A bs.length c) := (blk_cell hbox 1).trans rfl; have HL3 := Aside0.mk (HH.out.below hb); obtain ⟨⟨h0, h1, h2, h3⟩, hf⟩ := HL3.out.cells; have HNW := Aside0.mk (fun m => newest_calls (HL3.out.below (pw_below_drewN (Below.refl _ _) m))); have HC3 := Aside0.mk (Kd.C_below HC.out hb); clear hg hbox hb))
  go_quiet ((go_at_call 26; refine Calls.quiet_of_same (HNW.out _)))
  go_wp2
  go_ret
  exact ⟨by rw [HOF.out]; rfl, Ldd.no (pw_below_drewN HB3.out _) HOF.out⟩
set_option maxHeartbeats 4000000 in
set_option maxRecDepth 100000 in
theorem load_hi2 {w : World} {B g b n : Nat} {v : Value} {L : LG} (h : Led w B g b n v L) (hB : B ≤ w.heap.size) (hn : n < maxLen) {k : Int} {A : Option Addr} {c : Nat} {bs : List Int} {nw : Int} (hk : 0 ≤ k ∧ k ≤ 18446744073709551615) (hC : (Kd.int .u8).C w A bs.length bs) (hc : bs.length ≤ c) (hb : Bytes bs) (hnw : L.newest ≤ nw) (h100 : nw ≤ 100) (hi : 9223372036854775808 ≤ k) (hx : k = 9223372036854775808 + L.newest + 1) (hy : L.newest = nw) :
    Calls Try.prog 30 #[.pointer (some ⟨g, 0, none⟩), .agg #[.int .u64 k, .slice A bs.length c], .int .u64 nw] w fun e w' => e = .returned (.bool (ldOk L k bs nw)) ∧ Ldd w w' B g b n v L k bs nw := by
  have HOF : Aside0 (ldOk L k bs nw = false) := ⟨by unfold ldOk; rw [if_pos hi, show decide (L.newest ≠ nw) = false from decide_eq_false (fun q => q hy), Bool.and_false, Bool.false_and]⟩
  have HH := Aside0.mk h
  have HN := Aside0.mk hn
  have HBB := Aside0.mk hB
  have HK := Aside0.mk hk
  have HC := Aside0.mk hC
  have HCC := Aside0.mk hc
  have HBY := Aside0.mk hb
  have HPO := Aside0.mk h.ok.pols
  obtain ⟨K1, hK1⟩ : ∃ K1, K1 = 9223372036854775808 + L.newest := ⟨_, rfl⟩
  obtain ⟨K2, hK2⟩ : ∃ K2, K2 = K1 + 1 := ⟨_, rfl⟩
  have hw2 : IntKind.u64.wrap (9223372036854775808 + L.newest) = K1 := by have := HPO.out; rw [hK1]; simp [IntKind.wrap, IntKind.bits, IntKind.signed, LG.newest]; omega
  have hw3 : IntKind.u64.wrap (K1 + 1) = K2 := by have := HPO.out; rw [hK2, hK1]; simp [IntKind.wrap, IntKind.bits, IntKind.signed, LG.newest]; omega
  have HK2 := Aside0.mk (show K2 = 9223372036854775808 + L.newest + 1 by rw [hK2, hK1])
  clear h hn hB hk hC hc hb hK1 hK2
  have e0 : decide (9223372036854775808 ≤ k) = true := decide_eq_true hi
  have e1 : (k != K2) = false := bne_eq_false_iff_eq.2 (by rw [HK2.out]; exact hx)
  have e2 : (L.newest == nw) = true := beq_iff_eq.2 hy
  clear hi hx hy hnw h100
  go_enter Try.func30, Try.ntmps30
  go_wp2_with (first
    | ((with_reducible refine gate_dst (N := 4) rfl ?_); refine box_event ?hg (N := 4) ?hd (cs := #[.int .u64 k, .slice A bs.length c]) (t := 52) ?hr ?_; (case hd => rfl); (case hg => rfl); (case hr => first | (go_simp; done) | (go_simp; rfl)); intro gb hg w3 hbox hb; have HB3 := Aside0.mk hb; have BK3 := Aside0.mk hbox; have HGB := Aside0.mk (show w.heap.size ≤ gb by rw [hg]; exact Nat.le_refl _); have c0 : w3.cell? ⟨gb, 0, none⟩ = some (.int .u64 k) := (blk_cell hbox 0).trans rfl; have c1 : w3.cell? ⟨gb, 1, none⟩ = some (.slice A bs.length c) := (blk_cell hbox 1).trans rfl; have HL3 := Aside0.mk (HH.out.below hb); obtain ⟨⟨h0, h1, h2, h3⟩, hf⟩ := HL3.out.cells; have HNW := Aside0.mk (fun m => newest_calls (HL3.out.below (pw_below_drewN (Below.refl _ _) m))); have HC3 := Aside0.mk (Kd.C_below HC.out hb); clear hg hbox hb))
  go_quiet ((go_at_call 26; refine Calls.quiet_of_same (HNW.out _)))
  go_wp2
  go_ret
  exact ⟨by rw [HOF.out]; rfl, Ldd.no (pw_below_drewN HB3.out _) HOF.out⟩
set_option maxHeartbeats 4000000 in
set_option maxRecDepth 100000 in
theorem load_hi3 {w : World} {B g b n : Nat} {v : Value} {L : LG} (h : Led w B g b n v L) (hB : B ≤ w.heap.size) (hn : n < maxLen) {k : Int} {A : Option Addr} {c : Nat} {bs : List Int} {nw : Int} (hk : 0 ≤ k ∧ k ≤ 18446744073709551615) (hC : (Kd.int .u8).C w A bs.length bs) (hc : bs.length ≤ c) (hb : Bytes bs) (hnw : L.newest ≤ nw) (h100 : nw ≤ 100) (hi : 9223372036854775808 ≤ k) (hx : k = 9223372036854775808 + L.newest + 1) (hy : L.newest ≠ nw) (hz : ¬ bs.length ≤ 2000) :
    Calls Try.prog 30 #[.pointer (some ⟨g, 0, none⟩), .agg #[.int .u64 k, .slice A bs.length c], .int .u64 nw] w fun e w' => e = .returned (.bool (ldOk L k bs nw)) ∧ Ldd w w' B g b n v L k bs nw := by
  have HOF : Aside0 (ldOk L k bs nw = false) := ⟨by unfold ldOk; rw [if_pos hi, show decide (bs.length ≤ 2000) = false from decide_eq_false hz, Bool.and_false]⟩
  have HH := Aside0.mk h
  have HN := Aside0.mk hn
  have HBB := Aside0.mk hB
  have HK := Aside0.mk hk
  have HC := Aside0.mk hC
  have HCC := Aside0.mk hc
  have HBY := Aside0.mk hb
  have HPO := Aside0.mk h.ok.pols
  obtain ⟨K1, hK1⟩ : ∃ K1, K1 = 9223372036854775808 + L.newest := ⟨_, rfl⟩
  obtain ⟨K2, hK2⟩ : ∃ K2, K2 = K1 + 1 := ⟨_, rfl⟩
  have hw2 : IntKind.u64.wrap (9223372036854775808 + L.newest) = K1 := by have := HPO.out; rw [hK1]; simp [IntKind.wrap, IntKind.bits, IntKind.signed, LG.newest]; omega
  have hw3 : IntKind.u64.wrap (K1 + 1) = K2 := by have := HPO.out; rw [hK2, hK1]; simp [IntKind.wrap, IntKind.bits, IntKind.signed, LG.newest]; omega
  have HK2 := Aside0.mk (show K2 = 9223372036854775808 + L.newest + 1 by rw [hK2, hK1])
  clear h hn hB hk hC hc hb hK1 hK2
  have e0 : decide (9223372036854775808 ≤ k) = true := decide_eq_true hi
  have e1 : (k != K2) = false := bne_eq_false_iff_eq.2 (by rw [HK2.out]; exact hx)
  have e2 : (L.newest == nw) = false := beq_eq_false_iff_ne.2 hy
  have e3 : decide (2000 < (bs.length : Int)) = true := decide_eq_true (by omega)
  clear hi hx hy hz hnw h100
  go_enter Try.func30, Try.ntmps30
  go_wp2_with (first
    | ((with_reducible refine gate_dst (N := 4) rfl ?_); refine box_event ?hg (N := 4) ?hd (cs := #[.int .u64 k, .slice A bs.length c]) (t := 52) ?hr ?_; (case hd => rfl); (case hg => rfl); (case hr => first | (go_simp; done) | (go_simp; rfl)); intro gb hg w3 hbox hb; have HB3 := Aside0.mk hb; have BK3 := Aside0.mk hbox; have HGB := Aside0.mk (show w.heap.size ≤ gb by rw [hg]; exact Nat.le_refl _); have c0 : w3.cell? ⟨gb, 0, none⟩ = some (.int .u64 k) := (blk_cell hbox 0).trans rfl; have c1 : w3.cell? ⟨gb, 1, none⟩ = some (.slice A bs.length c) := (blk_cell hbox 1).trans rfl; have HL3 := Aside0.mk (HH.out.below hb); obtain ⟨⟨h0, h1, h2, h3⟩, hf⟩ := HL3.out.cells; have HNW := Aside0.mk (fun m => newest_calls (HL3.out.below (pw_below_drewN (Below.refl _ _) m))); have HC3 := Aside0.mk (Kd.C_below HC.out hb); clear hg hbox hb))
  go_quiet ((go_at_call 26; refine Calls.quiet_of_same (HNW.out _)))
  go_wp2
  go_ret
  exact ⟨by rw [HOF.out]; rfl, Ldd.no (pw_below_drewN HB3.out _) HOF.out⟩
set_option maxHeartbeats 4000000 in
set_option maxRecDepth 100000 in
theorem load_lo1 {w : World} {B g b n : Nat} {v : Value} {L : LG} (h : Led w B g b n v L) (hB : B ≤ w.heap.size) (hn : n < maxLen) {k : Int} {A : Option Addr} {c : Nat} {bs : List Int} {nw : Int} (hk : 0 ≤ k ∧ k ≤ 18446744073709551615) (hC : (Kd.int .u8).C w A bs.length bs) (hc : bs.length ≤ c) (hb : Bytes bs) (hnw : L.newest ≤ nw) (h100 : nw ≤ 100) (hi : ¬ 9223372036854775808 ≤ k) (hx : k = 0) :
    Calls Try.prog 30 #[.pointer (some ⟨g, 0, none⟩), .agg #[.int .u64 k, .slice A bs.length c], .int .u64 nw] w fun e w' => e = .returned (.bool (ldOk L k bs nw)) ∧ Ldd w w' B g b n v L k bs nw := by
  have HOF : Aside0 (ldOk L k bs nw = false) := ⟨by unfold ldOk; rw [if_neg hi, show decide (k ≠ 0) = false from decide_eq_false (fun q => q hx)]; rfl⟩
  have HH := Aside0.mk h
  have HN := Aside0.mk hn
  have HBB := Aside0.mk hB
  have HK := Aside0.mk hk
  have HC := Aside0.mk hC
  have HCC := Aside0.mk hc
  have HBY := Aside0.mk hb
  have HPO := Aside0.mk h.ok.pols
  obtain ⟨K1, hK1⟩ : ∃ K1, K1 = 9223372036854775808 + L.newest := ⟨_, rfl⟩
  obtain ⟨K2, hK2⟩ : ∃ K2, K2 = K1 + 1 := ⟨_, rfl⟩
  have hw2 : IntKind.u64.wrap (9223372036854775808 + L.newest) = K1 := by have := HPO.out; rw [hK1]; simp [IntKind.wrap, IntKind.bits, IntKind.signed, LG.newest]; omega
  have hw3 : IntKind.u64.wrap (K1 + 1) = K2 := by have := HPO.out; rw [hK2, hK1]; simp [IntKind.wrap, IntKind.bits, IntKind.signed, LG.newest]; omega
  have HK2 := Aside0.mk (show K2 = 9223372036854775808 + L.newest + 1 by rw [hK2, hK1])
  clear h hn hB hk hC hc hb hK1 hK2
  have e0 : decide (9223372036854775808 ≤ k) = false := decide_eq_false hi
  have e1 : (k == 0) = true := beq_iff_eq.2 hx
  clear hi hnw h100 hx
  go_enter Try.func30, Try.ntmps30
  go_wp2_with (first
    | ((with_reducible refine gate_dst (N := 4) rfl ?_); refine box_event ?hg (N := 4) ?hd (cs := #[.int .u64 k, .slice A bs.length c]) (t := 52) ?hr ?_; (case hd => rfl); (case hg => rfl); (case hr => first | (go_simp; done) | (go_simp; rfl)); intro gb hg w3 hbox hb; have HB3 := Aside0.mk hb; have BK3 := Aside0.mk hbox; have HGB := Aside0.mk (show w.heap.size ≤ gb by rw [hg]; exact Nat.le_refl _); have c0 : w3.cell? ⟨gb, 0, none⟩ = some (.int .u64 k) := (blk_cell hbox 0).trans rfl; have c1 : w3.cell? ⟨gb, 1, none⟩ = some (.slice A bs.length c) := (blk_cell hbox 1).trans rfl; have HL3 := Aside0.mk (HH.out.below hb); obtain ⟨⟨h0, h1, h2, h3⟩, hf⟩ := HL3.out.cells; have HNW := Aside0.mk (fun m => newest_calls (HL3.out.below (pw_below_drewN (Below.refl _ _) m))); have HC3 := Aside0.mk (Kd.C_below HC.out hb); clear hg hbox hb))
  go_quiet (fail)
  go_wp2
  go_ret
  exact ⟨by rw [HOF.out]; rfl, Ldd.no (pw_below_drewN HB3.out _) HOF.out⟩
set_option maxHeartbeats 4000000 in
set_option maxRecDepth 100000 in
theorem load_lo2 {w : World} {B g b n : Nat} {v : Value} {L : LG} (h : Led w B g b n v L) (hB : B ≤ w.heap.size) (hn : n < maxLen) {k : Int} {A : Option Addr} {c : Nat} {bs : List Int} {nw : Int} (hk : 0 ≤ k ∧ k ≤ 18446744073709551615) (hC : (Kd.int .u8).C w A bs.length bs) (hc : bs.length ≤ c) (hb : Bytes bs) (hnw : L.newest ≤ nw) (h100 : nw ≤ 100) (hi : ¬ 9223372036854775808 ≤ k) (hx : k ≠ 0) (hy : ¬ k < L.next) :
    Calls Try.prog 30 #[.pointer (some ⟨g, 0, none⟩), .agg #[.int .u64 k, .slice A bs.length c], .int .u64 nw] w fun e w' => e = .returned (.bool (ldOk L k bs nw)) ∧ Ldd w w' B g b n v L k bs nw := by
  have HOF : Aside0 (ldOk L k bs nw = false) := ⟨by unfold ldOk; rw [if_neg hi, show decide (k < L.next) = false from decide_eq_false hy, Bool.and_false]; rfl⟩
  have HH := Aside0.mk h
  have HN := Aside0.mk hn
  have HBB := Aside0.mk hB
  have HK := Aside0.mk hk
  have HC := Aside0.mk hC
  have HCC := Aside0.mk hc
  have HBY := Aside0.mk hb
  have HPO := Aside0.mk h.ok.pols
  obtain ⟨K1, hK1⟩ : ∃ K1, K1 = 9223372036854775808 + L.newest := ⟨_, rfl⟩
  obtain ⟨K2, hK2⟩ : ∃ K2, K2 = K1 + 1 := ⟨_, rfl⟩
  have hw2 : IntKind.u64.wrap (9223372036854775808 + L.newest) = K1 := by have := HPO.out; rw [hK1]; simp [IntKind.wrap, IntKind.bits, IntKind.signed, LG.newest]; omega
  have hw3 : IntKind.u64.wrap (K1 + 1) = K2 := by have := HPO.out; rw [hK2, hK1]; simp [IntKind.wrap, IntKind.bits, IntKind.signed, LG.newest]; omega
  have HK2 := Aside0.mk (show K2 = 9223372036854775808 + L.newest + 1 by rw [hK2, hK1])
  clear h hn hB hk hC hc hb hK1 hK2
  have e0 : decide (9223372036854775808 ≤ k) = false := decide_eq_false hi
  have e1 : (k == 0) = false := beq_eq_false_iff_ne.2 hx
  have e2 : decide (L.next ≤ k) = true := decide_eq_true (by omega)
  clear hi hnw h100 hx hy
  go_enter Try.func30, Try.ntmps30
  go_wp2_with (first
    | ((with_reducible refine gate_dst (N := 4) rfl ?_); refine box_event ?hg (N := 4) ?hd (cs := #[.int .u64 k, .slice A bs.length c]) (t := 52) ?hr ?_; (case hd => rfl); (case hg => rfl); (case hr => first | (go_simp; done) | (go_simp; rfl)); intro gb hg w3 hbox hb; have HB3 := Aside0.mk hb; have BK3 := Aside0.mk hbox; have HGB := Aside0.mk (show w.heap.size ≤ gb by rw [hg]; exact Nat.le_refl _); have c0 : w3.cell? ⟨gb, 0, none⟩ = some (.int .u64 k) := (blk_cell hbox 0).trans rfl; have c1 : w3.cell? ⟨gb, 1, none⟩ = some (.slice A bs.length c) := (blk_cell hbox 1).trans rfl; have HL3 := Aside0.mk (HH.out.below hb); obtain ⟨⟨h0, h1, h2, h3⟩, hf⟩ := HL3.out.cells; have HNW := Aside0.mk (fun m => newest_calls (HL3.out.below (pw_below_drewN (Below.refl _ _) m))); have HC3 := Aside0.mk (Kd.C_below HC.out hb); clear hg hbox hb))
  go_quiet (fail)
  go_wp2
  go_ret
  exact ⟨by rw [HOF.out]; rfl, Ldd.no (pw_below_drewN HB3.out _) HOF.out⟩
set_option maxHeartbeats 4000000 in
set_option maxRecDepth 100000 in
theorem load_lo3 {w : World} {B g b n : Nat} {v : Value} {L : LG} (h : Led w B g b n v L) (hB : B ≤ w.heap.size) (hn : n < maxLen) {k : Int} {A : Option Addr} {c : Nat} {bs : List Int} {nw : Int} (hk : 0 ≤ k ∧ k ≤ 18446744073709551615) (hC : (Kd.int .u8).C w A bs.length bs) (hc : bs.length ≤ c) (hb : Bytes bs) (hnw : L.newest ≤ nw) (h100 : nw ≤ 100) (hi : ¬ 9223372036854775808 ≤ k) (hx : k ≠ 0) (hy : k < L.next) (hz : ¬ 8 ≤ bs.length) :
    Calls Try.prog 30 #[.pointer (some ⟨g, 0, none⟩), .agg #[.int .u64 k, .slice A bs.length c], .int .u64 nw] w fun e w' => e = .returned (.bool (ldOk L k bs nw)) ∧ Ldd w w' B g b n v L k bs nw := by
  have HOF : Aside0 (ldOk L k bs nw = false) := ⟨by unfold ldOk; rw [if_neg hi, show decide (8 ≤ bs.length) = false from decide_eq_false hz, Bool.and_false]; rfl⟩
  have HH := Aside0.mk h
  have HN := Aside0.mk hn
  have HBB := Aside0.mk hB
  have HK := Aside0.mk hk
  have HC := Aside0.mk hC
  have HCC := Aside0.mk hc
  have HBY := Aside0.mk hb
  have HPO := Aside0.mk h.ok.pols
  obtain ⟨K1, hK1⟩ : ∃ K1, K1 = 9223372036854775808 + L.newest := ⟨_, rfl⟩
  obtain ⟨K2, hK2⟩ : ∃ K2, K2 = K1 + 1 := ⟨_, rfl⟩
  have hw2 : IntKind.u64.wrap (9223372036854775808 + L.newest) = K1 := by have := HPO.out; rw [hK1]; simp [IntKind.wrap, IntKind.bits, IntKind.signed, LG.newest]; omega
  have hw3 : IntKind.u64.wrap (K1 + 1) = K2 := by have := HPO.out; rw [hK2, hK1]; simp [IntKind.wrap, IntKind.bits, IntKind.signed, LG.newest]; omega
  have HK2 := Aside0.mk (show K2 = 9223372036854775808 + L.newest + 1 by rw [hK2, hK1])
  clear h hn hB hk hC hc hb hK1 hK2
  have e0 : decide (9223372036854775808 ≤ k) = false := decide_eq_false hi
  have e1 : (k == 0) = false := beq_eq_false_iff_ne.2 hx
  have e2 : decide (L.next ≤ k) = false := decide_eq_false (by omega)
  have e3 : decide ((bs.length : Int) < 8) = true := decide_eq_true (by omega)
  clear hi hnw h100 hx hy hz
  go_enter Try.func30, Try.ntmps30
  go_wp2_with (first
    | ((with_reducible refine gate_dst (N := 4) rfl ?_); refine box_event ?hg (N := 4) ?hd (cs := #[.int .u64 k, .slice A bs.length c]) (t := 52) ?hr ?_; (case hd => rfl); (case hg => rfl); (case hr => first | (go_simp; done) | (go_simp; rfl)); intro gb hg w3 hbox hb; have HB3 := Aside0.mk hb; have BK3 := Aside0.mk hbox; have HGB := Aside0.mk (show w.heap.size ≤ gb by rw [hg]; exact Nat.le_refl _); have c0 : w3.cell? ⟨gb, 0, none⟩ = some (.int .u64 k) := (blk_cell hbox 0).trans rfl; have c1 : w3.cell? ⟨gb, 1, none⟩ = some (.slice A bs.length c) := (blk_cell hbox 1).trans rfl; have HL3 := Aside0.mk (HH.out.below hb); obtain ⟨⟨h0, h1, h2, h3⟩, hf⟩ := HL3.out.cells; have HNW := Aside0.mk (fun m => newest_calls (HL3.out.below (pw_below_drewN (Below.refl _ _) m))); have HC3 := Aside0.mk (Kd.C_below HC.out hb); clear hg hbox hb))
  go_quiet (fail)
  go_wp2
  go_ret
  exact ⟨by rw [HOF.out]; rfl, Ldd.no (pw_below_drewN HB3.out _) HOF.out⟩
set_option maxHeartbeats 4000000 in
set_option maxRecDepth 100000 in
theorem load_lo4 {w : World} {B g b n : Nat} {v : Value} {L : LG} (h : Led w B g b n v L) (hB : B ≤ w.heap.size) (hn : n < maxLen) {k : Int} {A : Option Addr} {c : Nat} {bs : List Int} {nw : Int} (hk : 0 ≤ k ∧ k ≤ 18446744073709551615) (hC : (Kd.int .u8).C w A bs.length bs) (hc : bs.length ≤ c) (hb : Bytes bs) (hnw : L.newest ≤ nw) (h100 : nw ≤ 100) (hi : ¬ 9223372036854775808 ≤ k) (hx : k ≠ 0) (hy : k < L.next) (hz : 8 ≤ bs.length) (hu : ¬ bs.length ≤ 4104) :
    Calls Try.prog 30 #[.pointer (some ⟨g, 0, none⟩), .agg #[.int .u64 k, .slice A bs.length c], .int .u64 nw] w fun e w' => e = .returned (.bool (ldOk L k bs nw)) ∧ Ldd w w' B g b n v L k bs nw := by
  have HOF : Aside0 (ldOk L k bs nw = false) := ⟨by unfold ldOk; rw [if_neg hi, show decide (bs.length ≤ 4104) = false from decide_eq_false hu, Bool.and_false, Bool.false_and]⟩
  have HH := Aside0.mk h
  have HN := Aside0.mk hn
  have HBB := Aside0.mk hB
  have HK := Aside0.mk hk
  have HC := Aside0.mk hC
  have HCC := Aside0.mk hc
  have HBY := Aside0.mk hb
  have HPO := Aside0.mk h.ok.pols
  obtain ⟨K1, hK1⟩ : ∃ K1, K1 = 9223372036854775808 + L.newest := ⟨_, rfl⟩
  obtain ⟨K2, hK2⟩ : ∃ K2, K2 = K1 + 1 := ⟨_, rfl⟩
  have hw2 : IntKind.u64.wrap (9223372036854775808 + L.newest) = K1 := by have := HPO.out; rw [hK1]; simp [IntKind.wrap, IntKind.bits, IntKind.signed, LG.newest]; omega
  have hw3 : IntKind.u64.wrap (K1 + 1) = K2 := by have := HPO.out; rw [hK2, hK1]; simp [IntKind.wrap, IntKind.bits, IntKind.signed, LG.newest]; omega
  have HK2 := Aside0.mk (show K2 = 9223372036854775808 + L.newest + 1 by rw [hK2, hK1])
  clear h hn hB hk hC hc hb hK1 hK2
  have e0 : decide (9223372036854775808 ≤ k) = false := decide_eq_false hi
  have e1 : (k == 0) = false := beq_eq_false_iff_ne.2 hx
  have e2 : decide (L.next ≤ k) = false := decide_eq_false (by omega)
  have e3 : decide ((bs.length : Int) < 8) = false := decide_eq_false (by omega)
  have e4 : decide (4104 < (bs.length : Int)) = true := decide_eq_true (by omega)
  clear hi hnw h100 hx hy hz hu
  go_enter Try.func30, Try.ntmps30
  go_wp2_with (first
    | ((with_reducible refine gate_dst (N := 4) rfl ?_); refine box_event ?hg (N := 4) ?hd (cs := #[.int .u64 k, .slice A bs.length c]) (t := 52) ?hr ?_; (case hd => rfl); (case hg => rfl); (case hr => first | (go_simp; done) | (go_simp; rfl)); intro gb hg w3 hbox hb; have HB3 := Aside0.mk hb; have BK3 := Aside0.mk hbox; have HGB := Aside0.mk (show w.heap.size ≤ gb by rw [hg]; exact Nat.le_refl _); have c0 : w3.cell? ⟨gb, 0, none⟩ = some (.int .u64 k) := (blk_cell hbox 0).trans rfl; have c1 : w3.cell? ⟨gb, 1, none⟩ = some (.slice A bs.length c) := (blk_cell hbox 1).trans rfl; have HL3 := Aside0.mk (HH.out.below hb); obtain ⟨⟨h0, h1, h2, h3⟩, hf⟩ := HL3.out.cells; have HNW := Aside0.mk (fun m => newest_calls (HL3.out.below (pw_below_drewN (Below.refl _ _) m))); have HC3 := Aside0.mk (Kd.C_below HC.out hb); clear hg hbox hb))
  go_quiet (fail)
  go_wp2
  go_ret
  exact ⟨by rw [HOF.out]; rfl, Ldd.no (pw_below_drewN HB3.out _) HOF.out⟩
set_option maxHeartbeats 4000000 in
set_option maxRecDepth 100000 in
theorem load_hi4 {w : World} {B g b n : Nat} {v : Value} {L : LG} (h : Led w B g b n v L) (hB : B ≤ w.heap.size) (hn : n < maxLen) {k : Int} {A : Option Addr} {c : Nat} {bs : List Int} {nw : Int} (hk : 0 ≤ k ∧ k ≤ 18446744073709551615) (hC : (Kd.int .u8).C w A bs.length bs) (hc : bs.length ≤ c) (hb : Bytes bs) (hnw : L.newest ≤ nw) (h100 : nw ≤ 100) (hi : 9223372036854775808 ≤ k) (hx : k = 9223372036854775808 + L.newest + 1) (hy : L.newest ≠ nw) (hz : bs.length ≤ 2000) :
    Calls Try.prog 30 #[.pointer (some ⟨g, 0, none⟩), .agg #[.int .u64 k, .slice A bs.length c], .int .u64 nw] w fun e w' => e = .returned (.bool (ldOk L k bs nw)) ∧ Ldd w w' B g b n v L k bs nw := by
  have HOF : Aside0 (ldOk L k bs nw = true) := ⟨by unfold ldOk; rw [if_pos hi, show decide (bs.length ≤ 2000) = true from decide_eq_true hz, show decide (L.newest ≠ nw) = true from decide_eq_true hy, show decide (k = 9223372036854775808 + L.newest + 1) = true from decide_eq_true hx]; rfl⟩
  have HOK := Aside0.mk (ldL_ok h.ok hk hb hnw h100 HOF.out)
  have hac : ldL L k bs = ⟨L.posts, L.pols ++ [strOfNums bs], L.next, L.cur⟩ := if_pos hi
  have HAC := Aside0.mk hac
  rw [hac] at HOK
  clear hac
  have HH := Aside0.mk h
  have HN := Aside0.mk hn
  have HBB := Aside0.mk hB
  have HK := Aside0.mk hk
  have HC := Aside0.mk hC
  have HCC := Aside0.mk hc
  have HBY := Aside0.mk hb
  have HPO := Aside0.mk h.ok.pols
  obtain ⟨K1, hK1⟩ : ∃ K1, K1 = 9223372036854775808 + L.newest := ⟨_, rfl⟩
  obtain ⟨K2, hK2⟩ : ∃ K2, K2 = K1 + 1 := ⟨_, rfl⟩
  have hw2 : IntKind.u64.wrap (9223372036854775808 + L.newest) = K1 := by have := HPO.out; rw [hK1]; simp [IntKind.wrap, IntKind.bits, IntKind.signed, LG.newest]; omega
  have hw3 : IntKind.u64.wrap (K1 + 1) = K2 := by have := HPO.out; rw [hK2, hK1]; simp [IntKind.wrap, IntKind.bits, IntKind.signed, LG.newest]; omega
  have HK2 := Aside0.mk (show K2 = 9223372036854775808 + L.newest + 1 by rw [hK2, hK1])
  clear h hn hB hk hC hc hb hK1 hK2
  have e0 : decide (9223372036854775808 ≤ k) = true := decide_eq_true hi
  have e1 : (k != K2) = false := bne_eq_false_iff_eq.2 (by rw [HK2.out]; exact hx)
  have e2 : (L.newest == nw) = false := beq_eq_false_iff_ne.2 hy
  have e3 : decide (2000 < (bs.length : Int)) = false := decide_eq_false (by omega)
  obtain ⟨text, htext⟩ : ∃ text, strOfNums bs = text := ⟨_, rfl⟩
  have HTX := Aside0.mk htext
  rw [htext] at HOK HAC
  obtain ⟨i9, hi9, hz9, hs9, hb9⟩ := info_parts info9
  have I9 := Aside0.mk (And.intro hi9 (And.intro hz9 (And.intro hs9 hb9)))
  clear hi hx hy hz hnw h100 htext hi9 hz9 hs9 hb9
  go_enter Try.func30, Try.ntmps30
  go_wp2_with (first
    | ((with_reducible refine gate_dst (N := 4) rfl ?_); refine box_event ?hg (N := 4) ?hd (cs := #[.int .u64 k, .slice A bs.length c]) (t := 52) ?hr ?_; (case hd => rfl); (case hg => rfl); (case hr => first | (go_simp; done) | (go_simp; rfl)); intro gb hg w3 hbox hb; have HB3 := Aside0.mk hb; have BK3 := Aside0.mk hbox; have HGB := Aside0.mk (show w.heap.size ≤ gb by rw [hg]; exact Nat.le_refl _); have c0 : w3.cell? ⟨gb, 0, none⟩ = some (.int .u64 k) := (blk_cell hbox 0).trans rfl; have c1 : w3.cell? ⟨gb, 1, none⟩ = some (.slice A bs.length c) := (blk_cell hbox 1).trans rfl; have HL3 := Aside0.mk (HH.out.below hb); obtain ⟨⟨h0, h1, h2, h3⟩, hf⟩ := HL3.out.cells; have HNW := Aside0.mk (fun m => newest_calls (HL3.out.below (pw_below_drewN (Below.refl _ _) m))); have HC3 := Aside0.mk (Kd.C_below HC.out hb); clear hg hbox hb))
  go_quiet ((go_at_call 26; refine Calls.quiet_of_same (HNW.out _)))
  have HBQ := Aside0.mk (pw_below_drewN (Below.refl w3.heap.size w3) nq)
  clear h0 h1 h2 h3 hf c0 c1
  generalize w3.drewN nq = w4 at HBQ ⊢
  have HL4 := Aside0.mk (HL3.out.below HBQ.out)
  have BK4 := Aside0.mk (blk_below BK3.out HBQ.out)
  have HB4 := Aside0.mk (HB3.out.trans (HBQ.out.mono HB3.out.size))
  obtain ⟨⟨h0, h1, h2, h3⟩, hf⟩ := HL4.out.cells
  have c0 : w4.cell? ⟨gb, 0, none⟩ = some (.int .u64 k) := (blk_cell BK4.out 0).trans rfl
  have c1 : w4.cell? ⟨gb, 1, none⟩ = some (.slice A bs.length c) := (blk_cell BK4.out 1).trans rfl
  have hcv := (Kd.C_string (P := Try.prog) (A := A) (c := c) Try.underlying50 Try.underlying5 Try.underlying9 (Kd.C_drew (Kd.C_below HC3.out HBQ.out)))
  rw [HTX.out] at hcv
  have hgl : g < w4.heap.size := (HL4.out.lt (.inl rfl)).2
  go_wp2
  have HR6 := Aside0.mk (show (w4.alloc (.cells #[.string text] 9)).drew.ownsRow B 9 1 v L.pols.length (L.pols.map Value.string) from own_mv (S := fun _ => False) HL4.out.row (.of_below (below_alloc (Below.refl _ _) _).drew) (fun _ _ q => q))
  have e2' : (w4.alloc (.cells #[.string text] 9)).drew.heap.size = w4.heap.size + 1 := by simp
  have HS2 := Aside0.mk e2'
  have HBW := Aside0.mk (show B ≤ w4.heap.size from Nat.le_trans HBB.out HB4.out.size)
  have hnb := World.news_of_block (w := (w4.alloc (.cells #[.string text] 9)).drew) (B := w4.heap.size) (cs := #[.string text]) (t := 9) (fr := (0, 0)) (blk_drew (blk_new w4 (.cells #[.string text] 9)))
  have HNB := Aside0.mk hnb
  clear e2' hnb
  go_region_law (first | (refine step_append_lies _ rfl (.tmp 34) (.tmp 38) 56 rfl B 9 i9 (.string ⟨#[]⟩) 1 16 Try.underlying56 I9.out.1 I9.out.2.1 I9.out.2.2.1 I9.out.2.2.2 rfl (by decide) v L.pols.length (L.pols.map Value.string) rfl HR6.out ⟨w4.heap.size, 0, none⟩ 1 1 [.string text] rfl rfl HNB.out (by simp [Value.oneCell']) (by decide) (by have := HPO.out; unfold maxLen; omega) (by have := HPO.out; omega) (by rw [HS2.out]; have := HBW.out; omega) (w4.heap.size + 1) HS2.out ?_; intro g6 cap6 w6 hown6 hg6 hloc6 hlt6; have HO6 := Aside0.mk hown6; have HG6 := Aside0.mk hg6; have HL6 := Aside0.mk hloc6; have BG6 := Aside0.mk ((hg6.block g (by rw [HS2.out]; omega) (fun q => HL4.out.ne.2.1 q.symm)).trans (blk_drew (blk_alloc HL4.out.blk _))); clear h0 h1 h2 h3 hf; have h1 : w6.cell? ⟨g, 1, none⟩ = some v := (blk_cell BG6.out 1).trans rfl; have hf1 := blk_frozen BG6.out 1; clear hown6 hg6 hloc6 hlt6))
  all_goals
    have BG7 := Aside0.mk (blk_set BG6.out 1 (.slice (some ⟨g6, 0, none⟩) (L.pols.length + 1) cap6))
    clear h1 hf1
    go_wp2
    go_ret
    have hlen : (L.pols ++ [text]).length = L.pols.length + 1 := by simp
    have m46 : Mv (fun j => v.ownBlock = some j) w4 w6 := (Mv.of_below (below_alloc (Below.refl _ _) _).drew).trans (.of_grown (S := fun j => v.ownBlock = some j) HG6.out (fun j e => e)) (fun j hj => .inl hj)
    have m67 : Mv (fun j => j = g) w6 (w6.setCell ⟨g, 1, none⟩ (.slice (some ⟨g6, 0, none⟩) (L.pols.length + 1) cap6)) := .set (S := fun j => j = g) _ rfl
    have m1 : Mv (Owns g b v) w (w6.setCell ⟨g, 1, none⟩ (.slice (some ⟨g6, 0, none⟩) (L.pols.length + 1) cap6)) := ((Mv.of_below HB4.out).trans m46 (fun j hj => .inl (.inr (.inr hj)))).trans m67 (fun j hj => .inl (.inl hj))
    have hg6g : g6 ≠ g := by
      rcases HL6.out with q | q
      · exact fun e => HL4.out.ne.2.1 (by rw [q, e])
      · omega
    refine ⟨by rw [HOF.out]; rfl, m1, fun _ => ?_⟩
    rw [HAC.out]
    refine ⟨⟨.slice (some ⟨g6, 0, none⟩) (L.pols.length + 1) cap6, ⟨BG7.out, ?_, ?_, HH.out.gB, HH.out.bB, HOK.out⟩, fun j hj => ?_⟩, m1⟩
    · exact (map_mv (map_mv HL4.out.map m46 HL4.out.ne.2.2) m67 (fun e => HL4.out.ne.1 e.symm)).mono (Nat.le_succ _)
    · have := own_mv HO6.out m67 (fun j hj e => hg6g (by simp [Value.ownBlock] at hj; omega))
      rw [hlen, List.map_append]
      exact this
    · have hj' : g6 = j := by simpa [Value.ownBlock] using hj
      subst hj'
      rcases HL6.out with q | q
      · exact .inl q
      · exact .inr (by have := HB4.out.size; omega)
set_option maxHeartbeats 4000000 in
set_option maxRecDepth 100000 in
theorem load_lo5 {w : World} {B g b n : Nat} {v : Value} {L : LG} (h : Led w B g b n v L) (hB : B ≤ w.heap.size) (hn : n < maxLen) {k : Int} {A : Option Addr} {c : Nat} {bs : List Int} {nw : Int} (hk : 0 ≤ k ∧ k ≤ 18446744073709551615) (hC : (Kd.int .u8).C w A bs.length bs) (hc : bs.length ≤ c) (hb : Bytes bs) (hnw : L.newest ≤ nw) (h100 : nw ≤ 100) (hi : ¬ 9223372036854775808 ≤ k) (hx : k ≠ 0) (hy : k < L.next) (hz : 8 ≤ bs.length) (hu : bs.length ≤ 4104) (h1 : ¬ 0 < verOf bs) :
    Calls Try.prog 30 #[.pointer (some ⟨g, 0, none⟩), .agg #[.int .u64 k, .slice A bs.length c], .int .u64 nw] w fun e w' => e = .returned (.bool (ldOk L k bs nw)) ∧ Ldd w w' B g b n v L k bs nw := by
  have HOF : Aside0 (ldOk L k bs nw = false) := ⟨by
    unfold ldOk
    rw [if_neg hi, show decide (k ≠ 0) = true from decide_eq_true hx, show decide (k < L.next) = true from decide_eq_true hy, show decide (8 ≤ bs.length) = true from decide_eq_true hz, show decide (bs.length ≤ 4104) = true from decide_eq_true hu]
    rw [show decide (0 < verOf bs) = false from decide_eq_false h1]; rfl⟩
  have HAC := Aside0.mk (show ldL L k bs = ⟨setP L.posts ⟨k, verOf bs, strOfNums (bs.drop 8)⟩, L.pols, L.next, L.cur⟩ from if_neg hi)
  have hnum := Aside0.mk (num_is (bs.take 8) (bytes_take hb 8) (List.length_take_le 8 bs) 9 (by have := List.length_take_le 8 bs; omega))
  have HH := Aside0.mk h
  have HN := Aside0.mk hn
  have HBB := Aside0.mk hB
  have HK := Aside0.mk hk
  have HC := Aside0.mk hC
  have HCC := Aside0.mk hc
  have HBY := Aside0.mk hb
  have HPO := Aside0.mk h.ok.pols
  obtain ⟨K1, hK1⟩ : ∃ K1, K1 = 9223372036854775808 + L.newest := ⟨_, rfl⟩
  obtain ⟨K2, hK2⟩ : ∃ K2, K2 = K1 + 1 := ⟨_, rfl⟩
  have hw2 : IntKind.u64.wrap (9223372036854775808 + L.newest) = K1 := by have := HPO.out; rw [hK1]; simp [IntKind.wrap, IntKind.bits, IntKind.signed, LG.newest]; omega
  have hw3 : IntKind.u64.wrap (K1 + 1) = K2 := by have := HPO.out; rw [hK2, hK1]; simp [IntKind.wrap, IntKind.bits, IntKind.signed, LG.newest]; omega
  have HK2 := Aside0.mk (show K2 = 9223372036854775808 + L.newest + 1 by rw [hK2, hK1])
  clear h hn hB hk hC hc hb hK1 hK2
  have e0 : decide (9223372036854775808 ≤ k) = false := decide_eq_false hi
  have e1 : (k == 0) = false := beq_eq_false_iff_ne.2 hx
  have e2 : decide (L.next ≤ k) = false := decide_eq_false (by omega)
  have e3 : decide ((bs.length : Int) < 8) = false := decide_eq_false (by omega)
  have e4 : decide (4104 < (bs.length : Int)) = false := decide_eq_false (by omega)
  obtain ⟨ve, hve⟩ : ∃ ve, verOf bs = ve := ⟨_, rfl⟩
  have f1 : decide (0 < ve) = false := decide_eq_false (by rw [← hve]; exact h1)
  clear h1
  have hnum' : ledger_number.f 9 (bs.take 8) = some ve := by rw [← hve]; exact hnum.out
  have HNUM := Aside0.mk hnum'
  obtain ⟨text, htext⟩ : ∃ text, strOfNums (bs.drop 8) = text := ⟨_, rfl⟩
  rw [hve, htext] at HAC
  have HTX := Aside0.mk htext
  obtain ⟨i0, hi5, _, hsz5, _⟩ := info_parts info5
  obtain ⟨tk1, tk2, tk3⟩ := print_take_of (P := Try.prog) (Value.int .u8) (0 : Int) 50 5 .i64 Try.underlying50 hi5 hsz5 A c bs 8 (by omega) (by omega) HCC.out
  have tk1' : ∀ W : World, (Instr.slice 50 (.slice A bs.length c) none (some (.int .i64 8)) none).run Try.prog W = .ok (.slice A (bs.take 8).length c) W := tk1
  have TK2 := Aside0.mk (show ∀ W, (Kd.int .u8).C W A bs.length bs → (Kd.int .u8).C W A (bs.take 8).length (bs.take 8) from fun W hC => Kd.C_of_reads (h1 := fun _ => rfl) (tk2 W (Kd.reads_of_C hC)))
  have TK3 := Aside0.mk (show (bs.take 8).length ≤ c from tk3)
  obtain ⟨A', dr1, dr2, dr3⟩ := print_drop_of (P := Try.prog) (Value.int .u8) (0 : Int) 50 5 .i64 Try.underlying50 hi5 hsz5 A c bs 8 (by omega) (by omega) HCC.out
  obtain ⟨c', hc'⟩ : ∃ c', c - (8 : Int).toNat = c' := ⟨_, rfl⟩
  rw [hc'] at dr1 dr3
  have dr1' : ∀ W : World, (Instr.slice 50 (.slice A bs.length c) (some (.int .i64 8)) none none).run Try.prog W = .ok (.slice A' (bs.drop 8).length c') W := dr1
  have DR2 := Aside0.mk (show ∀ W, (Kd.int .u8).C W A bs.length bs → (Kd.int .u8).C W A' (bs.drop 8).length (bs.drop 8) from fun W hC => Kd.C_of_reads (h1 := fun _ => rfl) (dr2 W (Kd.reads_of_C hC)))
  have hkk := Aside0.mk (keyOf_int_mk Try.underlying24 (wf64 HK.out))
  obtain ⟨tk, htk⟩ : ∃ tk, bs.take 8 = tk := ⟨_, rfl⟩
  obtain ⟨dr, hdr⟩ : ∃ dr, bs.drop 8 = dr := ⟨_, rfl⟩
  rw [htk] at tk1' TK2 TK3 HNUM
  rw [hdr] at dr1' DR2 HTX
  clear hi hx hy hz hu hnw h100 hnum hnum' hve htext tk1 tk2 tk3 dr1 dr2 dr3 htk hdr hi5 hsz5 hc'
  go_enter Try.func30, Try.ntmps30
  go_wp2_with (first
    | ((with_reducible refine gate_dst (N := 4) rfl ?_); refine box_event ?hg (N := 4) ?hd (cs := #[.int .u64 k, .slice A bs.length c]) (t := 52) ?hr ?_; (case hd => rfl); (case hg => rfl); (case hr => first | (go_simp; done) | (go_simp; rfl)); intro gb hg w3 hbox hb; have HB3 := Aside0.mk hb; have BK3 := Aside0.mk hbox; have HGB := Aside0.mk (show w.heap.size ≤ gb by rw [hg]; exact Nat.le_refl _); have c0 : w3.cell? ⟨gb, 0, none⟩ = some (.int .u64 k) := (blk_cell hbox 0).trans rfl; have c1 : w3.cell? ⟨gb, 1, none⟩ = some (.slice A bs.length c) := (blk_cell hbox 1).trans rfl; have HL3 := Aside0.mk (HH.out.below hb); obtain ⟨⟨h0, h1, h2, h3⟩, hf⟩ := HL3.out.cells; have HNW := Aside0.mk (fun m => newest_calls (HL3.out.below (pw_below_drewN (Below.refl _ _) m))); have HC3 := Aside0.mk (Kd.C_below HC.out hb); clear hg hbox hb))
  go_quiet (fail)
  have HBQ := Aside0.mk (pw_below_drewN (Below.refl w3.heap.size w3) nq)
  clear h0 h1 h2 h3 hf c0 c1
  generalize w3.drewN nq = w4 at HBQ ⊢
  have HL4 := Aside0.mk (HL3.out.below HBQ.out)
  have BK4 := Aside0.mk (blk_below BK3.out HBQ.out)
  have HB4 := Aside0.mk (HB3.out.trans (HBQ.out.mono HB3.out.size))
  have HC4 := Aside0.mk (Kd.C_below HC3.out HBQ.out)
  have c0 : w4.cell? ⟨gb, 0, none⟩ = some (.int .u64 k) := (blk_cell BK4.out 0).trans rfl
  have c1 : w4.cell? ⟨gb, 1, none⟩ = some (.slice A bs.length c) := (blk_cell BK4.out 1).trans rfl
  go_wp2_with (go_at_call 29; (with_reducible refine (ledger_number.calls 9 A c tk ve _ ?s1 ?s2 HNUM.out).mono ?_); (case s1 => exact TK2.out _ HC4.out); (case s2 => exact TK3.out); rintro e w5 ⟨rfl, hd⟩; have HBD := Aside0.mk (show Below w4.heap.size w4 w5 from by obtain ⟨n_, rfl⟩ := hd.out; exact pw_below_drewN (Below.refl _ _) n_); have HL5 := Aside0.mk (HL4.out.below HBD.out); have BK5 := Aside0.mk (blk_below BK4.out HBD.out); have HB5 := Aside0.mk (HB4.out.trans (HBD.out.mono HB4.out.size)); have HC5 := Aside0.mk (Kd.C_below HC4.out HBD.out); clear c0 c1 hd; have c0 : w5.cell? ⟨gb, 0, none⟩ = some (.int .u64 k) := (blk_cell BK5.out 0).trans rfl; have c1 : w5.cell? ⟨gb, 1, none⟩ = some (.slice A bs.length c) := (blk_cell BK5.out 1).trans rfl; (obtain ⟨⟨h0, h1, h2, h3⟩, hf⟩ := HL5.out.cells))
  have hcv := (Kd.C_string (P := Try.prog) (A := A') (c := c') Try.underlying50 Try.underlying5 Try.underlying9 (Kd.C_drew (DR2.out _ HC5.out)))
  rw [HTX.out] at hcv
  refine region_tail 14 (by kernel_rfl) (by kernel_rfl) ?_
  simp only [List.take_succ_cons, List.take_zero, List.drop_succ_cons, List.drop_zero]
  repeat still_step
  refine wpStill_nil ?_
  have HM := Aside0.mk HL5.out.map.drew
  go_wp2_with (at_mapUpdate; refine wpList_mapUpdate_own _ rfl _ _ _ 67 rfl 24 42 law24 Try.underlying67 _ b n _ rfl HM.out HN.out _ _ _ rfl rfl hkk.out (pd ⟨k, ve, text⟩) [] (postR_mk ⟨k, ve, text⟩) ?_; intro w6 hown6 hg6; have HO6 := Aside0.mk hown6; have HG6 := Aside0.mk hg6; have BG6 := Aside0.mk (blk_grown (blk_drew HL5.out.blk) hg6 HL5.out.ne.1); have BB6 := Aside0.mk (blk_grown (blk_drew BK5.out) hg6 (by have := HGB.out; have := (HH.out.lt (.inr (.inl rfl))).2; omega)); clear hown6 hg6 h0 h1 h2 h3 hf c0 c1 hcv; have c0 : w6.cell? ⟨gb, 0, none⟩ = some (.int .u64 k) := (blk_cell BB6.out 0).trans rfl; have h3 : w6.cell? ⟨g, 3, none⟩ = some (.int .u64 L.cur) := (blk_cell BG6.out 3).trans rfl; go_frame)
  go_quiet (fail)
  go_wp2
  go_ret
  have m56 : Mv (fun j => j = b) w5 w6 := (Mv.of_below (below_drew (Below.refl _ _))).trans (.of_grown (S := fun j => j = b) HG6.out (fun j e => by cases e; rfl)) (fun j hj => .inl hj)
  have m1 : Mv (Owns g b v) w (w6.drewN nq) := ((Mv.of_below HB5.out).trans m56 (fun j hj => .inl (.inr (.inl hj)))).trans (S' := fun _ => False) (.of_below (pw_below_drewN (Below.refl _ _) _)) (fun j hj => hj.elim)
  refine ⟨by rw [HOF.out]; rfl, m1, fun q => by rw [HOF.out] at q; cases q⟩
set_option maxHeartbeats 4000000 in
set_option maxRecDepth 100000 in
theorem load_lo6 {w : World} {B g b n : Nat} {v : Value} {L : LG} (h : Led w B g b n v L) (hB : B ≤ w.heap.size) (hn : n < maxLen) {k : Int} {A : Option Addr} {c : Nat} {bs : List Int} {nw : Int} (hk : 0 ≤ k ∧ k ≤ 18446744073709551615) (hC : (Kd.int .u8).C w A bs.length bs) (hc : bs.length ≤ c) (hb : Bytes bs) (hnw : L.newest ≤ nw) (h100 : nw ≤ 100) (hi : ¬ 9223372036854775808 ≤ k) (hx : k ≠ 0) (hy : k < L.next) (hz : 8 ≤ bs.length) (hu : bs.length ≤ 4104) (h1 : 0 < verOf bs) (h2 : ¬ verOf bs ≤ nw) :
    Calls Try.prog 30 #[.pointer (some ⟨g, 0, none⟩), .agg #[.int .u64 k, .slice A bs.length c], .int .u64 nw] w fun e w' => e = .returned (.bool (ldOk L k bs nw)) ∧ Ldd w w' B g b n v L k bs nw := by
  have HOF : Aside0 (ldOk L k bs nw = false) := ⟨by
    unfold ldOk
    rw [if_neg hi, show decide (k ≠ 0) = true from decide_eq_true hx, show decide (k < L.next) = true from decide_eq_true hy, show decide (8 ≤ bs.length) = true from decide_eq_true hz, show decide (bs.length ≤ 4104) = true from decide_eq_true hu]
    rw [show decide (0 < verOf bs) = true from decide_eq_true h1, show decide (verOf bs ≤ nw) = false from decide_eq_false h2]; rfl⟩
  have HAC := Aside0.mk (show ldL L k bs = ⟨setP L.posts ⟨k, verOf bs, strOfNums (bs.drop 8)⟩, L.pols, L.next, L.cur⟩ from if_neg hi)
  have hnum := Aside0.mk (num_is (bs.take 8) (bytes_take hb 8) (List.length_take_le 8 bs) 9 (by have := List.length_take_le 8 bs; omega))
  have HH := Aside0.mk h
  have HN := Aside0.mk hn
  have HBB := Aside0.mk hB
  have HK := Aside0.mk hk
  have HC := Aside0.mk hC
  have HCC := Aside0.mk hc
  have HBY := Aside0.mk hb
  have HPO := Aside0.mk h.ok.pols
  obtain ⟨K1, hK1⟩ : ∃ K1, K1 = 9223372036854775808 + L.newest := ⟨_, rfl⟩
  obtain ⟨K2, hK2⟩ : ∃ K2, K2 = K1 + 1 := ⟨_, rfl⟩
  have hw2 : IntKind.u64.wrap (9223372036854775808 + L.newest) = K1 := by have := HPO.out; rw [hK1]; simp [IntKind.wrap, IntKind.bits, IntKind.signed, LG.newest]; omega
  have hw3 : IntKind.u64.wrap (K1 + 1) = K2 := by have := HPO.out; rw [hK2, hK1]; simp [IntKind.wrap, IntKind.bits, IntKind.signed, LG.newest]; omega
  have HK2 := Aside0.mk (show K2 = 9223372036854775808 + L.newest + 1 by rw [hK2, hK1])
  clear h hn hB hk hC hc hb hK1 hK2
  have e0 : decide (9223372036854775808 ≤ k) = false := decide_eq_false hi
  have e1 : (k == 0) = false := beq_eq_false_iff_ne.2 hx
  have e2 : decide (L.next ≤ k) = false := decide_eq_false (by omega)
  have e3 : decide ((bs.length : Int) < 8) = false := decide_eq_false (by omega)
  have e4 : decide (4104 < (bs.length : Int)) = false := decide_eq_false (by omega)
  obtain ⟨ve, hve⟩ : ∃ ve, verOf bs = ve := ⟨_, rfl⟩
  have f1 : decide (0 < ve) = true := decide_eq_true (by rw [← hve]; exact h1)
  have f2 : decide (ve ≤ nw) = false := decide_eq_false (by rw [← hve]; exact h2)
  clear h1 h2
  have hnum' : ledger_number.f 9 (bs.take 8) = some ve := by rw [← hve]; exact hnum.out
  have HNUM := Aside0.mk hnum'
  obtain ⟨text, htext⟩ : ∃ text, strOfNums (bs.drop 8) = text := ⟨_, rfl⟩
  rw [hve, htext] at HAC
  have HTX := Aside0.mk htext
  obtain ⟨i0, hi5, _, hsz5, _⟩ := info_parts info5
  obtain ⟨tk1, tk2, tk3⟩ := print_take_of (P := Try.prog) (Value.int .u8) (0 : Int) 50 5 .i64 Try.underlying50 hi5 hsz5 A c bs 8 (by omega) (by omega) HCC.out
  have tk1' : ∀ W : World, (Instr.slice 50 (.slice A bs.length c) none (some (.int .i64 8)) none).run Try.prog W = .ok (.slice A (bs.take 8).length c) W := tk1
  have TK2 := Aside0.mk (show ∀ W, (Kd.int .u8).C W A bs.length bs → (Kd.int .u8).C W A (bs.take 8).length (bs.take 8) from fun W hC => Kd.C_of_reads (h1 := fun _ => rfl) (tk2 W (Kd.reads_of_C hC)))
  have TK3 := Aside0.mk (show (bs.take 8).length ≤ c from tk3)
  obtain ⟨A', dr1, dr2, dr3⟩ := print_drop_of (P := Try.prog) (Value.int .u8) (0 : Int) 50 5 .i64 Try.underlying50 hi5 hsz5 A c bs 8 (by omega) (by omega) HCC.out
  obtain ⟨c', hc'⟩ : ∃ c', c - (8 : Int).toNat = c' := ⟨_, rfl⟩
  rw [hc'] at dr1 dr3
  have dr1' : ∀ W : World, (Instr.slice 50 (.slice A bs.length c) (some (.int .i64 8)) none none).run Try.prog W = .ok (.slice A' (bs.drop 8).length c') W := dr1
  have DR2 := Aside0.mk (show ∀ W, (Kd.int .u8).C W A bs.length bs → (Kd.int .u8).C W A' (bs.drop 8).length (bs.drop 8) from fun W hC => Kd.C_of_reads (h1 := fun _ => rfl) (dr2 W (Kd.reads_of_C hC)))
  have hkk := Aside0.mk (keyOf_int_mk Try.underlying24 (wf64 HK.out))
  obtain ⟨tk, htk⟩ : ∃ tk, bs.take 8 = tk := ⟨_, rfl⟩
  obtain ⟨dr, hdr⟩ : ∃ dr, bs.drop 8 = dr := ⟨_, rfl⟩
  rw [htk] at tk1' TK2 TK3 HNUM
  rw [hdr] at dr1' DR2 HTX
  clear hi hx hy hz hu hnw h100 hnum hnum' hve htext tk1 tk2 tk3 dr1 dr2 dr3 htk hdr hi5 hsz5 hc'
  go_enter Try.func30, Try.ntmps30
  go_wp2_with (first
    | ((with_reducible refine gate_dst (N := 4) rfl ?_); refine box_event ?hg (N := 4) ?hd (cs := #[.int .u64 k, .slice A bs.length c]) (t := 52) ?hr ?_; (case hd => rfl); (case hg => rfl); (case hr => first | (go_simp; done) | (go_simp; rfl)); intro gb hg w3 hbox hb; have HB3 := Aside0.mk hb; have BK3 := Aside0.mk hbox; have HGB := Aside0.mk (show w.heap.size ≤ gb by rw [hg]; exact Nat.le_refl _); have c0 : w3.cell? ⟨gb, 0, none⟩ = some (.int .u64 k) := (blk_cell hbox 0).trans rfl; have c1 : w3.cell? ⟨gb, 1, none⟩ = some (.slice A bs.length c) := (blk_cell hbox 1).trans rfl; have HL3 := Aside0.mk (HH.out.below hb); obtain ⟨⟨h0, h1, h2, h3⟩, hf⟩ := HL3.out.cells; have HNW := Aside0.mk (fun m => newest_calls (HL3.out.below (pw_below_drewN (Below.refl _ _) m))); have HC3 := Aside0.mk (Kd.C_below HC.out hb); clear hg hbox hb))
  go_quiet (fail)
  have HBQ := Aside0.mk (pw_below_drewN (Below.refl w3.heap.size w3) nq)
  clear h0 h1 h2 h3 hf c0 c1
  generalize w3.drewN nq = w4 at HBQ ⊢
  have HL4 := Aside0.mk (HL3.out.below HBQ.out)
  have BK4 := Aside0.mk (blk_below BK3.out HBQ.out)
  have HB4 := Aside0.mk (HB3.out.trans (HBQ.out.mono HB3.out.size))
  have HC4 := Aside0.mk (Kd.C_below HC3.out HBQ.out)
  have c0 : w4.cell? ⟨gb, 0, none⟩ = some (.int .u64 k) := (blk_cell BK4.out 0).trans rfl
  have c1 : w4.cell? ⟨gb, 1, none⟩ = some (.slice A bs.length c) := (blk_cell BK4.out 1).trans rfl
  go_wp2_with (go_at_call 29; (with_reducible refine (ledger_number.calls 9 A c tk ve _ ?s1 ?s2 HNUM.out).mono ?_); (case s1 => exact TK2.out _ HC4.out); (case s2 => exact TK3.out); rintro e w5 ⟨rfl, hd⟩; have HBD := Aside0.mk (show Below w4.heap.size w4 w5 from by obtain ⟨n_, rfl⟩ := hd.out; exact pw_below_drewN (Below.refl _ _) n_); have HL5 := Aside0.mk (HL4.out.below HBD.out); have BK5 := Aside0.mk (blk_below BK4.out HBD.out); have HB5 := Aside0.mk (HB4.out.trans (HBD.out.mono HB4.out.size)); have HC5 := Aside0.mk (Kd.C_below HC4.out HBD.out); clear c0 c1 hd; have c0 : w5.cell? ⟨gb, 0, none⟩ = some (.int .u64 k) := (blk_cell BK5.out 0).trans rfl; have c1 : w5.cell? ⟨gb, 1, none⟩ = some (.slice A bs.length c) := (blk_cell BK5.out 1).trans rfl; (obtain ⟨⟨h0, h1, h2, h3⟩, hf⟩ := HL5.out.cells))
  have hcv := (Kd.C_string (P := Try.prog) (A := A') (c := c') Try.underlying50 Try.underlying5 Try.underlying9 (Kd.C_drew (DR2.out _ HC5.out)))
  rw [HTX.out] at hcv
  refine region_tail 14 (by kernel_rfl) (by kernel_rfl) ?_
  simp only [List.take_succ_cons, List.take_zero, List.drop_succ_cons, List.drop_zero]
  repeat still_step
  refine wpStill_nil ?_
  have HM := Aside0.mk HL5.out.map.drew
  go_wp2_with (at_mapUpdate; refine wpList_mapUpdate_own _ rfl _ _ _ 67 rfl 24 42 law24 Try.underlying67 _ b n _ rfl HM.out HN.out _ _ _ rfl rfl hkk.out (pd ⟨k, ve, text⟩) [] (postR_mk ⟨k, ve, text⟩) ?_; intro w6 hown6 hg6; have HO6 := Aside0.mk hown6; have HG6 := Aside0.mk hg6; have BG6 := Aside0.mk (blk_grown (blk_drew HL5.out.blk) hg6 HL5.out.ne.1); have BB6 := Aside0.mk (blk_grown (blk_drew BK5.out) hg6 (by have := HGB.out; have := (HH.out.lt (.inr (.inl rfl))).2; omega)); clear hown6 hg6 h0 h1 h2 h3 hf c0 c1 hcv; have c0 : w6.cell? ⟨gb, 0, none⟩ = some (.int .u64 k) := (blk_cell BB6.out 0).trans rfl; have h3 : w6.cell? ⟨g, 3, none⟩ = some (.int .u64 L.cur) := (blk_cell BG6.out 3).trans rfl; go_frame)
  go_quiet (fail)
  go_wp2
  go_ret
  have m56 : Mv (fun j => j = b) w5 w6 := (Mv.of_below (below_drew (Below.refl _ _))).trans (.of_grown (S := fun j => j = b) HG6.out (fun j e => by cases e; rfl)) (fun j hj => .inl hj)
  have m1 : Mv (Owns g b v) w (w6.drewN nq) := ((Mv.of_below HB5.out).trans m56 (fun j hj => .inl (.inr (.inl hj)))).trans (S' := fun _ => False) (.of_below (pw_below_drewN (Below.refl _ _) _)) (fun j hj => hj.elim)
  refine ⟨by rw [HOF.out]; rfl, m1, fun q => by rw [HOF.out] at q; cases q⟩
set_option maxHeartbeats 4000000 in
set_option maxRecDepth 100000 in
theorem load_lo7 {w : World} {B g b n : Nat} {v : Value} {L : LG} (h : Led w B g b n v L) (hB : B ≤ w.heap.size) (hn : n < maxLen) {k : Int} {A : Option Addr} {c : Nat} {bs : List Int} {nw : Int} (hk : 0 ≤ k ∧ k ≤ 18446744073709551615) (hC : (Kd.int .u8).C w A bs.length bs) (hc : bs.length ≤ c) (hb : Bytes bs) (hnw : L.newest ≤ nw) (h100 : nw ≤ 100) (hi : ¬ 9223372036854775808 ≤ k) (hx : k ≠ 0) (hy : k < L.next) (hz : 8 ≤ bs.length) (hu : bs.length ≤ 4104) (h1 : 0 < verOf bs) (h2 : verOf bs ≤ nw) (h3 : L.cur < k) :
    Calls Try.prog 30 #[.pointer (some ⟨g, 0, none⟩), .agg #[.int .u64 k, .slice A bs.length c], .int .u64 nw] w fun e w' => e = .returned (.bool (ldOk L k bs nw)) ∧ Ldd w w' B g b n v L k bs nw := by
  have HOF : Aside0 (ldOk L k bs nw = true) := ⟨by
    unfold ldOk
    rw [if_neg hi, show decide (k ≠ 0) = true from decide_eq_true hx, show decide (k < L.next) = true from decide_eq_true hy, show decide (8 ≤ bs.length) = true from decide_eq_true hz, show decide (bs.length ≤ 4104) = true from decide_eq_true hu]
    rw [show decide (0 < verOf bs) = true from decide_eq_true h1, show decide (verOf bs ≤ nw) = true from decide_eq_true h2, show decide (L.cur < k) = true from decide_eq_true h3]; rfl⟩
  have HOK := Aside0.mk (ldL_ok h.ok hk hb hnw h100 HOF.out)
  have HAC := Aside0.mk (show ldL L k bs = ⟨setP L.posts ⟨k, verOf bs, strOfNums (bs.drop 8)⟩, L.pols, L.next, L.cur⟩ from if_neg hi)
  have hnum := Aside0.mk (num_is (bs.take 8) (bytes_take hb 8) (List.length_take_le 8 bs) 9 (by have := List.length_take_le 8 bs; omega))
  have HH := Aside0.mk h
  have HN := Aside0.mk hn
  have HBB := Aside0.mk hB
  have HK := Aside0.mk hk
  have HC := Aside0.mk hC
  have HCC := Aside0.mk hc
  have HBY := Aside0.mk hb
  have HPO := Aside0.mk h.ok.pols
  obtain ⟨K1, hK1⟩ : ∃ K1, K1 = 9223372036854775808 + L.newest := ⟨_, rfl⟩
  obtain ⟨K2, hK2⟩ : ∃ K2, K2 = K1 + 1 := ⟨_, rfl⟩
  have hw2 : IntKind.u64.wrap (9223372036854775808 + L.newest) = K1 := by have := HPO.out; rw [hK1]; simp [IntKind.wrap, IntKind.bits, IntKind.signed, LG.newest]; omega
  have hw3 : IntKind.u64.wrap (K1 + 1) = K2 := by have := HPO.out; rw [hK2, hK1]; simp [IntKind.wrap, IntKind.bits, IntKind.signed, LG.newest]; omega
  have HK2 := Aside0.mk (show K2 = 9223372036854775808 + L.newest + 1 by rw [hK2, hK1])
  clear h hn hB hk hC hc hb hK1 hK2
  have e0 : decide (9223372036854775808 ≤ k) = false := decide_eq_false hi
  have e1 : (k == 0) = false := beq_eq_false_iff_ne.2 hx
  have e2 : decide (L.next ≤ k) = false := decide_eq_false (by omega)
  have e3 : decide ((bs.length : Int) < 8) = false := decide_eq_false (by omega)
  have e4 : decide (4104 < (bs.length : Int)) = false := decide_eq_false (by omega)
  obtain ⟨ve, hve⟩ : ∃ ve, verOf bs = ve := ⟨_, rfl⟩
  have f1 : decide (0 < ve) = true := decide_eq_true (by rw [← hve]; exact h1)
  have f2 : decide (ve ≤ nw) = true := decide_eq_true (by rw [← hve]; exact h2)
  have f3 : decide (L.cur < k) = true := decide_eq_true h3
  clear h1 h2 h3
  have hnum' : ledger_number.f 9 (bs.take 8) = some ve := by rw [← hve]; exact hnum.out
  have HNUM := Aside0.mk hnum'
  obtain ⟨text, htext⟩ : ∃ text, strOfNums (bs.drop 8) = text := ⟨_, rfl⟩
  rw [hve, htext] at HAC
  have HTX := Aside0.mk htext
  obtain ⟨i0, hi5, _, hsz5, _⟩ := info_parts info5
  obtain ⟨tk1, tk2, tk3⟩ := print_take_of (P := Try.prog) (Value.int .u8) (0 : Int) 50 5 .i64 Try.underlying50 hi5 hsz5 A c bs 8 (by omega) (by omega) HCC.out
  have tk1' : ∀ W : World, (Instr.slice 50 (.slice A bs.length c) none (some (.int .i64 8)) none).run Try.prog W = .ok (.slice A (bs.take 8).length c) W := tk1
  have TK2 := Aside0.mk (show ∀ W, (Kd.int .u8).C W A bs.length bs → (Kd.int .u8).C W A (bs.take 8).length (bs.take 8) from fun W hC => Kd.C_of_reads (h1 := fun _ => rfl) (tk2 W (Kd.reads_of_C hC)))
  have TK3 := Aside0.mk (show (bs.take 8).length ≤ c from tk3)
  obtain ⟨A', dr1, dr2, dr3⟩ := print_drop_of (P := Try.prog) (Value.int .u8) (0 : Int) 50 5 .i64 Try.underlying50 hi5 hsz5 A c bs 8 (by omega) (by omega) HCC.out
  obtain ⟨c', hc'⟩ : ∃ c', c - (8 : Int).toNat = c' := ⟨_, rfl⟩
  rw [hc'] at dr1 dr3
  have dr1' : ∀ W : World, (Instr.slice 50 (.slice A bs.length c) (some (.int .i64 8)) none none).run Try.prog W = .ok (.slice A' (bs.drop 8).length c') W := dr1
  have DR2 := Aside0.mk (show ∀ W, (Kd.int .u8).C W A bs.length bs → (Kd.int .u8).C W A' (bs.drop 8).length (bs.drop 8) from fun W hC => Kd.C_of_reads (h1 := fun _ => rfl) (dr2 W (Kd.reads_of_C hC)))
  have hkk := Aside0.mk (keyOf_int_mk Try.underlying24 (wf64 HK.out))
  obtain ⟨tk, htk⟩ : ∃ tk, bs.take 8 = tk := ⟨_, rfl⟩
  obtain ⟨dr, hdr⟩ : ∃ dr, bs.drop 8 = dr := ⟨_, rfl⟩
  rw [htk] at tk1' TK2 TK3 HNUM
  rw [hdr] at dr1' DR2 HTX
  clear hi hx hy hz hu hnw h100 hnum hnum' hve htext tk1 tk2 tk3 dr1 dr2 dr3 htk hdr hi5 hsz5 hc'
  go_enter Try.func30, Try.ntmps30
  go_wp2_with (first
    | ((with_reducible refine gate_dst (N := 4) rfl ?_); refine box_event ?hg (N := 4) ?hd (cs := #[.int .u64 k, .slice A bs.length c]) (t := 52) ?hr ?_; (case hd => rfl); (case hg => rfl); (case hr => first | (go_simp; done) | (go_simp; rfl)); intro gb hg w3 hbox hb; have HB3 := Aside0.mk hb; have BK3 := Aside0.mk hbox; have HGB := Aside0.mk (show w.heap.size ≤ gb by rw [hg]; exact Nat.le_refl _); have c0 : w3.cell? ⟨gb, 0, none⟩ = some (.int .u64 k) := (blk_cell hbox 0).trans rfl; have c1 : w3.cell? ⟨gb, 1, none⟩ = some (.slice A bs.length c) := (blk_cell hbox 1).trans rfl; have HL3 := Aside0.mk (HH.out.below hb); obtain ⟨⟨h0, h1, h2, h3⟩, hf⟩ := HL3.out.cells; have HNW := Aside0.mk (fun m => newest_calls (HL3.out.below (pw_below_drewN (Below.refl _ _) m))); have HC3 := Aside0.mk (Kd.C_below HC.out hb); clear hg hbox hb))
  go_quiet (fail)
  have HBQ := Aside0.mk (pw_below_drewN (Below.refl w3.heap.size w3) nq)
  clear h0 h1 h2 h3 hf c0 c1
  generalize w3.drewN nq = w4 at HBQ ⊢
  have HL4 := Aside0.mk (HL3.out.below HBQ.out)
  have BK4 := Aside0.mk (blk_below BK3.out HBQ.out)
  have HB4 := Aside0.mk (HB3.out.trans (HBQ.out.mono HB3.out.size))
  have HC4 := Aside0.mk (Kd.C_below HC3.out HBQ.out)
  have c0 : w4.cell? ⟨gb, 0, none⟩ = some (.int .u64 k) := (blk_cell BK4.out 0).trans rfl
  have c1 : w4.cell? ⟨gb, 1, none⟩ = some (.slice A bs.length c) := (blk_cell BK4.out 1).trans rfl
  go_wp2_with (go_at_call 29; (with_reducible refine (ledger_number.calls 9 A c tk ve _ ?s1 ?s2 HNUM.out).mono ?_); (case s1 => exact TK2.out _ HC4.out); (case s2 => exact TK3.out); rintro e w5 ⟨rfl, hd⟩; have HBD := Aside0.mk (show Below w4.heap.size w4 w5 from by obtain ⟨n_, rfl⟩ := hd.out; exact pw_below_drewN (Below.refl _ _) n_); have HL5 := Aside0.mk (HL4.out.below HBD.out); have BK5 := Aside0.mk (blk_below BK4.out HBD.out); have HB5 := Aside0.mk (HB4.out.trans (HBD.out.mono HB4.out.size)); have HC5 := Aside0.mk (Kd.C_below HC4.out HBD.out); clear c0 c1 hd; have c0 : w5.cell? ⟨gb, 0, none⟩ = some (.int .u64 k) := (blk_cell BK5.out 0).trans rfl; have c1 : w5.cell? ⟨gb, 1, none⟩ = some (.slice A bs.length c) := (blk_cell BK5.out 1).trans rfl; (obtain ⟨⟨h0, h1, h2, h3⟩, hf⟩ := HL5.out.cells))
  have hcv := (Kd.C_string (P := Try.prog) (A := A') (c := c') Try.underlying50 Try.underlying5 Try.underlying9 (Kd.C_drew (DR2.out _ HC5.out)))
  rw [HTX.out] at hcv
  refine region_tail 14 (by kernel_rfl) (by kernel_rfl) ?_
  simp only [List.take_succ_cons, List.take_zero, List.drop_succ_cons, List.drop_zero]
  repeat still_step
  refine wpStill_nil ?_
  have HM := Aside0.mk HL5.out.map.drew
  go_wp2_with (at_mapUpdate; refine wpList_mapUpdate_own _ rfl _ _ _ 67 rfl 24 42 law24 Try.underlying67 _ b n _ rfl HM.out HN.out _ _ _ rfl rfl hkk.out (pd ⟨k, ve, text⟩) [] (postR_mk ⟨k, ve, text⟩) ?_; intro w6 hown6 hg6; have HO6 := Aside0.mk hown6; have HG6 := Aside0.mk hg6; have BG6 := Aside0.mk (blk_grown (blk_drew HL5.out.blk) hg6 HL5.out.ne.1); have BB6 := Aside0.mk (blk_grown (blk_drew BK5.out) hg6 (by have := HGB.out; have := (HH.out.lt (.inr (.inl rfl))).2; omega)); clear hown6 hg6 h0 h1 h2 h3 hf c0 c1 hcv; have c0 : w6.cell? ⟨gb, 0, none⟩ = some (.int .u64 k) := (blk_cell BB6.out 0).trans rfl; have h3 : w6.cell? ⟨g, 3, none⟩ = some (.int .u64 L.cur) := (blk_cell BG6.out 3).trans rfl; go_frame)
  go_quiet (fail)
  go_wp2
  go_ret
  have m56 : Mv (fun j => j = b) w5 w6 := (Mv.of_below (below_drew (Below.refl _ _))).trans (.of_grown (S := fun j => j = b) HG6.out (fun j e => by cases e; rfl)) (fun j hj => .inl hj)
  have m1 : Mv (Owns g b v) w (w6.drewN nq) := ((Mv.of_below HB5.out).trans m56 (fun j hj => .inl (.inr (.inl hj)))).trans (S' := fun _ => False) (.of_below (pw_below_drewN (Below.refl _ _) _)) (fun j hj => hj.elim)
  have e1' := put_eq HL5.out.ok.rise (⟨k, ve, text⟩ : LP) (x := k) rfl (HO6.out.canon law24)
  refine ⟨by rw [HOF.out]; rfl, m1, fun _ => ?_⟩
  rw [HAC.out] at HOK ⊢
  exact ⟨⟨v, ⟨(BG6.out : _), e1' ▸ HO6.out, own_mv HL5.out.row (m56.trans (S' := fun _ => False) (.of_below (pw_below_drewN (Below.refl _ _) _)) (fun j hj => hj.elim)) (fun j hj e => HL5.out.ne.2.2 (by rw [hj, e])), HH.out.gB, HH.out.bB, HOK.out⟩, fun j hj => .inl hj⟩, m1⟩
set_option maxHeartbeats 4000000 in
set_option maxRecDepth 100000 in
theorem load_lo8 {w : World} {B g b n : Nat} {v : Value} {L : LG} (h : Led w B g b n v L) (hB : B ≤ w.heap.size) (hn : n < maxLen) {k : Int} {A : Option Addr} {c : Nat} {bs : List Int} {nw : Int} (hk : 0 ≤ k ∧ k ≤ 18446744073709551615) (hC : (Kd.int .u8).C w A bs.length bs) (hc : bs.length ≤ c) (hb : Bytes bs) (hnw : L.newest ≤ nw) (h100 : nw ≤ 100) (hi : ¬ 9223372036854775808 ≤ k) (hx : k ≠ 0) (hy : k < L.next) (hz : 8 ≤ bs.length) (hu : bs.length ≤ 4104) (h1 : 0 < verOf bs) (h2 : verOf bs ≤ nw) (h3 : ¬ L.cur < k) (h4 : verOf bs = nw) :
    Calls Try.prog 30 #[.pointer (some ⟨g, 0, none⟩), .agg #[.int .u64 k, .slice A bs.length c], .int .u64 nw] w fun e w' => e = .returned (.bool (ldOk L k bs nw)) ∧ Ldd w w' B g b n v L k bs nw := by
  have HOF : Aside0 (ldOk L k bs nw = true) := ⟨by
    unfold ldOk
    rw [if_neg hi, show decide (k ≠ 0) = true from decide_eq_true hx, show decide (k < L.next) = true from decide_eq_true hy, show decide (8 ≤ bs.length) = true from decide_eq_true hz, show decide (bs.length ≤ 4104) = true from decide_eq_true hu]
    rw [show decide (0 < verOf bs) = true from decide_eq_true h1, show decide (verOf bs ≤ nw) = true from decide_eq_true h2, show decide (L.cur < k) = false from decide_eq_false h3, show decide (verOf bs = nw) = true from decide_eq_true h4]; rfl⟩
  have HOK := Aside0.mk (ldL_ok h.ok hk hb hnw h100 HOF.out)
  have HAC := Aside0.mk (show ldL L k bs = ⟨setP L.posts ⟨k, verOf bs, strOfNums (bs.drop 8)⟩, L.pols, L.next, L.cur⟩ from if_neg hi)
  have hnum := Aside0.mk (num_is (bs.take 8) (bytes_take hb 8) (List.length_take_le 8 bs) 9 (by have := List.length_take_le 8 bs; omega))
  have HH := Aside0.mk h
  have HN := Aside0.mk hn
  have HBB := Aside0.mk hB
  have HK := Aside0.mk hk
  have HC := Aside0.mk hC
  have HCC := Aside0.mk hc
  have HBY := Aside0.mk hb
  have HPO := Aside0.mk h.ok.pols
  obtain ⟨K1, hK1⟩ : ∃ K1, K1 = 9223372036854775808 + L.newest := ⟨_, rfl⟩
  obtain ⟨K2, hK2⟩ : ∃ K2, K2 = K1 + 1 := ⟨_, rfl⟩
  have hw2 : IntKind.u64.wrap (9223372036854775808 + L.newest) = K1 := by have := HPO.out; rw [hK1]; simp [IntKind.wrap, IntKind.bits, IntKind.signed, LG.newest]; omega
  have hw3 : IntKind.u64.wrap (K1 + 1) = K2 := by have := HPO.out; rw [hK2, hK1]; simp [IntKind.wrap, IntKind.bits, IntKind.signed, LG.newest]; omega
  have HK2 := Aside0.mk (show K2 = 9223372036854775808 + L.newest + 1 by rw [hK2, hK1])
  clear h hn hB hk hC hc hb hK1 hK2
  have e0 : decide (9223372036854775808 ≤ k) = false := decide_eq_false hi
  have e1 : (k == 0) = false := beq_eq_false_iff_ne.2 hx
  have e2 : decide (L.next ≤ k) = false := decide_eq_false (by omega)
  have e3 : decide ((bs.length : Int) < 8) = false := decide_eq_false (by omega)
  have e4 : decide (4104 < (bs.length : Int)) = false := decide_eq_false (by omega)
  obtain ⟨ve, hve⟩ : ∃ ve, verOf bs = ve := ⟨_, rfl⟩
  have f1 : decide (0 < ve) = true := decide_eq_true (by rw [← hve]; exact h1)
  have f2 : decide (ve ≤ nw) = true := decide_eq_true (by rw [← hve]; exact h2)
  have f3 : decide (L.cur < k) = false := decide_eq_false h3
  have f4 : (ve == nw) = true := beq_iff_eq.2 (by rw [← hve]; exact h4)
  clear h1 h2 h3 h4
  have hnum' : ledger_number.f 9 (bs.take 8) = some ve := by rw [← hve]; exact hnum.out
  have HNUM := Aside0.mk hnum'
  obtain ⟨text, htext⟩ : ∃ text, strOfNums (bs.drop 8) = text := ⟨_, rfl⟩
  rw [hve, htext] at HAC
  have HTX := Aside0.mk htext
  obtain ⟨i0, hi5, _, hsz5, _⟩ := info_parts info5
  obtain ⟨tk1, tk2, tk3⟩ := print_take_of (P := Try.prog) (Value.int .u8) (0 : Int) 50 5 .i64 Try.underlying50 hi5 hsz5 A c bs 8 (by omega) (by omega) HCC.out
  have tk1' : ∀ W : World, (Instr.slice 50 (.slice A bs.length c) none (some (.int .i64 8)) none).run Try.prog W = .ok (.slice A (bs.take 8).length c) W := tk1
  have TK2 := Aside0.mk (show ∀ W, (Kd.int .u8).C W A bs.length bs → (Kd.int .u8).C W A (bs.take 8).length (bs.take 8) from fun W hC => Kd.C_of_reads (h1 := fun _ => rfl) (tk2 W (Kd.reads_of_C hC)))
  have TK3 := Aside0.mk (show (bs.take 8).length ≤ c from tk3)
  obtain ⟨A', dr1, dr2, dr3⟩ := print_drop_of (P := Try.prog) (Value.int .u8) (0 : Int) 50 5 .i64 Try.underlying50 hi5 hsz5 A c bs 8 (by omega) (by omega) HCC.out
  obtain ⟨c', hc'⟩ : ∃ c', c - (8 : Int).toNat = c' := ⟨_, rfl⟩
  rw [hc'] at dr1 dr3
  have dr1' : ∀ W : World, (Instr.slice 50 (.slice A bs.length c) (some (.int .i64 8)) none none).run Try.prog W = .ok (.slice A' (bs.drop 8).length c') W := dr1
  have DR2 := Aside0.mk (show ∀ W, (Kd.int .u8).C W A bs.length bs → (Kd.int .u8).C W A' (bs.drop 8).length (bs.drop 8) from fun W hC => Kd.C_of_reads (h1 := fun _ => rfl) (dr2 W (Kd.reads_of_C hC)))
  have hkk := Aside0.mk (keyOf_int_mk Try.underlying24 (wf64 HK.out))
  obtain ⟨tk, htk⟩ : ∃ tk, bs.take 8 = tk := ⟨_, rfl⟩
  obtain ⟨dr, hdr⟩ : ∃ dr, bs.drop 8 = dr := ⟨_, rfl⟩
  rw [htk] at tk1' TK2 TK3 HNUM
  rw [hdr] at dr1' DR2 HTX
  clear hi hx hy hz hu hnw h100 hnum hnum' hve htext tk1 tk2 tk3 dr1 dr2 dr3 htk hdr hi5 hsz5 hc'
  go_enter Try.func30, Try.ntmps30
  go_wp2_with (first
    | ((with_reducible refine gate_dst (N := 4) rfl ?_); refine box_event ?hg (N := 4) ?hd (cs := #[.int .u64 k, .slice A bs.length c]) (t := 52) ?hr ?_; (case hd => rfl); (case hg => rfl); (case hr => first | (go_simp; done) | (go_simp; rfl)); intro gb hg w3 hbox hb; have HB3 := Aside0.mk hb; have BK3 := Aside0.mk hbox; have HGB := Aside0.mk (show w.heap.size ≤ gb by rw [hg]; exact Nat.le_refl _); have c0 : w3.cell? ⟨gb, 0, none⟩ = some (.int .u64 k) := (blk_cell hbox 0).trans rfl; have c1 : w3.cell? ⟨gb, 1, none⟩ = some (.slice A bs.length c) := (blk_cell hbox 1).trans rfl; have HL3 := Aside0.mk (HH.out.below hb); obtain ⟨⟨h0, h1, h2, h3⟩, hf⟩ := HL3.out.cells; have HNW := Aside0.mk (fun m => newest_calls (HL3.out.below (pw_below_drewN (Below.refl _ _) m))); have HC3 := Aside0.mk (Kd.C_below HC.out hb); clear hg hbox hb))
  go_quiet (fail)
  have HBQ := Aside0.mk (pw_below_drewN (Below.refl w3.heap.size w3) nq)
  clear h0 h1 h2 h3 hf c0 c1
  generalize w3.drewN nq = w4 at HBQ ⊢
  have HL4 := Aside0.mk (HL3.out.below HBQ.out)
  have BK4 := Aside0.mk (blk_below BK3.out HBQ.out)
  have HB4 := Aside0.mk (HB3.out.trans (HBQ.out.mono HB3.out.size))
  have HC4 := Aside0.mk (Kd.C_below HC3.out HBQ.out)
  have c0 : w4.cell? ⟨gb, 0, none⟩ = some (.int .u64 k) := (blk_cell BK4.out 0).trans rfl
  have c1 : w4.cell? ⟨gb, 1, none⟩ = some (.slice A bs.length c) := (blk_cell BK4.out 1).trans rfl
  go_wp2_with (go_at_call 29; (with_reducible refine (ledger_number.calls 9 A c tk ve _ ?s1 ?s2 HNUM.out).mono ?_); (case s1 => exact TK2.out _ HC4.out); (case s2 => exact TK3.out); rintro e w5 ⟨rfl, hd⟩; have HBD := Aside0.mk (show Below w4.heap.size w4 w5 from by obtain ⟨n_, rfl⟩ := hd.out; exact pw_below_drewN (Below.refl _ _) n_); have HL5 := Aside0.mk (HL4.out.below HBD.out); have BK5 := Aside0.mk (blk_below BK4.out HBD.out); have HB5 := Aside0.mk (HB4.out.trans (HBD.out.mono HB4.out.size)); have HC5 := Aside0.mk (Kd.C_below HC4.out HBD.out); clear c0 c1 hd; have c0 : w5.cell? ⟨gb, 0, none⟩ = some (.int .u64 k) := (blk_cell BK5.out 0).trans rfl; have c1 : w5.cell? ⟨gb, 1, none⟩ = some (.slice A bs.length c) := (blk_cell BK5.out 1).trans rfl; (obtain ⟨⟨h0, h1, h2, h3⟩, hf⟩ := HL5.out.cells))
  have hcv := (Kd.C_string (P := Try.prog) (A := A') (c := c') Try.underlying50 Try.underlying5 Try.underlying9 (Kd.C_drew (DR2.out _ HC5.out)))
  rw [HTX.out] at hcv
  refine region_tail 14 (by kernel_rfl) (by kernel_rfl) ?_
  simp only [List.take_succ_cons, List.take_zero, List.drop_succ_cons, List.drop_zero]
  repeat still_step
  refine wpStill_nil ?_
  have HM := Aside0.mk HL5.out.map.drew
  go_wp2_with (at_mapUpdate; refine wpList_mapUpdate_own _ rfl _ _ _ 67 rfl 24 42 law24 Try.underlying67 _ b n _ rfl HM.out HN.out _ _ _ rfl rfl hkk.out (pd ⟨k, ve, text⟩) [] (postR_mk ⟨k, ve, text⟩) ?_; intro w6 hown6 hg6; have HO6 := Aside0.mk hown6; have HG6 := Aside0.mk hg6; have BG6 := Aside0.mk (blk_grown (blk_drew HL5.out.blk) hg6 HL5.out.ne.1); have BB6 := Aside0.mk (blk_grown (blk_drew BK5.out) hg6 (by have := HGB.out; have := (HH.out.lt (.inr (.inl rfl))).2; omega)); clear hown6 hg6 h0 h1 h2 h3 hf c0 c1 hcv; have c0 : w6.cell? ⟨gb, 0, none⟩ = some (.int .u64 k) := (blk_cell BB6.out 0).trans rfl; have h3 : w6.cell? ⟨g, 3, none⟩ = some (.int .u64 L.cur) := (blk_cell BG6.out 3).trans rfl; go_frame)
  go_quiet (fail)
  go_wp2
  go_ret
  have m56 : Mv (fun j => j = b) w5 w6 := (Mv.of_below (below_drew (Below.refl _ _))).trans (.of_grown (S := fun j => j = b) HG6.out (fun j e => by cases e; rfl)) (fun j hj => .inl hj)
  have m1 : Mv (Owns g b v) w (w6.drewN nq) := ((Mv.of_below HB5.out).trans m56 (fun j hj => .inl (.inr (.inl hj)))).trans (S' := fun _ => False) (.of_below (pw_below_drewN (Below.refl _ _) _)) (fun j hj => hj.elim)
  have e1' := put_eq HL5.out.ok.rise (⟨k, ve, text⟩ : LP) (x := k) rfl (HO6.out.canon law24)
  refine ⟨by rw [HOF.out]; rfl, m1, fun _ => ?_⟩
  rw [HAC.out] at HOK ⊢
  exact ⟨⟨v, ⟨(BG6.out : _), e1' ▸ HO6.out, own_mv HL5.out.row (m56.trans (S' := fun _ => False) (.of_below (pw_below_drewN (Below.refl _ _) _)) (fun j hj => hj.elim)) (fun j hj e => HL5.out.ne.2.2 (by rw [hj, e])), HH.out.gB, HH.out.bB, HOK.out⟩, fun j hj => .inl hj⟩, m1⟩
set_option maxHeartbeats 4000000 in
set_option maxRecDepth 100000 in
theorem load_lo9 {w : World} {B g b n : Nat} {v : Value} {L : LG} (h : Led w B g b n v L) (hB : B ≤ w.heap.size) (hn : n < maxLen) {k : Int} {A : Option Addr} {c : Nat} {bs : List Int} {nw : Int} (hk : 0 ≤ k ∧ k ≤ 18446744073709551615) (hC : (Kd.int .u8).C w A bs.length bs) (hc : bs.length ≤ c) (hb : Bytes bs) (hnw : L.newest ≤ nw) (h100 : nw ≤ 100) (hi : ¬ 9223372036854775808 ≤ k) (hx : k ≠ 0) (hy : k < L.next) (hz : 8 ≤ bs.length) (hu : bs.length ≤ 4104) (h1 : 0 < verOf bs) (h2 : verOf bs ≤ nw) (h3 : ¬ L.cur < k) (h4 : verOf bs ≠ nw) :
    Calls Try.prog 30 #[.pointer (some ⟨g, 0, none⟩), .agg #[.int .u64 k, .slice A bs.length c], .int .u64 nw] w fun e w' => e = .returned (.bool (ldOk L k bs nw)) ∧ Ldd w w' B g b n v L k bs nw := by
  have HOF : Aside0 (ldOk L k bs nw = false) := ⟨by
    unfold ldOk
    rw [if_neg hi, show decide (k ≠ 0) = true from decide_eq_true hx, show decide (k < L.next) = true from decide_eq_true hy, show decide (8 ≤ bs.length) = true from decide_eq_true hz, show decide (bs.length ≤ 4104) = true from decide_eq_true hu]
    rw [show decide (0 < verOf bs) = true from decide_eq_true h1, show decide (verOf bs ≤ nw) = true from decide_eq_true h2, show decide (L.cur < k) = false from decide_eq_false h3, show decide (verOf bs = nw) = false from decide_eq_false h4]; rfl⟩
  have HAC := Aside0.mk (show ldL L k bs = ⟨setP L.posts ⟨k, verOf bs, strOfNums (bs.drop 8)⟩, L.pols, L.next, L.cur⟩ from if_neg hi)
  have hnum := Aside0.mk (num_is (bs.take 8) (bytes_take hb 8) (List.length_take_le 8 bs) 9 (by have := List.length_take_le 8 bs; omega))
  have HH := Aside0.mk h
  have HN := Aside0.mk hn
  have HBB := Aside0.mk hB
  have HK := Aside0.mk hk
  have HC := Aside0.mk hC
  have HCC := Aside0.mk hc
  have HBY := Aside0.mk hb
  have HPO := Aside0.mk h.ok.pols
  obtain ⟨K1, hK1⟩ : ∃ K1, K1 = 9223372036854775808 + L.newest := ⟨_, rfl⟩
  obtain ⟨K2, hK2⟩ : ∃ K2, K2 = K1 + 1 := ⟨_, rfl⟩
  have hw2 : IntKind.u64.wrap (9223372036854775808 + L.newest) = K1 := by have := HPO.out; rw [hK1]; simp [IntKind.wrap, IntKind.bits, IntKind.signed, LG.newest]; omega
  have hw3 : IntKind.u64.wrap (K1 + 1) = K2 := by have := HPO.out; rw [hK2, hK1]; simp [IntKind.wrap, IntKind.bits, IntKind.signed, LG.newest]; omega
  have HK2 := Aside0.mk (show K2 = 9223372036854775808 + L.newest + 1 by rw [hK2, hK1])
  clear h hn hB hk hC hc hb hK1 hK2
  have e0 : decide (9223372036854775808 ≤ k) = false := decide_eq_false hi
  have e1 : (k == 0) = false := beq_eq_false_iff_ne.2 hx
  have e2 : decide (L.next ≤ k) = false := decide_eq_false (by omega)
  have e3 : decide ((bs.length : Int) < 8) = false := decide_eq_false (by omega)
  have e4 : decide (4104 < (bs.length : Int)) = false := decide_eq_false (by omega)
  obtain ⟨ve, hve⟩ : ∃ ve, verOf bs = ve := ⟨_, rfl⟩
  have f1 : decide (0 < ve) = true := decide_eq_true (by rw [← hve]; exact h1)
  have f2 : decide (ve ≤ nw) = true := decide_eq_true (by rw [← hve]; exact h2)
  have f3 : decide (L.cur < k) = false := decide_eq_false h3
  have f4 : (ve == nw) = false := beq_eq_false_iff_ne.2 (by rw [← hve]; exact h4)
  clear h1 h2 h3 h4
  have hnum' : ledger_number.f 9 (bs.take 8) = some ve := by rw [← hve]; exact hnum.out
  have HNUM := Aside0.mk hnum'
  obtain ⟨text, htext⟩ : ∃ text, strOfNums (bs.drop 8) = text := ⟨_, rfl⟩
  rw [hve, htext] at HAC
  have HTX := Aside0.mk htext
  obtain ⟨i0, hi5, _, hsz5, _⟩ := info_parts info5
  obtain ⟨tk1, tk2, tk3⟩ := print_take_of (P := Try.prog) (Value.int .u8) (0 : Int) 50 5 .i64 Try.underlying50 hi5 hsz5 A c bs 8 (by omega) (by omega) HCC.out
  have tk1' : ∀ W : World, (Instr.slice 50 (.slice A bs.length c) none (some (.int .i64 8)) none).run Try.prog W = .ok (.slice A (bs.take 8).length c) W := tk1
  have TK2 := Aside0.mk (show ∀ W, (Kd.int .u8).C W A bs.length bs → (Kd.int .u8).C W A (bs.take 8).length (bs.take 8) from fun W hC => Kd.C_of_reads (h1 := fun _ => rfl) (tk2 W (Kd.reads_of_C hC)))
  have TK3 := Aside0.mk (show (bs.take 8).length ≤ c from tk3)
  obtain ⟨A', dr1, dr2, dr3⟩ := print_drop_of (P := Try.prog) (Value.int .u8) (0 : Int) 50 5 .i64 Try.underlying50 hi5 hsz5 A c bs 8 (by omega) (by omega) HCC.out
  obtain ⟨c', hc'⟩ : ∃ c', c - (8 : Int).toNat = c' := ⟨_, rfl⟩
  rw [hc'] at dr1 dr3
  have dr1' : ∀ W : World, (Instr.slice 50 (.slice A bs.length c) (some (.int .i64 8)) none none).run Try.prog W = .ok (.slice A' (bs.drop 8).length c') W := dr1
  have DR2 := Aside0.mk (show ∀ W, (Kd.int .u8).C W A bs.length bs → (Kd.int .u8).C W A' (bs.drop 8).length (bs.drop 8) from fun W hC => Kd.C_of_reads (h1 := fun _ => rfl) (dr2 W (Kd.reads_of_C hC)))
  have hkk := Aside0.mk (keyOf_int_mk Try.underlying24 (wf64 HK.out))
  obtain ⟨tk, htk⟩ : ∃ tk, bs.take 8 = tk := ⟨_, rfl⟩
  obtain ⟨dr, hdr⟩ : ∃ dr, bs.drop 8 = dr := ⟨_, rfl⟩
  rw [htk] at tk1' TK2 TK3 HNUM
  rw [hdr] at dr1' DR2 HTX
  clear hi hx hy hz hu hnw h100 hnum hnum' hve htext tk1 tk2 tk3 dr1 dr2 dr3 htk hdr hi5 hsz5 hc'
  go_enter Try.func30, Try.ntmps30
  go_wp2_with (first
    | ((with_reducible refine gate_dst (N := 4) rfl ?_); refine box_event ?hg (N := 4) ?hd (cs := #[.int .u64 k, .slice A bs.length c]) (t := 52) ?hr ?_; (case hd => rfl); (case hg => rfl); (case hr => first | (go_simp; done) | (go_simp; rfl)); intro gb hg w3 hbox hb; have HB3 := Aside0.mk hb; have BK3 := Aside0.mk hbox; have HGB := Aside0.mk (show w.heap.size ≤ gb by rw [hg]; exact Nat.le_refl _); have c0 : w3.cell? ⟨gb, 0, none⟩ = some (.int .u64 k) := (blk_cell hbox 0).trans rfl; have c1 : w3.cell? ⟨gb, 1, none⟩ = some (.slice A bs.length c) := (blk_cell hbox 1).trans rfl; have HL3 := Aside0.mk (HH.out.below hb); obtain ⟨⟨h0, h1, h2, h3⟩, hf⟩ := HL3.out.cells; have HNW := Aside0.mk (fun m => newest_calls (HL3.out.below (pw_below_drewN (Below.refl _ _) m))); have HC3 := Aside0.mk (Kd.C_below HC.out hb); clear hg hbox hb))
  go_quiet (fail)
  have HBQ := Aside0.mk (pw_below_drewN (Below.refl w3.heap.size w3) nq)
  clear h0 h1 h2 h3 hf c0 c1
  generalize w3.drewN nq = w4 at HBQ ⊢
  have HL4 := Aside0.mk (HL3.out.below HBQ.out)
  have BK4 := Aside0.mk (blk_below BK3.out HBQ.out)
  have HB4 := Aside0.mk (HB3.out.trans (HBQ.out.mono HB3.out.size))
  have HC4 := Aside0.mk (Kd.C_below HC3.out HBQ.out)
  have c0 : w4.cell? ⟨gb, 0, none⟩ = some (.int .u64 k) := (blk_cell BK4.out 0).trans rfl
  have c1 : w4.cell? ⟨gb, 1, none⟩ = some (.slice A bs.length c) := (blk_cell BK4.out 1).trans rfl
  go_wp2_with (go_at_call 29; (with_reducible refine (ledger_number.calls 9 A c tk ve _ ?s1 ?s2 HNUM.out).mono ?_); (case s1 => exact TK2.out _ HC4.out); (case s2 => exact TK3.out); rintro e w5 ⟨rfl, hd⟩; have HBD := Aside0.mk (show Below w4.heap.size w4 w5 from by obtain ⟨n_, rfl⟩ := hd.out; exact pw_below_drewN (Below.refl _ _) n_); have HL5 := Aside0.mk (HL4.out.below HBD.out); have BK5 := Aside0.mk (blk_below BK4.out HBD.out); have HB5 := Aside0.mk (HB4.out.trans (HBD.out.mono HB4.out.size)); have HC5 := Aside0.mk (Kd.C_below HC4.out HBD.out); clear c0 c1 hd; have c0 : w5.cell? ⟨gb, 0, none⟩ = some (.int .u64 k) := (blk_cell BK5.out 0).trans rfl; have c1 : w5.cell? ⟨gb, 1, none⟩ = some (.slice A bs.length c) := (blk_cell BK5.out 1).trans rfl; (obtain ⟨⟨h0, h1, h2, h3⟩, hf⟩ := HL5.out.cells))
  have hcv := (Kd.C_string (P := Try.prog) (A := A') (c := c') Try.underlying50 Try.underlying5 Try.underlying9 (Kd.C_drew (DR2.out _ HC5.out)))
  rw [HTX.out] at hcv
  refine region_tail 14 (by kernel_rfl) (by kernel_rfl) ?_
  simp only [List.take_succ_cons, List.take_zero, List.drop_succ_cons, List.drop_zero]
  repeat still_step
  refine wpStill_nil ?_
  have HM := Aside0.mk HL5.out.map.drew
  go_wp2_with (at_mapUpdate; refine wpList_mapUpdate_own _ rfl _ _ _ 67 rfl 24 42 law24 Try.underlying67 _ b n _ rfl HM.out HN.out _ _ _ rfl rfl hkk.out (pd ⟨k, ve, text⟩) [] (postR_mk ⟨k, ve, text⟩) ?_; intro w6 hown6 hg6; have HO6 := Aside0.mk hown6; have HG6 := Aside0.mk hg6; have BG6 := Aside0.mk (blk_grown (blk_drew HL5.out.blk) hg6 HL5.out.ne.1); have BB6 := Aside0.mk (blk_grown (blk_drew BK5.out) hg6 (by have := HGB.out; have := (HH.out.lt (.inr (.inl rfl))).2; omega)); clear hown6 hg6 h0 h1 h2 h3 hf c0 c1 hcv; have c0 : w6.cell? ⟨gb, 0, none⟩ = some (.int .u64 k) := (blk_cell BB6.out 0).trans rfl; have h3 : w6.cell? ⟨g, 3, none⟩ = some (.int .u64 L.cur) := (blk_cell BG6.out 3).trans rfl; go_frame)
  go_quiet (fail)
  go_wp2
  go_ret
  have m56 : Mv (fun j => j = b) w5 w6 := (Mv.of_below (below_drew (Below.refl _ _))).trans (.of_grown (S := fun j => j = b) HG6.out (fun j e => by cases e; rfl)) (fun j hj => .inl hj)
  have m1 : Mv (Owns g b v) w (w6.drewN nq) := ((Mv.of_below HB5.out).trans m56 (fun j hj => .inl (.inr (.inl hj)))).trans (S' := fun _ => False) (.of_below (pw_below_drewN (Below.refl _ _) _)) (fun j hj => hj.elim)
  refine ⟨by rw [HOF.out]; rfl, m1, fun q => by rw [HOF.out] at q; cases q⟩
/-- load (30) -/
theorem load_calls {w : World} {B g b n : Nat} {v : Value} {L : LG} (h : Led w B g b n v L) (hB : B ≤ w.heap.size) (hn : n < maxLen) {k : Int} {A : Option Addr} {c : Nat} {bs : List Int} {nw : Int} (hk : 0 ≤ k ∧ k ≤ 18446744073709551615) (hC : (Kd.int .u8).C w A bs.length bs) (hc : bs.length ≤ c) (hb : Bytes bs) (hnw : L.newest ≤ nw) (h100 : nw ≤ 100) :
    Calls Try.prog 30 #[.pointer (some ⟨g, 0, none⟩), .agg #[.int .u64 k, .slice A bs.length c], .int .u64 nw] w fun e w' => e = .returned (.bool (ldOk L k bs nw)) ∧ Ldd w w' B g b n v L k bs nw := by
  by_cases hi : 9223372036854775808 ≤ k
  · by_cases hx : k = 9223372036854775808 + L.newest + 1
    · by_cases hy : L.newest = nw
      · exact load_hi2 h hB hn hk hC hc hb hnw h100 hi hx hy
      · by_cases hz : bs.length ≤ 2000
        · exact load_hi4 h hB hn hk hC hc hb hnw h100 hi hx hy hz
        · exact load_hi3 h hB hn hk hC hc hb hnw h100 hi hx hy hz
    · exact load_hi1 h hB hn hk hC hc hb hnw h100 hi hx
  · by_cases hx : k = 0
    · exact load_lo1 h hB hn hk hC hc hb hnw h100 hi hx
    · by_cases hy : k < L.next
      · by_cases hz : 8 ≤ bs.length
        · by_cases hu : bs.length ≤ 4104
          · by_cases h1 : 0 < verOf bs
            · by_cases h2 : verOf bs ≤ nw
              · by_cases h3 : L.cur < k
                · exact load_lo7 h hB hn hk hC hc hb hnw h100 hi hx hy hz hu h1 h2 h3
                · by_cases h4 : verOf bs = nw
                  · exact load_lo8 h hB hn hk hC hc hb hnw h100 hi hx hy hz hu h1 h2 h3 h4
                  · exact load_lo9 h hB hn hk hC hc hb hnw h100 hi hx hy hz hu h1 h2 h3 h4
              · exact load_lo6 h hB hn hk hC hc hb hnw h100 hi hx hy hz hu h1 h2
            · exact load_lo5 h hB hn hk hC hc hb hnw h100 hi hx hy hz hu h1
          · exact load_lo4 h hB hn hk hC hc hb hnw h100 hi hx hy hz hu
        · exact load_lo3 h hB hn hk hC hc hb hnw h100 hi hx hy hz
      · exact load_lo2 h hB hn hk hC hc hb hnw h100 hi hx hy
end Go.Proofs.Ytjfkenjmjoncbaa.Lg
