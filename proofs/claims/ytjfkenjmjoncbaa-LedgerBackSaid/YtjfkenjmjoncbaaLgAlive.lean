import Derived.Test.YtjfkenjmjoncbaaPAllx0
import Derived.Test.YtjfkenjmjoncbaaLgPlay
namespace Go.Proofs.Ytjfkenjmjoncbaa.Lg
open Go Go.Maps Go.WideShapes Go.RowKit Go.Proofs.Ytjfkenjmjoncbaa.PAll Go.Proofs.YtjfkenjmjoncbaaW.PrintWords Go.Proofs.YtjfkenjmjoncbaaW.PrintLast Go.Proofs.YtjfkenjmjoncbaaW.PrintMore
set_option linter.unusedVariables false
set_option linter.unusedSimpArgs false

/-! ### the live question -/
def LA1 : LG := ⟨[], [⟨#[112]⟩], 1, 0⟩
def LA2 : LG := ⟨[⟨1, 1, ⟨#[120]⟩⟩], [⟨#[112]⟩], 2, 0⟩
def LA3 : LG := ⟨[⟨1, 1, ⟨#[120]⟩⟩], [⟨#[112]⟩, ⟨#[113]⟩], 2, 0⟩
def LA4 : LG := ⟨[⟨1, 2, ⟨#[121]⟩⟩], [⟨#[112]⟩, ⟨#[113]⟩], 2, 1⟩
section
variable {w : World} {B g b n : Nat} {v : Value}
theorem al1 (h : Led w B g b n v LG.empty) (hB : B ≤ w.heap.size) (hn : n < maxLen) :
    Calls Try.prog 10 #[.pointer (some ⟨g, 0, none⟩), .agg #[.int .i64 3, .int .u64 0, .int .u64 1, .string ⟨#[112]⟩]] w fun e w' => e = .returned (.int .i64 0) ∧ Did w w' B g b (n + 1) v LA1 := by
  have := Apply_calls h hB hn ⟨3, 0, 1, ⟨#[112]⟩⟩ ⟨by decide, by decide, by decide⟩
  rwa [show LG.errno LG.empty ⟨3, 0, 1, ⟨#[112]⟩⟩ = 0 by decide, show LG.apply LG.empty ⟨3, 0, 1, ⟨#[112]⟩⟩ = LA1 by kernel_rfl] at this
theorem al2 (h : Led w B g b n v LA1) (hB : B ≤ w.heap.size) (hn : n < maxLen) :
    Calls Try.prog 10 #[.pointer (some ⟨g, 0, none⟩), .agg #[.int .i64 1, .int .u64 1, .int .u64 1, .string ⟨#[120]⟩]] w fun e w' => e = .returned (.int .i64 0) ∧ Did w w' B g b (n + 1) v LA2 := by
  have := Apply_calls h hB hn ⟨1, 1, 1, ⟨#[120]⟩⟩ ⟨by decide, by decide, by decide⟩
  rwa [show LG.errno LA1 ⟨1, 1, 1, ⟨#[120]⟩⟩ = 0 by decide, show LG.apply LA1 ⟨1, 1, 1, ⟨#[120]⟩⟩ = LA2 by kernel_rfl] at this
theorem al3 (h : Led w B g b n v LA2) (hB : B ≤ w.heap.size) (hn : n < maxLen) :
    Calls Try.prog 10 #[.pointer (some ⟨g, 0, none⟩), .agg #[.int .i64 3, .int .u64 0, .int .u64 2, .string ⟨#[113]⟩]] w fun e w' => e = .returned (.int .i64 0) ∧ Did w w' B g b (n + 1) v LA3 := by
  have := Apply_calls h hB hn ⟨3, 0, 2, ⟨#[113]⟩⟩ ⟨by decide, by decide, by decide⟩
  rwa [show LG.errno LA2 ⟨3, 0, 2, ⟨#[113]⟩⟩ = 0 by decide, show LG.apply LA2 ⟨3, 0, 2, ⟨#[113]⟩⟩ = LA3 by kernel_rfl] at this
theorem al4 (h : Led w B g b n v LA3) (hB : B ≤ w.heap.size) (hn : n < maxLen) :
    Calls Try.prog 10 #[.pointer (some ⟨g, 0, none⟩), .agg #[.int .i64 4, .int .u64 1, .int .u64 2, .string ⟨#[121]⟩]] w fun e w' => e = .returned (.int .i64 0) ∧ Did w w' B g b (n + 1) v LA4 := by
  have := Apply_calls h hB hn ⟨4, 1, 2, ⟨#[121]⟩⟩ ⟨by decide, by decide, by decide⟩
  rwa [show LG.errno LA3 ⟨4, 1, 2, ⟨#[121]⟩⟩ = 0 by decide, show LG.apply LA3 ⟨4, 1, 2, ⟨#[121]⟩⟩ = LA4 by kernel_rfl] at this
theorem alS (h : Led w B g b n v LA3) : Calls Try.prog 16 #[.pointer (some ⟨g, 0, none⟩)] w fun e w' => e = .returned (.tuple #[.agg #[.int .u64 1, .int .u64 1, .string ⟨#[120]⟩], .bool true]) ∧ Below w.heap.size w w' := by
  have := Stale_calls h
  rwa [show postV LA3.staleP = .agg #[.int .u64 1, .int .u64 1, .string ⟨#[120]⟩] by kernel_rfl, show LA3.stale.isSome = true by decide] at this
theorem alG (h : Led w B g b n v LA4) : Calls Try.prog 15 #[.pointer (some ⟨g, 0, none⟩), .int .u64 1] w fun e w' => e = .returned (.tuple #[.agg #[.int .u64 1, .int .u64 2, .string ⟨#[121]⟩], .bool true]) ∧ Below w.heap.size w w' := by
  have := Get_calls h (id := 1) (by decide)
  rwa [show postV (LA4.get 1) = .agg #[.int .u64 1, .int .u64 2, .string ⟨#[121]⟩] by kernel_rfl, show LA4.is 1 = true by decide] at this
theorem alP (h : Led w B g b n v LA4) : Calls Try.prog 22 #[.pointer (some ⟨g, 0, none⟩), .int .u64 2] w fun e w' => e = .returned (.tuple #[.string ⟨#[113]⟩, .bool true]) ∧ w' = w := by
  have := Policy_calls h (id := 2) (by decide)
  rwa [show LA4.pol 2 = ⟨#[113]⟩ by kernel_rfl, show decide (¬ ((2 : Int) < 1 ∨ LA4.newest < 2)) = true by decide] at this
theorem alT (h : Led w B g b n v LA4) : Calls Try.prog 13 #[.pointer (some ⟨g, 0, none⟩)] w fun e w' => e = .returned (.agg #[.int .u64 2, .int .u64 2, .int .i64 1, .int .u64 1]) ∧ Below w.heap.size w w' := Status_calls h
theorem alR (h : Led w B g b n v LA4) (hn : n ≤ 1000000) : Calls Try.prog 9 #[.pointer (some ⟨g, 0, none⟩)] w fun e w' => ∃ A c, e = .returned (.slice A 4 c) ∧ Below w.heap.size w w' :=
  (Pairs_calls h hn).mono fun e w' ⟨u, B1, he, _, hp, hb⟩ => by
    obtain ⟨A, c, hs⟩ := Kd.N_slice hp
    have e4 : (LG.pairsS LA4).length = 4 := by kernel_rfl
    rw [e4] at hs
    exact ⟨A, c, by rw [he, hs], hb⟩
end
set_option maxHeartbeats 4000000 in
set_option maxRecDepth 100000 in
/-- alive (11) -/
theorem alive_calls (w : World) : Calls Try.prog 11 #[] w fun e w' => e = .returned (.bool true) ∧ Below w.heap.size w w' := by
  go_enter Try.func11, Try.ntmps11
  go_wp2_with (first
    | (go_at_call 23; refine (New_calls _).mono ?_; rintro e w1 ⟨g, b, rfl, hL, hb⟩; have H0 := Aside0.mk hL; have B0 := Aside0.mk hb; clear hL hb)
    | (go_at_call 10; (with_reducible refine (al1 H0.out B0.out.size (by unfold maxLen; omega)).mono ?_); rintro e w2 ⟨rfl, ⟨v2, hL, _⟩, hm⟩; have H1 := Aside0.mk hL; have B1 := Aside0.mk (mv_below B0.out hm (fun j hj => (H0.out.lt hj).1) B0.out.size); clear hL hm)
    | (go_at_call 10; (with_reducible refine (al2 H1.out B1.out.size (by unfold maxLen; omega)).mono ?_); rintro e w3 ⟨rfl, ⟨v3, hL, _⟩, hm⟩; have H2 := Aside0.mk hL; have B2 := Aside0.mk (mv_below B1.out hm (fun j hj => (H1.out.lt hj).1) B1.out.size); clear hL hm)
    | (go_at_call 10; (with_reducible refine (al3 H2.out B2.out.size (by unfold maxLen; omega)).mono ?_); rintro e w4 ⟨rfl, ⟨v4, hL, _⟩, hm⟩; have H3 := Aside0.mk hL; have B3 := Aside0.mk (mv_below B2.out hm (fun j hj => (H2.out.lt hj).1) B2.out.size); clear hL hm)
    | (go_at_call 16; (with_reducible refine (alS H3.out).mono ?_); rintro e w5 ⟨rfl, hb⟩; have H4 := Aside0.mk ((H3.out.below hb).below (below_alloc (Below.refl _ _) (.cells #[.int .u64 1, .int .u64 1, .string ⟨#[120]⟩] 42))); have B4 := Aside0.mk (below_alloc (B3.out.trans (hb.mono B3.out.size)) (.cells #[.int .u64 1, .int .u64 1, .string ⟨#[120]⟩] 42)); have K5 := Aside0.mk (blk_new w5 (.cells #[.int .u64 1, .int .u64 1, .string ⟨#[120]⟩] 42)); have X5 := Aside0.mk (fun j (hj : Owns g b v4 j) => ((H3.out.below hb).lt hj).2); clear hb)
    | (go_at_call 10; (with_reducible refine (al4 H4.out B4.out.size (by unfold maxLen; omega)).mono ?_); rintro e w6 ⟨rfl, ⟨v6, hL, _⟩, hm⟩; have H5 := Aside0.mk hL; have B5 := Aside0.mk (mv_below B4.out hm (fun j hj => (H4.out.lt hj).1) B4.out.size); have K6 := Aside0.mk ((hm.block _ (blk_lt K5.out) (fun hj => by have := X5.out _ hj; omega)).trans K5.out); clear hL hm)
    | (go_at_call 15; (with_reducible refine (alG H5.out).mono ?_); rintro e w7 ⟨rfl, hb⟩; have H6 := Aside0.mk ((H5.out.below hb).below (below_alloc (Below.refl _ _) (.cells #[.int .u64 1, .int .u64 2, .string ⟨#[121]⟩] 42))); have B6 := Aside0.mk (below_alloc (B5.out.trans (hb.mono B5.out.size)) (.cells #[.int .u64 1, .int .u64 2, .string ⟨#[121]⟩] 42)); have K7 := blk_below K6.out hb; have z5 : w7.cell? ⟨w5.heap.size, 0, none⟩ = some (.int .u64 1) := (blk_cell K7 0).trans rfl; have h57 := blk_lt K7; clear hb K7)
    | (go_at_call 22; (with_reducible refine (alP H6.out).mono ?_); rintro e w8 ⟨rfl, rfl⟩)
    | (go_at_call 13; (with_reducible refine (alT H6.out).mono ?_); rintro e w9 ⟨rfl, hb⟩; have H7 := Aside0.mk (H6.out.below hb); have B7 := Aside0.mk (B6.out.trans (hb.mono B6.out.size)); clear hb)
    | (go_at_call 9; (with_reducible refine (alR H7.out (by omega)).mono ?_); rintro e w10 ⟨A, c, rfl, hb⟩; have B8 := Aside0.mk (B7.out.trans (hb.mono B7.out.size)); clear hb))
  go_ret
  exact ⟨rfl, B8.out⟩
end Go.Proofs.Ytjfkenjmjoncbaa.Lg
