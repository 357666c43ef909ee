-- Laid together by a program of this session (merge.py) out of its own texts and of the print's, for one law. Lean checks it.
import Derived.Test.YtjfkenjmjoncbaaProg
import Derived.Below
import Derived.Deep.Draws
import Derived.Deep.AppendLies
import Derived.Maps.AppendAt
import Derived.OwnWalk
import Derived.Laws.BytesArg
import Derived.Laws.MakeOwn
import Derived.Laws.OwnMore
import Derived.Deep.OwnRows
import Derived.Tactics
import Derived.Lib.ConvBytes
import Derived.Laws.Slices
import Derived.WalkKit
import Derived.KernelRfl
import Derived.RowKit3
import Derived.Deep.LoopGhost
import Derived.Deep.QuietTactic
import Derived.BigQuiet
import Derived.WideLaws
import Derived.Deep.DeepCutAuto
import Derived.Deep.CutBlock
import Derived.Deep.RegionHeld3
import Derived.Laws.Rows
import Derived.Lib.AppendStr
import Derived.ArgAppend
import Derived.Laws.IdiomCopy
import Derived.OrdersHeld
import Derived.Laws.BitsLemmas
import Derived.RowKit
import Derived.Maps.Ext
import Derived.Maps.RangeWalk
import Derived.Carry
import Derived.Maps.OwnSet
import Derived.StillTailTactics
import Derived.Deep.RegionLaw
import Derived.Ground.SoProg
import Derived.Lib.Strings
import Derived.Lib.Walk
import Derived.Sort.Row
import Derived.Sort.Walk0
import Derived.BigCall
import Derived.BigGuard
import Derived.CellFam
import Derived.Sort.LotA
import Derived.Sort.WalkA
import Derived.Sort.WalkA6
import Derived.Ground.Names2Prog
import Derived.Ground.So_math_bits_Len
import Derived.Shelf.Small.Bits
import Derived.Shelf.Strconv.Itoa0
import Derived.Sort.EncStr
import Derived.Sort.Grow
import Derived.Sort.LotD1
import Derived.Sort.WalkA14
import Derived.Laws.Bits64
import Derived.Laws.Bits64b
import Derived.Sort.LotD5
import Derived.Sort.Walk7a
import Derived.Sort.Walk7
import Derived.Sort.WalkB12
import Derived.Sort.WalkB2
import Derived.Sort.WalkB3
import Derived.RegionTactic
import Derived.Sort.LotC
import Derived.Sort.WalkC
import Derived.Sort.WalkC4
import Derived.Deep.RegionWith
import Derived.Sort.LotD3
import Derived.Sort.WalkD1
import Derived.Sort.WalkD2
import Derived.Sort.AtCall
import Derived.Sort.LotD4
import Derived.Sort.Walk11
import Derived.Sort.WalkD1S
import Derived.Deep.Cut
import Derived.Sort.LotB
import Derived.Sort.Walk13
import Derived.Sort.Walk13a
import Derived.Sort.AssemblyPlain
import Derived.Sort.OwnSorted
import Derived.Shelf.Slices.Clone
import Derived.ProofKit
import Derived.OpenShut
import Derived.Lib.SmallJoins
import Derived.Deep.Slices
import Derived.Test.YtjfkenjmjoncbaaRows
import Derived.ShutString
import Derived.ChangeOld
import Derived.SizedLaws
import Derived.Test.YtjfkenjmjoncbaaWApart
import Derived.Test.YtjfkenjmjoncbaaWArr
import Derived.Test.YtjfkenjmjoncbaaWAt
import Derived.Test.YtjfkenjmjoncbaaWFoot
import Derived.Test.YtjfkenjmjoncbaaWFootNe
import Derived.Test.YtjfkenjmjoncbaaWGuard
import Derived.Test.YtjfkenjmjoncbaaWKept
import Derived.Test.YtjfkenjmjoncbaaWLast
import Derived.Test.YtjfkenjmjoncbaaWMore
import Derived.Test.YtjfkenjmjoncbaaWN
import Derived.Test.YtjfkenjmjoncbaaWNEv
import Derived.Test.YtjfkenjmjoncbaaWQPut
import Derived.Test.YtjfkenjmjoncbaaWRepsOne
import Derived.Test.YtjfkenjmjoncbaaWShare
import Derived.Test.YtjfkenjmjoncbaaWTab
import Derived.Test.YtjfkenjmjoncbaaWWords
import Derived.Test.YtjfkenjmjoncbaaWZeros
section
namespace Go.Proofs.Ytjfkenjmjoncbaa.PAll
open Go.RowKit Go.Proofs.YtjfkenjmjoncbaaW.PrintWords Go.Proofs.YtjfkenjmjoncbaaW.PrintLast Go.Proofs.YtjfkenjmjoncbaaW.PrintMore
attribute [local go_sem] max2_int min2_int max_two min_two max_three min_three max_four min_four   -- for this text's walks alone
set_option linter.unusedVariables false
set_option linter.unusedSimpArgs false



def errW : Option Int → Value
  | none => .nilIface
  | some c => .iface 0 (.int .i64 c)
theorem errW_none : errW none = .nilIface := rfl
theorem errW_some (c : Int) : errW (some c) = .iface 0 (.int .i64 c) := rfl

theorem info5 : (Try.prog.info? 5).map (fun i => (i.zero, i.size, i.bytes)) = some (some (.int .u8 0), 1, 1) := by kernel_rfl
theorem info9 : (Try.prog.info? 9).map (fun i => (i.zero, i.size, i.bytes)) = some (some (.string ⟨#[]⟩), 1, 16) := by kernel_rfl
theorem info24 : (Try.prog.info? 24).map (fun i => (i.zero, i.size, i.bytes)) = some (some (.int .u64 0), 1, 8) := by kernel_rfl
structure S52 where
  f0 : Int
  f1 : (List Int)
def z52 : S52 := ⟨(0 : Int), ([] : List Int)⟩
def k52 : Kd S52 := Kd.iso (Kd.pair (Kd.int .u64) (Kd.slice 5 (Kd.int .u8))) (fun x : S52 => (x.f0, x.f1))
theorem k52_open {w : World} {x : S52} {cs : List Value} (h : k52.K w x cs) : ∃ A1 c1, cs = [.int .u64 x.f0, .slice A1 x.f1.length c1] ∧ x.f1.length ≤ c1 ∧ (Kd.int .u8).C w A1 x.f1.length x.f1 := by
  obtain ⟨_, _, rfl, rfl, ⟨A1, c1, rfl, l1, g1⟩⟩ := h
  exact ⟨A1, c1, rfl, l1, g1⟩
theorem k52_mk (w : World) (x : S52) {A1 : Option Addr} {c1 : Nat} (l1 : x.f1.length ≤ c1) (g1 : (Kd.int .u8).C w A1 x.f1.length x.f1) : k52.K w x [.int .u64 x.f0, .slice A1 x.f1.length c1] := ⟨[.int .u64 x.f0], [.slice A1 x.f1.length c1], rfl, rfl, ⟨A1, c1, rfl, l1, g1⟩⟩
def rd_T52 (xs : List S52) (i : Int) : S52 := xs.getD i.toNat z52
theorem at_T52 {w : World} {A : Option Addr} {n : Nat} {xs : List S52} (h : Kd.C k52 w A n xs) (i : Int) (h0 : 0 ≤ i) (h1 : i < n) : ∃ ad A1 c1, A = some ad ∧ w.cell? (ad.add (i.toNat * 2)) = some (.int .u64 (rd_T52 xs i).f0) ∧ w.cell? ⟨(ad.add (i.toNat * 2)).block, (ad.add (i.toNat * 2)).off + 1, none⟩ = some (.slice A1 (rd_T52 xs i).f1.length c1) ∧ (rd_T52 xs i).f1.length ≤ c1 ∧ (Kd.int .u8).C w A1 (rd_T52 xs i).f1.length (rd_T52 xs i).f1 := by
  obtain ⟨ad, c, e, _, hK, hc0⟩ := Kd.C_get h z52 i h0 h1
  have hc : ∀ j u, c[j]? = some u → w.cell? (ad.add (i.toNat * 2 + j)) = some u := hc0
  obtain ⟨A1, c1, rfl, l1, g1⟩ := k52_open hK
  exact ⟨ad, A1, c1, e, hc 0 _ rfl, by rw [← add_field _ _ 1 (by omega)]; exact hc 1 _ rfl, l1, g1⟩

structure S42 where
  f0 : Int
  f1 : Int
  f2 : ByteArray
def z42 : S42 := ⟨(0 : Int), (0 : Int), (⟨#[]⟩ : ByteArray)⟩
def k42 : Kd S42 := Kd.iso (Kd.pair (Kd.int .u64) (Kd.pair (Kd.int .u64) Kd.string)) (fun x : S42 => (x.f0, x.f1, x.f2))
theorem k42_open {w : World} {x : S42} {cs : List Value} (h : k42.K w x cs) : cs = [.int .u64 x.f0, .int .u64 x.f1, .string x.f2] := by
  obtain ⟨_, _, rfl, rfl, ⟨_, _, rfl, rfl, rfl⟩⟩ := h
  exact rfl
theorem k42_mkM (w : World) (base : Nat) (ok : Nat → Prop) (x : S42)  : k42.M w base ok x [.int .u64 x.f0, .int .u64 x.f1, .string x.f2] := ⟨[.int .u64 x.f0], [.int .u64 x.f1, .string x.f2], rfl, rfl, ⟨[.int .u64 x.f1], [.string x.f2], rfl, rfl, rfl⟩⟩
def rd_T42 (xs : List S42) (i : Int) : S42 := xs.getD i.toNat z42
theorem at_T42 {w : World} {A : Option Addr} {n : Nat} {xs : List S42} (h : Kd.C k42 w A n xs) (i : Int) (h0 : 0 ≤ i) (h1 : i < n) : ∃ ad , A = some ad ∧ w.cell? (ad.add (i.toNat * 3)) = some (.int .u64 (rd_T42 xs i).f0) ∧ w.cell? ⟨(ad.add (i.toNat * 3)).block, (ad.add (i.toNat * 3)).off + 1, none⟩ = some (.int .u64 (rd_T42 xs i).f1) ∧ w.cell? ⟨(ad.add (i.toNat * 3)).block, (ad.add (i.toNat * 3)).off + 2, none⟩ = some (.string (rd_T42 xs i).f2) := by
  obtain ⟨ad, c, e, _, hK, hc0⟩ := Kd.C_get h z42 i h0 h1
  have hc : ∀ j u, c[j]? = some u → w.cell? (ad.add (i.toNat * 3 + j)) = some u := hc0
  obtain rfl := k42_open hK
  exact ⟨ad, e, hc 0 _ rfl, by rw [← add_field _ _ 1 (by omega)]; exact hc 1 _ rfl, by rw [← add_field _ _ 2 (by omega)]; exact hc 2 _ rfl⟩

mutual
def record_Check.j0 : Nat → Bool → Int → Int → Int → ByteArray → Option (Int)
  | 0, _, _, _, _, _ => none
  | k + 1, x3, x102000, x102001, x102002, x102003 => if x102000 = 1 then (if x3 = true then (record_Check.j1 k (decide ((x102003.size : Int) ≤ 4096)) x102000 x102001 x102002 x102003) else (record_Check.j1 k false x102000 x102001 x102002 x102003)) else (if x102000 = 4 then (if x3 = true then (record_Check.j1 k (decide ((x102003.size : Int) ≤ 4096)) x102000 x102001 x102002 x102003) else (record_Check.j1 k false x102000 x102001 x102002 x102003)) else (record_Check.j1 k false x102000 x102001 x102002 x102003))
def record_Check.j1 : Nat → Bool → Int → Int → Int → ByteArray → Option (Int)
  | 0, _, _, _, _, _ => none
  | k + 1, x12, x102000, x102001, x102002, x102003 => if x12 = true then (some 0) else (if x102000 = 2 then (if x102001 > 0 then (if x102002 = 0 then (record_Check.j2 k (x102003.toList == ([] : List UInt8)) x102000 x102001 x102002 x102003) else (record_Check.j2 k false x102000 x102001 x102002 x102003)) else (record_Check.j2 k false x102000 x102001 x102002 x102003)) else (record_Check.j2 k false x102000 x102001 x102002 x102003))
def record_Check.j2 : Nat → Bool → Int → Int → Int → ByteArray → Option (Int)
  | 0, _, _, _, _, _ => none
  | k + 1, x30, x102000, x102001, x102002, x102003 => if x30 = true then (some 0) else (if x102000 = 3 then (if x102001 = 0 then (if x102002 > 0 then (if (x102003.size : Int) ≤ 2000 then (some 0) else (some 1)) else (some 1)) else (some 1)) else (some 1))
end
def record_Check.f (k : Nat) (a0_0 : Int) (a0_1 : Int) (a0_2 : Int) (a0_3 : ByteArray) : Option (Int) := if a0_1 > 0 then (record_Check.j0 k (decide (a0_2 > 0)) a0_0 a0_1 a0_2 a0_3) else (record_Check.j0 k false a0_0 a0_1 a0_2 a0_3)
set_option maxHeartbeats 8000000 in
set_option maxRecDepth 100000 in
theorem record_Check.calls (k : Nat) (a0_0 : Int) (a0_1 : Int) (a0_2 : Int) (a0_3 : ByteArray) (r : Int) (w : World) (h : record_Check.f k a0_0 a0_1 a0_2 a0_3 = some r) :
    Calls Try.prog 44 #[.agg #[.int .i64 a0_0, .int .u64 a0_1, .int .u64 a0_2, .string a0_3]] w fun e w' => e = .returned (.int .i64 r) ∧ Below w.heap.size w w' := by
  have hu26 := Try.underlying26
  have HB := Aside0.mk (Below.refl w.heap.size w)
  have H : (if a0_1 > 0 then (record_Check.j0 k (decide (a0_2 > 0)) a0_0 a0_1 a0_2 a0_3) else (record_Check.j0 k false a0_0 a0_1 a0_2 a0_3)) = some r := h
  clear h
  have HC2 := Aside0.mk H
  clear H
  go_enter Try.func44, Try.ntmps44
  go_upto_region 1 with (first | ((with_reducible refine gate_dst (N := 1) rfl ?_); (try (refine gate_guard (by rfl) ?_; dsimp only)); refine box_event ?hg (N := 1) ?hd (cs := #[.int .i64 a0_0, .int .u64 a0_1, .int .u64 a0_2, .string a0_3]) (t := 26) ?hr ?_; (case hd => rfl); (case hg => rfl); (case hr => first | (go_simp; done) | (go_simp; rfl)); intro gb101 hg w3 hbox hb; have n0_ := Aside0.mk (below_step (by repeat (first | (with_reducible first | exact HB.out | apply below_alloc | apply pw_below_drewN | apply below_drew1) | exact HB.out)) hb); have n1_ := Aside0.mk (hbox); have n2_ := Aside0.mk ((by rw [hg]; exact (below_size (by repeat (first | (with_reducible first | exact HB.out | apply below_alloc | apply pw_below_drewN | apply below_drew1) | exact HB.out))) : w.heap.size ≤ gb101)); have n3_ := Aside0.mk ((by rw [hg]; exact (below_size (by repeat (first | (with_reducible first | exact HB.out | apply below_alloc | apply pw_below_drewN | apply below_drew1) | exact HB.out))) : w.heap.size ≤ gb101)); clear HB; have HB := n0_; have BK101 := n1_; have GW101 := n2_; have GE101 := n3_; clear n0_ n1_ n2_ n3_; clear hb hbox hg))
  (try simp only [Act.put, List.setIfInBounds_toArray, List.set_cons_zero, List.set_cons_succ])
  go_cut [3] (fun v3 wc => ∃ (kq : Nat) (x3_1 : Bool), v3 = .bool x3_1 ∧ Aside0 (record_Check.j0 kq x3_1 a0_0 a0_1 a0_2 a0_3 = some r) ∧ Aside0 (kq ≤ k) ∧ Aside0 (wc.heap[gb101]? = some (.cells #[.int .i64 a0_0, .int .u64 a0_1, .int .u64 a0_2, .string a0_3] 26 (0, 0))) ∧ Aside0 (Below w.heap.size w wc))
  case first =>
    have H := HC2.out
    clear HC2
    by_cases c4 : a0_1 > 0
    · rw [if_pos c4] at H
      have c4b0 : decide (0 < a0_1) = true := decide_eq_true c4
      clear c4
      (first | rw [c4b0] | (simp only [i64_w, i32_w]; rw [c4b0]) | skip)
      have H' := Aside0.mk H
      clear H
      have hcz5_0 : w3.cell? ⟨gb101, 0, none⟩ = some (.int .i64 a0_0) := (blk_cell BK101.out 0).trans rfl
      have hcz5_1 : w3.cell? ⟨gb101, 1, none⟩ = some (.int .u64 a0_1) := (blk_cell BK101.out 1).trans rfl
      have hcz5_2 : w3.cell? ⟨gb101, 2, none⟩ = some (.int .u64 a0_2) := (blk_cell BK101.out 2).trans rfl
      have hcz5_3 : w3.cell? ⟨gb101, 3, none⟩ = some (.string a0_3) := (blk_cell BK101.out 3).trans rfl
      have hfz5_0 := blk_frozen BK101.out 0
      have hfz5_1 := blk_frozen BK101.out 1
      have hfz5_2 := blk_frozen BK101.out 2
      have hfz5_3 := blk_frozen BK101.out 3
      go_wp2
      go_meet
      case rel => exact ⟨_, (decide (a0_2 > 0)), (by first | rfl | (simp; done) | (simp [*]; done)), H', ⟨by first | omega | exact Nat.le_refl _⟩, ⟨by (with_reducible repeat (first | refine blk_drewN ?_ _ | refine blk_drew ?_ | refine blk_alloc ?_ _)); exact BK101.out⟩, ⟨by repeat (first | (with_reducible first | exact HB.out | apply below_alloc | apply pw_below_drewN | apply below_drew1 | refine below_set ?_ GE101.out) | exact HB.out)⟩⟩
    · rw [if_neg c4] at H
      have c4b0 : decide (0 < a0_1) = false := decide_eq_false c4
      clear c4
      (first | rw [c4b0] | (simp only [i64_w, i32_w]; rw [c4b0]) | skip)
      have H' := Aside0.mk H
      clear H
      have hcz6_0 : w3.cell? ⟨gb101, 0, none⟩ = some (.int .i64 a0_0) := (blk_cell BK101.out 0).trans rfl
      have hcz6_1 : w3.cell? ⟨gb101, 1, none⟩ = some (.int .u64 a0_1) := (blk_cell BK101.out 1).trans rfl
      have hcz6_2 : w3.cell? ⟨gb101, 2, none⟩ = some (.int .u64 a0_2) := (blk_cell BK101.out 2).trans rfl
      have hcz6_3 : w3.cell? ⟨gb101, 3, none⟩ = some (.string a0_3) := (blk_cell BK101.out 3).trans rfl
      have hfz6_0 := blk_frozen BK101.out 0
      have hfz6_1 := blk_frozen BK101.out 1
      have hfz6_2 := blk_frozen BK101.out 2
      have hfz6_3 := blk_frozen BK101.out 3
      go_wp2
      go_meet
      case rel => exact ⟨_, (false), (by first | rfl | (simp; done) | (simp [*]; done)), H', ⟨by first | omega | exact Nat.le_refl _⟩, ⟨by (with_reducible repeat (first | refine blk_drewN ?_ _ | refine blk_drew ?_ | refine blk_alloc ?_ _)); exact BK101.out⟩, ⟨by repeat (first | (with_reducible first | exact HB.out | apply below_alloc | apply pw_below_drewN | apply below_drew1 | refine below_set ?_ GE101.out) | exact HB.out)⟩⟩
  case rest =>
    clear HC2
    try clear p2
    try clear c4
    try clear c4b0
    try clear hcz5_0
    try clear hcz5_1
    try clear hcz5_2
    try clear hcz5_3
    try clear hcz6_0
    try clear hcz6_1
    try clear hcz6_2
    try clear hcz6_3
    try clear hfz5_0
    try clear hfz5_1
    try clear hfz5_2
    try clear hfz5_3
    try clear hfz6_0
    try clear hfz6_1
    try clear hfz6_2
    try clear hfz6_3
    obtain ⟨kq, x3_1, rfl, HA, HJ1, BK101, HB⟩ := hcut
    cases kq with
    | zero => exact absurd HA.out (by simp [record_Check.j0])
    | succ kj1 =>
      have H := HA.out
      clear HA
      simp only [record_Check.j0] at H
      have HC7 := Aside0.mk H
      clear H
      go_upto_region 3 with (fail)
      go_cut [12] (fun v12 wc => ∃ (kq : Nat) (x12_6 : Bool), v12 = .bool x12_6 ∧ Aside0 (record_Check.j1 kq x12_6 a0_0 a0_1 a0_2 a0_3 = some r) ∧ Aside0 (kq ≤ kj1) ∧ Aside0 (wc.heap[gb101]? = some (.cells #[.int .i64 a0_0, .int .u64 a0_1, .int .u64 a0_2, .string a0_3] 26 (0, 0))) ∧ Aside0 (Below w.heap.size w wc))
      case first =>
        have H := HC7.out
        clear HC7
        by_cases c8 : a0_0 = 1
        · rw [if_pos c8] at H
          have c8b0 : (a0_0 == 1) = true := beq_iff_eq.mpr c8
          have c8b1 : (a0_0 != 1) = false := bne_eq_false_iff_eq.mpr c8
          clear c8
          (first | rw [c8b0] | (simp only [i64_w, i32_w]; rw [c8b0]) | skip)
          by_cases c9 : x3_1 = true
          · subst c9
            have H1 : (record_Check.j1 kj1 (decide ((a0_3.size : Int) ≤ 4096)) a0_0 a0_1 a0_2 a0_3) = some r := by rw [if_pos rfl] at H; exact H
            clear H
            have H := H1
            clear H1
            have H' := Aside0.mk H
            clear H
            have hcz10_0 : wc.cell? ⟨gb101, 0, none⟩ = some (.int .i64 a0_0) := (blk_cell BK101.out 0).trans rfl
            have hcz10_1 : wc.cell? ⟨gb101, 1, none⟩ = some (.int .u64 a0_1) := (blk_cell BK101.out 1).trans rfl
            have hcz10_2 : wc.cell? ⟨gb101, 2, none⟩ = some (.int .u64 a0_2) := (blk_cell BK101.out 2).trans rfl
            have hcz10_3 : wc.cell? ⟨gb101, 3, none⟩ = some (.string a0_3) := (blk_cell BK101.out 3).trans rfl
            have hfz10_0 := blk_frozen BK101.out 0
            have hfz10_1 := blk_frozen BK101.out 1
            have hfz10_2 := blk_frozen BK101.out 2
            have hfz10_3 := blk_frozen BK101.out 3
            go_wp2
            go_meet
            case rel => exact ⟨_, (decide ((a0_3.size : Int) ≤ 4096)), (by first | rfl | (simp; done) | (simp [*]; done)), H', ⟨by have := HJ1.out; first | omega | exact Nat.le_refl _⟩, ⟨by (with_reducible repeat (first | refine blk_drewN ?_ _ | refine blk_drew ?_ | refine blk_alloc ?_ _)); exact BK101.out⟩, ⟨by repeat (first | (with_reducible first | exact HB.out | apply below_alloc | apply pw_below_drewN | apply below_drew1 | refine below_set ?_ GE101.out) | exact HB.out)⟩⟩
          · replace c9 := Bool.eq_false_iff.mpr c9
            subst c9
            have H1 : (record_Check.j1 kj1 false a0_0 a0_1 a0_2 a0_3) = some r := by rw [if_neg (show ¬ (false = true) by decide)] at H; exact H
            clear H
            have H := H1
            clear H1
            have H' := Aside0.mk H
            clear H
            have hcz11_0 : wc.cell? ⟨gb101, 0, none⟩ = some (.int .i64 a0_0) := (blk_cell BK101.out 0).trans rfl
            have hcz11_1 : wc.cell? ⟨gb101, 1, none⟩ = some (.int .u64 a0_1) := (blk_cell BK101.out 1).trans rfl
            have hcz11_2 : wc.cell? ⟨gb101, 2, none⟩ = some (.int .u64 a0_2) := (blk_cell BK101.out 2).trans rfl
            have hcz11_3 : wc.cell? ⟨gb101, 3, none⟩ = some (.string a0_3) := (blk_cell BK101.out 3).trans rfl
            have hfz11_0 := blk_frozen BK101.out 0
            have hfz11_1 := blk_frozen BK101.out 1
            have hfz11_2 := blk_frozen BK101.out 2
            have hfz11_3 := blk_frozen BK101.out 3
            go_wp2
            go_meet
            case rel => exact ⟨_, (false), (by first | rfl | (simp; done) | (simp [*]; done)), H', ⟨by have := HJ1.out; first | omega | exact Nat.le_refl _⟩, ⟨by (with_reducible repeat (first | refine blk_drewN ?_ _ | refine blk_drew ?_ | refine blk_alloc ?_ _)); exact BK101.out⟩, ⟨by repeat (first | (with_reducible first | exact HB.out | apply below_alloc | apply pw_below_drewN | apply below_drew1 | refine below_set ?_ GE101.out) | exact HB.out)⟩⟩
        · rw [if_neg c8] at H
          have c8b0 : (a0_0 == 1) = false := beq_eq_false_iff_ne.mpr c8
          have c8b1 : (a0_0 != 1) = true := bne_iff_ne.mpr c8
          (first | rw [c8b0] | (simp only [i64_w, i32_w]; rw [c8b0]) | skip)
          by_cases c12 : a0_0 = 4
          · rw [if_pos c12] at H
            have c12b0 : (a0_0 == 4) = true := beq_iff_eq.mpr c12
            have c12b1 : (a0_0 != 4) = false := bne_eq_false_iff_eq.mpr c12
            clear c12
            by_cases c13 : x3_1 = true
            · subst c13
              have H1 : (record_Check.j1 kj1 (decide ((a0_3.size : Int) ≤ 4096)) a0_0 a0_1 a0_2 a0_3) = some r := by rw [if_pos rfl] at H; exact H
              clear H
              have H := H1
              clear H1
              have H' := Aside0.mk H
              clear H
              have hcz14_0 : wc.cell? ⟨gb101, 0, none⟩ = some (.int .i64 a0_0) := (blk_cell BK101.out 0).trans rfl
              have hcz14_1 : wc.cell? ⟨gb101, 1, none⟩ = some (.int .u64 a0_1) := (blk_cell BK101.out 1).trans rfl
              have hcz14_2 : wc.cell? ⟨gb101, 2, none⟩ = some (.int .u64 a0_2) := (blk_cell BK101.out 2).trans rfl
              have hcz14_3 : wc.cell? ⟨gb101, 3, none⟩ = some (.string a0_3) := (blk_cell BK101.out 3).trans rfl
              have hfz14_0 := blk_frozen BK101.out 0
              have hfz14_1 := blk_frozen BK101.out 1
              have hfz14_2 := blk_frozen BK101.out 2
              have hfz14_3 := blk_frozen BK101.out 3
              go_wp2
              go_meet
              case rel => exact ⟨_, (decide ((a0_3.size : Int) ≤ 4096)), (by first | rfl | (simp; done) | (simp [*]; done)), H', ⟨by have := HJ1.out; first | omega | exact Nat.le_refl _⟩, ⟨by (with_reducible repeat (first | refine blk_drewN ?_ _ | refine blk_drew ?_ | refine blk_alloc ?_ _)); exact BK101.out⟩, ⟨by repeat (first | (with_reducible first | exact HB.out | apply below_alloc | apply pw_below_drewN | apply below_drew1 | refine below_set ?_ GE101.out) | exact HB.out)⟩⟩
            · replace c13 := Bool.eq_false_iff.mpr c13
              subst c13
              have H1 : (record_Check.j1 kj1 false a0_0 a0_1 a0_2 a0_3) = some r := by rw [if_neg (show ¬ (false = true) by decide)] at H; exact H
              clear H
              have H := H1
              clear H1
              have H' := Aside0.mk H
              clear H
              have hcz15_0 : wc.cell? ⟨gb101, 0, none⟩ = some (.int .i64 a0_0) := (blk_cell BK101.out 0).trans rfl
              have hcz15_1 : wc.cell? ⟨gb101, 1, none⟩ = some (.int .u64 a0_1) := (blk_cell BK101.out 1).trans rfl
              have hcz15_2 : wc.cell? ⟨gb101, 2, none⟩ = some (.int .u64 a0_2) := (blk_cell BK101.out 2).trans rfl
              have hcz15_3 : wc.cell? ⟨gb101, 3, none⟩ = some (.string a0_3) := (blk_cell BK101.out 3).trans rfl
              have hfz15_0 := blk_frozen BK101.out 0
              have hfz15_1 := blk_frozen BK101.out 1
              have hfz15_2 := blk_frozen BK101.out 2
              have hfz15_3 := blk_frozen BK101.out 3
              go_wp2
              go_meet
              case rel => exact ⟨_, (false), (by first | rfl | (simp; done) | (simp [*]; done)), H', ⟨by have := HJ1.out; first | omega | exact Nat.le_refl _⟩, ⟨by (with_reducible repeat (first | refine blk_drewN ?_ _ | refine blk_drew ?_ | refine blk_alloc ?_ _)); exact BK101.out⟩, ⟨by repeat (first | (with_reducible first | exact HB.out | apply below_alloc | apply pw_below_drewN | apply below_drew1 | refine below_set ?_ GE101.out) | exact HB.out)⟩⟩
          · rw [if_neg c12] at H
            have c12b0 : (a0_0 == 4) = false := beq_eq_false_iff_ne.mpr c12
            have c12b1 : (a0_0 != 4) = true := bne_iff_ne.mpr c12
            have H' := Aside0.mk H
            clear H
            have hcz16_0 : wc.cell? ⟨gb101, 0, none⟩ = some (.int .i64 a0_0) := (blk_cell BK101.out 0).trans rfl
            have hcz16_1 : wc.cell? ⟨gb101, 1, none⟩ = some (.int .u64 a0_1) := (blk_cell BK101.out 1).trans rfl
            have hcz16_2 : wc.cell? ⟨gb101, 2, none⟩ = some (.int .u64 a0_2) := (blk_cell BK101.out 2).trans rfl
            have hcz16_3 : wc.cell? ⟨gb101, 3, none⟩ = some (.string a0_3) := (blk_cell BK101.out 3).trans rfl
            have hfz16_0 := blk_frozen BK101.out 0
            have hfz16_1 := blk_frozen BK101.out 1
            have hfz16_2 := blk_frozen BK101.out 2
            have hfz16_3 := blk_frozen BK101.out 3
            go_wp2
            go_meet
            case rel => exact ⟨_, (false), (by first | rfl | (simp; done) | (simp [*]; done)), H', ⟨by have := HJ1.out; first | omega | exact Nat.le_refl _⟩, ⟨by (with_reducible repeat (first | refine blk_drewN ?_ _ | refine blk_drew ?_ | refine blk_alloc ?_ _)); exact BK101.out⟩, ⟨by repeat (first | (with_reducible first | exact HB.out | apply below_alloc | apply pw_below_drewN | apply below_drew1 | refine below_set ?_ GE101.out) | exact HB.out)⟩⟩
      case rest =>
        clear HC7
        try clear c1
        try clear p2
        try clear c4
        try clear c4b0
        try clear c8
        try clear c8b0
        try clear c8b1
        try clear c9
        try clear c12
        try clear c12b0
        try clear c12b1
        try clear c13
        try clear hcz10_0
        try clear hcz10_1
        try clear hcz10_2
        try clear hcz10_3
        try clear hcz11_0
        try clear hcz11_1
        try clear hcz11_2
        try clear hcz11_3
        try clear hcz14_0
        try clear hcz14_1
        try clear hcz14_2
        try clear hcz14_3
        try clear hcz15_0
        try clear hcz15_1
        try clear hcz15_2
        try clear hcz15_3
        try clear hcz16_0
        try clear hcz16_1
        try clear hcz16_2
        try clear hcz16_3
        try clear hcz5_0
        try clear hcz5_1
        try clear hcz5_2
        try clear hcz5_3
        try clear hcz6_0
        try clear hcz6_1
        try clear hcz6_2
        try clear hcz6_3
        try clear hfz10_0
        try clear hfz10_1
        try clear hfz10_2
        try clear hfz10_3
        try clear hfz11_0
        try clear hfz11_1
        try clear hfz11_2
        try clear hfz11_3
        try clear hfz14_0
        try clear hfz14_1
        try clear hfz14_2
        try clear hfz14_3
        try clear hfz15_0
        try clear hfz15_1
        try clear hfz15_2
        try clear hfz15_3
        try clear hfz16_0
        try clear hfz16_1
        try clear hfz16_2
        try clear hfz16_3
        try clear hfz5_0
        try clear hfz5_1
        try clear hfz5_2
        try clear hfz5_3
        try clear hfz6_0
        try clear hfz6_1
        try clear hfz6_2
        try clear hfz6_3
        try clear p2
        obtain ⟨kq, x12_6, rfl, HA, HJ6, BK101, HB⟩ := hcut
        cases kq with
        | zero => exact absurd HA.out (by simp [record_Check.j1])
        | succ kj6 =>
          have H := HA.out
          clear HA
          simp only [record_Check.j1] at H
          by_cases c17 : x12_6 = true
          · subst c17
            have H1 : (some 0) = some r := by rw [if_pos rfl] at H; exact H
            clear H
            have H := H1
            clear H1
            obtain rfl := Option.some.inj H
            go_wp2
            go_ret
            exact ⟨by first | rfl | (simp [errW_none, errW_some] <;> rfl) | (simp [*, errW_none, errW_some] <;> rfl), by repeat (first | (with_reducible first | exact HB.out | apply below_alloc | apply pw_below_drewN | apply below_drew1 | refine below_set ?_ GE101.out) | exact HB.out)⟩
          · replace c17 := Bool.eq_false_iff.mpr c17
            subst c17
            have H1 : (if a0_0 = 2 then (if a0_1 > 0 then (if a0_2 = 0 then (record_Check.j2 kj6 (a0_3.toList == ([] : List UInt8)) a0_0 a0_1 a0_2 a0_3) else (record_Check.j2 kj6 false a0_0 a0_1 a0_2 a0_3)) else (record_Check.j2 kj6 false a0_0 a0_1 a0_2 a0_3)) else (record_Check.j2 kj6 false a0_0 a0_1 a0_2 a0_3)) = some r := by rw [if_neg (show ¬ (false = true) by decide)] at H; exact H
            clear H
            have H := H1
            clear H1
            have HC18 := Aside0.mk H
            clear H
            go_upto_region 4 with (fail)
            go_cut [30] (fun v30 wc => ∃ (kq : Nat) (x30_17 : Bool), v30 = .bool x30_17 ∧ Aside0 (record_Check.j2 kq x30_17 a0_0 a0_1 a0_2 a0_3 = some r) ∧ Aside0 (kq ≤ kj6) ∧ Aside0 (wc.heap[gb101]? = some (.cells #[.int .i64 a0_0, .int .u64 a0_1, .int .u64 a0_2, .string a0_3] 26 (0, 0))) ∧ Aside0 (Below w.heap.size w wc))
            case first =>
              have H := HC18.out
              clear HC18
              by_cases c19 : a0_0 = 2
              · rw [if_pos c19] at H
                have c19b0 : (a0_0 == 2) = true := beq_iff_eq.mpr c19
                have c19b1 : (a0_0 != 2) = false := bne_eq_false_iff_eq.mpr c19
                clear c19
                (first | rw [c19b0] | (simp only [i64_w, i32_w]; rw [c19b0]) | skip)
                by_cases c20 : a0_1 > 0
                · rw [if_pos c20] at H
                  have c20b0 : decide (0 < a0_1) = true := decide_eq_true c20
                  clear c20
                  by_cases c21 : a0_2 = 0
                  · rw [if_pos c21] at H
                    have c21b0 : (a0_2 == 0) = true := beq_iff_eq.mpr c21
                    have c21b1 : (a0_2 != 0) = false := bne_eq_false_iff_eq.mpr c21
                    clear c21
                    have H' := Aside0.mk H
                    clear H
                    have hcz22_0 : wc.cell? ⟨gb101, 0, none⟩ = some (.int .i64 a0_0) := (blk_cell BK101.out 0).trans rfl
                    have hcz22_1 : wc.cell? ⟨gb101, 1, none⟩ = some (.int .u64 a0_1) := (blk_cell BK101.out 1).trans rfl
                    have hcz22_2 : wc.cell? ⟨gb101, 2, none⟩ = some (.int .u64 a0_2) := (blk_cell BK101.out 2).trans rfl
                    have hcz22_3 : wc.cell? ⟨gb101, 3, none⟩ = some (.string a0_3) := (blk_cell BK101.out 3).trans rfl
                    have hfz22_0 := blk_frozen BK101.out 0
                    have hfz22_1 := blk_frozen BK101.out 1
                    have hfz22_2 := blk_frozen BK101.out 2
                    have hfz22_3 := blk_frozen BK101.out 3
                    go_wp2
                    go_meet
                    case rel => exact ⟨_, ((a0_3.toList == ([] : List UInt8))), (by first | rfl | (simp; done) | (simp [*]; done)), H', ⟨by have := HJ1.out; have := HJ6.out; first | omega | exact Nat.le_refl _⟩, ⟨by (with_reducible repeat (first | refine blk_drewN ?_ _ | refine blk_drew ?_ | refine blk_alloc ?_ _)); exact BK101.out⟩, ⟨by repeat (first | (with_reducible first | exact HB.out | apply below_alloc | apply pw_below_drewN | apply below_drew1 | refine below_set ?_ GE101.out) | exact HB.out)⟩⟩
                  · rw [if_neg c21] at H
                    have c21b0 : (a0_2 == 0) = false := beq_eq_false_iff_ne.mpr c21
                    have c21b1 : (a0_2 != 0) = true := bne_iff_ne.mpr c21
                    have H' := Aside0.mk H
                    clear H
                    have hcz23_0 : wc.cell? ⟨gb101, 0, none⟩ = some (.int .i64 a0_0) := (blk_cell BK101.out 0).trans rfl
                    have hcz23_1 : wc.cell? ⟨gb101, 1, none⟩ = some (.int .u64 a0_1) := (blk_cell BK101.out 1).trans rfl
                    have hcz23_2 : wc.cell? ⟨gb101, 2, none⟩ = some (.int .u64 a0_2) := (blk_cell BK101.out 2).trans rfl
                    have hcz23_3 : wc.cell? ⟨gb101, 3, none⟩ = some (.string a0_3) := (blk_cell BK101.out 3).trans rfl
                    have hfz23_0 := blk_frozen BK101.out 0
                    have hfz23_1 := blk_frozen BK101.out 1
                    have hfz23_2 := blk_frozen BK101.out 2
                    have hfz23_3 := blk_frozen BK101.out 3
                    go_wp2
                    go_meet
                    case rel => exact ⟨_, (false), (by first | rfl | (simp; done) | (simp [*]; done)), H', ⟨by have := HJ1.out; have := HJ6.out; first | omega | exact Nat.le_refl _⟩, ⟨by (with_reducible repeat (first | refine blk_drewN ?_ _ | refine blk_drew ?_ | refine blk_alloc ?_ _)); exact BK101.out⟩, ⟨by repeat (first | (with_reducible first | exact HB.out | apply below_alloc | apply pw_below_drewN | apply below_drew1 | refine below_set ?_ GE101.out) | exact HB.out)⟩⟩
                · rw [if_neg c20] at H
                  have c20b0 : decide (0 < a0_1) = false := decide_eq_false c20
                  clear c20
                  have H' := Aside0.mk H
                  clear H
                  have hcz24_0 : wc.cell? ⟨gb101, 0, none⟩ = some (.int .i64 a0_0) := (blk_cell BK101.out 0).trans rfl
                  have hcz24_1 : wc.cell? ⟨gb101, 1, none⟩ = some (.int .u64 a0_1) := (blk_cell BK101.out 1).trans rfl
                  have hcz24_2 : wc.cell? ⟨gb101, 2, none⟩ = some (.int .u64 a0_2) := (blk_cell BK101.out 2).trans rfl
                  have hcz24_3 : wc.cell? ⟨gb101, 3, none⟩ = some (.string a0_3) := (blk_cell BK101.out 3).trans rfl
                  have hfz24_0 := blk_frozen BK101.out 0
                  have hfz24_1 := blk_frozen BK101.out 1
                  have hfz24_2 := blk_frozen BK101.out 2
                  have hfz24_3 := blk_frozen BK101.out 3
                  go_wp2
                  go_meet
                  case rel => exact ⟨_, (false), (by first | rfl | (simp; done) | (simp [*]; done)), H', ⟨by have := HJ1.out; have := HJ6.out; first | omega | exact Nat.le_refl _⟩, ⟨by (with_reducible repeat (first | refine blk_drewN ?_ _ | refine blk_drew ?_ | refine blk_alloc ?_ _)); exact BK101.out⟩, ⟨by repeat (first | (with_reducible first | exact HB.out | apply below_alloc | apply pw_below_drewN | apply below_drew1 | refine below_set ?_ GE101.out) | exact HB.out)⟩⟩
              · rw [if_neg c19] at H
                have c19b0 : (a0_0 == 2) = false := beq_eq_false_iff_ne.mpr c19
                have c19b1 : (a0_0 != 2) = true := bne_iff_ne.mpr c19
                (first | rw [c19b0] | (simp only [i64_w, i32_w]; rw [c19b0]) | skip)
                have H' := Aside0.mk H
                clear H
                have hcz25_0 : wc.cell? ⟨gb101, 0, none⟩ = some (.int .i64 a0_0) := (blk_cell BK101.out 0).trans rfl
                have hcz25_1 : wc.cell? ⟨gb101, 1, none⟩ = some (.int .u64 a0_1) := (blk_cell BK101.out 1).trans rfl
                have hcz25_2 : wc.cell? ⟨gb101, 2, none⟩ = some (.int .u64 a0_2) := (blk_cell BK101.out 2).trans rfl
                have hcz25_3 : wc.cell? ⟨gb101, 3, none⟩ = some (.string a0_3) := (blk_cell BK101.out 3).trans rfl
                have hfz25_0 := blk_frozen BK101.out 0
                have hfz25_1 := blk_frozen BK101.out 1
                have hfz25_2 := blk_frozen BK101.out 2
                have hfz25_3 := blk_frozen BK101.out 3
                go_wp2
                go_meet
                case rel => exact ⟨_, (false), (by first | rfl | (simp; done) | (simp [*]; done)), H', ⟨by have := HJ1.out; have := HJ6.out; first | omega | exact Nat.le_refl _⟩, ⟨by (with_reducible repeat (first | refine blk_drewN ?_ _ | refine blk_drew ?_ | refine blk_alloc ?_ _)); exact BK101.out⟩, ⟨by repeat (first | (with_reducible first | exact HB.out | apply below_alloc | apply pw_below_drewN | apply below_drew1 | refine below_set ?_ GE101.out) | exact HB.out)⟩⟩
            case rest =>
              clear HC18
              try clear c1
              try clear c2
              try clear p2
              try clear c4
              try clear c4b0
              try clear c8
              try clear c8b0
              try clear c8b1
              try clear c9
              try clear c12
              try clear c12b0
              try clear c12b1
              try clear c13
              try clear c17
              try clear c19
              try clear c19b0
              try clear c19b1
              try clear c20
              try clear c20b0
              try clear c21
              try clear c21b0
              try clear c21b1
              try clear hcz10_0
              try clear hcz10_1
              try clear hcz10_2
              try clear hcz10_3
              try clear hcz11_0
              try clear hcz11_1
              try clear hcz11_2
              try clear hcz11_3
              try clear hcz14_0
              try clear hcz14_1
              try clear hcz14_2
              try clear hcz14_3
              try clear hcz15_0
              try clear hcz15_1
              try clear hcz15_2
              try clear hcz15_3
              try clear hcz16_0
              try clear hcz16_1
              try clear hcz16_2
              try clear hcz16_3
              try clear hcz22_0
              try clear hcz22_1
              try clear hcz22_2
              try clear hcz22_3
              try clear hcz23_0
              try clear hcz23_1
              try clear hcz23_2
              try clear hcz23_3
              try clear hcz24_0
              try clear hcz24_1
              try clear hcz24_2
              try clear hcz24_3
              try clear hcz25_0
              try clear hcz25_1
              try clear hcz25_2
              try clear hcz25_3
              try clear hcz5_0
              try clear hcz5_1
              try clear hcz5_2
              try clear hcz5_3
              try clear hcz6_0
              try clear hcz6_1
              try clear hcz6_2
              try clear hcz6_3
              try clear hfz10_0
              try clear hfz10_1
              try clear hfz10_2
              try clear hfz10_3
              try clear hfz11_0
              try clear hfz11_1
              try clear hfz11_2
              try clear hfz11_3
              try clear hfz14_0
              try clear hfz14_1
              try clear hfz14_2
              try clear hfz14_3
              try clear hfz15_0
              try clear hfz15_1
              try clear hfz15_2
              try clear hfz15_3
              try clear hfz16_0
              try clear hfz16_1
              try clear hfz16_2
              try clear hfz16_3
              try clear hfz22_0
              try clear hfz22_1
              try clear hfz22_2
              try clear hfz22_3
              try clear hfz23_0
              try clear hfz23_1
              try clear hfz23_2
              try clear hfz23_3
              try clear hfz24_0
              try clear hfz24_1
              try clear hfz24_2
              try clear hfz24_3
              try clear hfz25_0
              try clear hfz25_1
              try clear hfz25_2
              try clear hfz25_3
              try clear hfz5_0
              try clear hfz5_1
              try clear hfz5_2
              try clear hfz5_3
              try clear hfz6_0
              try clear hfz6_1
              try clear hfz6_2
              try clear hfz6_3
              try clear p2
              obtain ⟨kq, x30_17, rfl, HA, HJ17, BK101, HB⟩ := hcut
              cases kq with
              | zero => exact absurd HA.out (by simp [record_Check.j2])
              | succ kj17 =>
                have H := HA.out
                clear HA
                simp only [record_Check.j2] at H
                by_cases c26 : x30_17 = true
                · subst c26
                  have H1 : (some 0) = some r := by rw [if_pos rfl] at H; exact H
                  clear H
                  have H := H1
                  clear H1
                  obtain rfl := Option.some.inj H
                  go_wp2
                  go_ret
                  exact ⟨by first | rfl | (simp [errW_none, errW_some] <;> rfl) | (simp [*, errW_none, errW_some] <;> rfl), by repeat (first | (with_reducible first | exact HB.out | apply below_alloc | apply pw_below_drewN | apply below_drew1 | refine below_set ?_ GE101.out) | exact HB.out)⟩
                · replace c26 := Bool.eq_false_iff.mpr c26
                  subst c26
                  have H1 : (if a0_0 = 3 then (if a0_1 = 0 then (if a0_2 > 0 then (if (a0_3.size : Int) ≤ 2000 then (some 0) else (some 1)) else (some 1)) else (some 1)) else (some 1)) = some r := by rw [if_neg (show ¬ (false = true) by decide)] at H; exact H
                  clear H
                  have H := H1
                  clear H1
                  by_cases c27 : a0_0 = 3
                  · rw [if_pos c27] at H
                    have c27b0 : (a0_0 == 3) = true := beq_iff_eq.mpr c27
                    have c27b1 : (a0_0 != 3) = false := bne_eq_false_iff_eq.mpr c27
                    clear c27
                    by_cases c28 : a0_1 = 0
                    · rw [if_pos c28] at H
                      have c28b0 : (a0_1 == 0) = true := beq_iff_eq.mpr c28
                      have c28b1 : (a0_1 != 0) = false := bne_eq_false_iff_eq.mpr c28
                      clear c28
                      by_cases c29 : a0_2 > 0
                      · rw [if_pos c29] at H
                        have c29b0 : decide (0 < a0_2) = true := decide_eq_true c29
                        clear c29
                        by_cases c30 : (a0_3.size : Int) ≤ 2000
                        · rw [if_pos c30] at H
                          have c30b0 : decide ((a0_3.size : Int) ≤ 2000) = true := decide_eq_true c30
                          have c30b1 : decide (a0_3.size ≤ 2000) = true := decide_eq_true (by omega)
                          clear c30
                          obtain rfl := Option.some.inj H
                          have hcz31_0 : wc.cell? ⟨gb101, 0, none⟩ = some (.int .i64 a0_0) := (blk_cell BK101.out 0).trans rfl
                          have hcz31_1 : wc.cell? ⟨gb101, 1, none⟩ = some (.int .u64 a0_1) := (blk_cell BK101.out 1).trans rfl
                          have hcz31_2 : wc.cell? ⟨gb101, 2, none⟩ = some (.int .u64 a0_2) := (blk_cell BK101.out 2).trans rfl
                          have hcz31_3 : wc.cell? ⟨gb101, 3, none⟩ = some (.string a0_3) := (blk_cell BK101.out 3).trans rfl
                          have hfz31_0 := blk_frozen BK101.out 0
                          have hfz31_1 := blk_frozen BK101.out 1
                          have hfz31_2 := blk_frozen BK101.out 2
                          have hfz31_3 := blk_frozen BK101.out 3
                          go_wp2
                          go_ret
                          exact ⟨by first | rfl | (simp [errW_none, errW_some] <;> rfl) | (simp [*, errW_none, errW_some] <;> rfl), by repeat (first | (with_reducible first | exact HB.out | apply below_alloc | apply pw_below_drewN | apply below_drew1 | refine below_set ?_ GE101.out) | exact HB.out)⟩
                        · rw [if_neg c30] at H
                          have c30b0 : decide ((a0_3.size : Int) ≤ 2000) = false := decide_eq_false c30
                          have c30b1 : decide (a0_3.size ≤ 2000) = false := decide_eq_false (by omega)
                          clear c30
                          obtain rfl := Option.some.inj H
                          have hcz32_0 : wc.cell? ⟨gb101, 0, none⟩ = some (.int .i64 a0_0) := (blk_cell BK101.out 0).trans rfl
                          have hcz32_1 : wc.cell? ⟨gb101, 1, none⟩ = some (.int .u64 a0_1) := (blk_cell BK101.out 1).trans rfl
                          have hcz32_2 : wc.cell? ⟨gb101, 2, none⟩ = some (.int .u64 a0_2) := (blk_cell BK101.out 2).trans rfl
                          have hcz32_3 : wc.cell? ⟨gb101, 3, none⟩ = some (.string a0_3) := (blk_cell BK101.out 3).trans rfl
                          have hfz32_0 := blk_frozen BK101.out 0
                          have hfz32_1 := blk_frozen BK101.out 1
                          have hfz32_2 := blk_frozen BK101.out 2
                          have hfz32_3 := blk_frozen BK101.out 3
                          go_wp2
                          go_ret
                          exact ⟨by first | rfl | (simp [errW_none, errW_some] <;> rfl) | (simp [*, errW_none, errW_some] <;> rfl), by repeat (first | (with_reducible first | exact HB.out | apply below_alloc | apply pw_below_drewN | apply below_drew1 | refine below_set ?_ GE101.out) | exact HB.out)⟩
                      · rw [if_neg c29] at H
                        have c29b0 : decide (0 < a0_2) = false := decide_eq_false c29
                        clear c29
                        obtain rfl := Option.some.inj H
                        have hcz33_0 : wc.cell? ⟨gb101, 0, none⟩ = some (.int .i64 a0_0) := (blk_cell BK101.out 0).trans rfl
                        have hcz33_1 : wc.cell? ⟨gb101, 1, none⟩ = some (.int .u64 a0_1) := (blk_cell BK101.out 1).trans rfl
                        have hcz33_2 : wc.cell? ⟨gb101, 2, none⟩ = some (.int .u64 a0_2) := (blk_cell BK101.out 2).trans rfl
                        have hcz33_3 : wc.cell? ⟨gb101, 3, none⟩ = some (.string a0_3) := (blk_cell BK101.out 3).trans rfl
                        have hfz33_0 := blk_frozen BK101.out 0
                        have hfz33_1 := blk_frozen BK101.out 1
                        have hfz33_2 := blk_frozen BK101.out 2
                        have hfz33_3 := blk_frozen BK101.out 3
                        go_wp2
                        go_ret
                        exact ⟨by first | rfl | (simp [errW_none, errW_some] <;> rfl) | (simp [*, errW_none, errW_some] <;> rfl), by repeat (first | (with_reducible first | exact HB.out | apply below_alloc | apply pw_below_drewN | apply below_drew1 | refine below_set ?_ GE101.out) | exact HB.out)⟩
                    · rw [if_neg c28] at H
                      have c28b0 : (a0_1 == 0) = false := beq_eq_false_iff_ne.mpr c28
                      have c28b1 : (a0_1 != 0) = true := bne_iff_ne.mpr c28
                      obtain rfl := Option.some.inj H
                      have hcz34_0 : wc.cell? ⟨gb101, 0, none⟩ = some (.int .i64 a0_0) := (blk_cell BK101.out 0).trans rfl
                      have hcz34_1 : wc.cell? ⟨gb101, 1, none⟩ = some (.int .u64 a0_1) := (blk_cell BK101.out 1).trans rfl
                      have hcz34_2 : wc.cell? ⟨gb101, 2, none⟩ = some (.int .u64 a0_2) := (blk_cell BK101.out 2).trans rfl
                      have hcz34_3 : wc.cell? ⟨gb101, 3, none⟩ = some (.string a0_3) := (blk_cell BK101.out 3).trans rfl
                      have hfz34_0 := blk_frozen BK101.out 0
                      have hfz34_1 := blk_frozen BK101.out 1
                      have hfz34_2 := blk_frozen BK101.out 2
                      have hfz34_3 := blk_frozen BK101.out 3
                      go_wp2
                      go_ret
                      exact ⟨by first | rfl | (simp [errW_none, errW_some] <;> rfl) | (simp [*, errW_none, errW_some] <;> rfl), by repeat (first | (with_reducible first | exact HB.out | apply below_alloc | apply pw_below_drewN | apply below_drew1 | refine below_set ?_ GE101.out) | exact HB.out)⟩
                  · rw [if_neg c27] at H
                    have c27b0 : (a0_0 == 3) = false := beq_eq_false_iff_ne.mpr c27
                    have c27b1 : (a0_0 != 3) = true := bne_iff_ne.mpr c27
                    obtain rfl := Option.some.inj H
                    have hcz35_0 : wc.cell? ⟨gb101, 0, none⟩ = some (.int .i64 a0_0) := (blk_cell BK101.out 0).trans rfl
                    have hcz35_1 : wc.cell? ⟨gb101, 1, none⟩ = some (.int .u64 a0_1) := (blk_cell BK101.out 1).trans rfl
                    have hcz35_2 : wc.cell? ⟨gb101, 2, none⟩ = some (.int .u64 a0_2) := (blk_cell BK101.out 2).trans rfl
                    have hcz35_3 : wc.cell? ⟨gb101, 3, none⟩ = some (.string a0_3) := (blk_cell BK101.out 3).trans rfl
                    have hfz35_0 := blk_frozen BK101.out 0
                    have hfz35_1 := blk_frozen BK101.out 1
                    have hfz35_2 := blk_frozen BK101.out 2
                    have hfz35_3 := blk_frozen BK101.out 3
                    go_wp2
                    go_ret
                    exact ⟨by first | rfl | (simp [errW_none, errW_some] <;> rfl) | (simp [*, errW_none, errW_some] <;> rfl), by repeat (first | (with_reducible first | exact HB.out | apply below_alloc | apply pw_below_drewN | apply below_drew1 | refine below_set ?_ GE101.out) | exact HB.out)⟩

def cmp_isNaN_uint64.f (a0 : Int) : Option (Bool) := some (a0 != a0)
set_option maxHeartbeats 8000000 in
set_option maxRecDepth 100000 in
theorem cmp_isNaN_uint64.calls (a0 : Int) (r : Bool) (w : World) (h : cmp_isNaN_uint64.f a0 = some r) :
    Calls Try.prog 51 #[.int .u64 a0] w fun e w' => e = .returned (.bool r) ∧ Drawn0 w w' := by
  have H : (some (a0 != a0)) = some r := h
  clear h
  obtain rfl := Option.some.inj H
  go_enter Try.func51, Try.ntmps51
  go_wp2
  go_ret
  exact ⟨by first | rfl | (simp; done) | (simp [*]; done), by repeat (first | exact Drawn0.refl _ | apply Drawn0.step)⟩

def cmp_Less_uint64.f (a0 : Int) (a1 : Int) : Option (Bool) := (cmp_isNaN_uint64.f a0).bind fun t102 => (if t102 = true then ((cmp_isNaN_uint64.f a1).bind fun t103 => (if t103 = true then (some (decide (a0 < a1))) else (some true))) else (some (decide (a0 < a1))))
set_option maxHeartbeats 8000000 in
set_option maxRecDepth 100000 in
theorem cmp_Less_uint64.calls (a0 : Int) (a1 : Int) (r : Bool) (w : World) (h : cmp_Less_uint64.f a0 a1 = some r) :
    Calls Try.prog 45 #[.int .u64 a0, .int .u64 a1] w fun e w' => e = .returned (.bool r) ∧ Drawn0 w w' := by
  have H : ((cmp_isNaN_uint64.f a0).bind fun t102 => (if t102 = true then ((cmp_isNaN_uint64.f a1).bind fun t103 => (if t103 = true then (some (decide (a0 < a1))) else (some true))) else (some (decide (a0 < a1))))) = some r := h
  clear h
  replace H := Option.bind_eq_some_iff.mp H
  obtain ⟨t102, A30, H⟩ := H
  replace H : (if t102 = true then ((cmp_isNaN_uint64.f a1).bind fun t103 => (if t103 = true then (some (decide (a0 < a1))) else (some true))) else (some (decide (a0 < a1)))) = some r := H
  have A3 := Aside0.mk A30
  clear A30
  by_cases c4 : t102 = true
  · subst c4
    have H1 : ((cmp_isNaN_uint64.f a1).bind fun t103 => (if t103 = true then (some (decide (a0 < a1))) else (some true))) = some r := by rw [if_pos rfl] at H; exact H
    clear H
    have H := H1
    clear H1
    replace H := Option.bind_eq_some_iff.mp H
    obtain ⟨t103, A50, H⟩ := H
    replace H : (if t103 = true then (some (decide (a0 < a1))) else (some true)) = some r := H
    have A5 := Aside0.mk A50
    clear A50
    by_cases c6 : t103 = true
    · subst c6
      have H1 : (some (decide (a0 < a1))) = some r := by rw [if_pos rfl] at H; exact H
      clear H
      have H := H1
      clear H1
      obtain rfl := Option.some.inj H
      go_enter Try.func45, Try.ntmps45
      go_wp2_with (first | ((with_reducible refine gate_callee (f := 51) rfl ?_); refine goesL_ (some 6) rfl rfl Try.func51 (by kernel_rfl) rfl #[.int .u64 a0] rfl (by (try simp only [List.map_toArray, List.map_cons, List.map_nil]); first | done | rfl | (simp only [List.length_drop, List.length_take]; rfl)) ?_; (with_reducible refine (cmp_isNaN_uint64.calls a0 true _ A3.out).mono ?_); rintro e w' ⟨rfl, ⟨nd, rfl⟩⟩; refine ⟨_, rfl, ?_⟩) | (go_at_call 51; (with_reducible refine (cmp_isNaN_uint64.calls a1 true _ A5.out).mono ?_); rintro e w' ⟨rfl, ⟨nd, rfl⟩⟩))
      go_ret
      exact ⟨by first | rfl | (simp; done) | (simp [*]; done), by repeat (first | exact Drawn0.refl _ | apply Drawn0.step)⟩
    · replace c6 := Bool.eq_false_iff.mpr c6
      subst c6
      have H1 : (some true) = some r := by rw [if_neg (show ¬ (false = true) by decide)] at H; exact H
      clear H
      have H := H1
      clear H1
      obtain rfl := Option.some.inj H
      go_enter Try.func45, Try.ntmps45
      go_wp2_with (first | ((with_reducible refine gate_callee (f := 51) rfl ?_); refine goesL_ (some 6) rfl rfl Try.func51 (by kernel_rfl) rfl #[.int .u64 a0] rfl (by (try simp only [List.map_toArray, List.map_cons, List.map_nil]); first | done | rfl | (simp only [List.length_drop, List.length_take]; rfl)) ?_; (with_reducible refine (cmp_isNaN_uint64.calls a0 true _ A3.out).mono ?_); rintro e w' ⟨rfl, ⟨nd, rfl⟩⟩; refine ⟨_, rfl, ?_⟩) | (go_at_call 51; (with_reducible refine (cmp_isNaN_uint64.calls a1 false _ A5.out).mono ?_); rintro e w' ⟨rfl, ⟨nd, rfl⟩⟩))
      go_ret
      exact ⟨by first | rfl | (simp; done) | (simp [*]; done), by repeat (first | exact Drawn0.refl _ | apply Drawn0.step)⟩
  · replace c4 := Bool.eq_false_iff.mpr c4
    subst c4
    have H1 : (some (decide (a0 < a1))) = some r := by rw [if_neg (show ¬ (false = true) by decide)] at H; exact H
    clear H
    have H := H1
    clear H1
    obtain rfl := Option.some.inj H
    go_enter Try.func45, Try.ntmps45
    go_wp2_with (first | ((with_reducible refine gate_callee (f := 51) rfl ?_); refine goesL_ (some 6) rfl rfl Try.func51 (by kernel_rfl) rfl #[.int .u64 a0] rfl (by (try simp only [List.map_toArray, List.map_cons, List.map_nil]); first | done | rfl | (simp only [List.length_drop, List.length_take]; rfl)) ?_; (with_reducible refine (cmp_isNaN_uint64.calls a0 false _ A3.out).mono ?_); rintro e w' ⟨rfl, ⟨nd, rfl⟩⟩; refine ⟨_, rfl, ?_⟩))
    go_ret
    exact ⟨by first | rfl | (simp; done) | (simp [*]; done), by repeat (first | exact Drawn0.refl _ | apply Drawn0.step)⟩

def ledger_put.l0 : Nat → List Int → Int → Int → Option (List Int)
  | 0, _, _, _ => none
  | k + 1, x0, x1, x5 => if x5 ≥ 0 then (if 0 ≤ x5 then (if x0.length < 140737488355328 then (ledger_put.l0 k (x0 ++ [(shr .u64 x1 x5) % 256]) x1 (wrap64 (x5 - 8))) else (none)) else (none)) else (some x0)
def ledger_put.f (k : Nat) (l0 : List Int) (a1 : Int) : Option (List Int) := ledger_put.l0 k l0 a1 56
set_option maxHeartbeats 8000000 in
set_option maxRecDepth 100000 in
theorem ledger_put.calls (k : Nat) (P0_ : Nat → Prop) (u9000_ : Value) (l0 : List Int) (a1 : Int) (r : List Int) (w0 w : World) (hB : Below w0.heap.size w0 w) (ho0 : Kd.R (Kd.int .u8) 5 w w0.heap.size P0_ u9000_ l0) (h : ledger_put.f k l0 a1 = some r) :
    Calls Try.prog 25 #[u9000_, .int .u64 a1] w fun e w' => ∃ v0_ : Value, e = .returned (v0_) ∧ Kd.R (Kd.int .u8) 5 w' w0.heap.size (fun k_ => (P0_ k_ ∨ w.heap.size ≤ k_)) v0_ r ∧ Below w0.heap.size w0 w' ∧ Kept w w' (fun k_ => P0_ k_) := by
  have HO0 := Aside0.mk (show Kd.R (Kd.int .u8) 5 w w0.heap.size (fun k_ => (P0_ k_ ∨ w.heap.size ≤ k_)) u9000_ l0 from Kd.R_mono ho0 (fun k_ hk => (.inl hk)))
  have HK := Aside0.mk (Kept.refl w (fun k_ => P0_ k_))
  have HW0 := Aside0.mk hB.size
  have HB := Aside0.mk hB
  clear hB
  have H : (ledger_put.l0 k l0 a1 56) = some r := h
  clear h
  have H' := Aside0.mk H
  clear H
  go_enter Try.func25, Try.ntmps25
  go_wp2
  go_loopg [0, 5] k (fun kq v0 v5 w' => ∃ (x0_1 : List Int) (x5_1 : Int), v5 = .int .i64 x5_1 ∧ Aside0 (ledger_put.l0 kq x0_1 a1 x5_1 = some r) ∧ Aside0 (kq ≤ k) ∧ Aside0 (Kd.R (Kd.int .u8) 5 w' w0.heap.size (fun k_ => (P0_ k_ ∨ w.heap.size ≤ k_)) v0 x0_1) ∧ Aside0 (Kept w w' (fun k_ => P0_ k_)) ∧ Aside0 (Below w0.heap.size w0 w'))
  case atStart => exact ⟨(l0), (56), (by first | rfl | (simp; done) | (simp [*]; done)), H', ⟨Nat.le_refl _⟩, ⟨by (with_reducible repeat (first | apply Kd.R_alloc | apply Kd.R_drewN | apply Kd.R_drew)); exact HO0.out⟩, ⟨by repeat (first | (with_reducible first | exact HK.out | apply Kept.alloc | apply Kept.drewN | apply Kept.drew) | exact HK.out)⟩, ⟨by repeat (first | (with_reducible first | exact HB.out | apply below_alloc | apply pw_below_drewN | apply below_drew1) | exact HB.out)⟩⟩
  case round =>
    clear H'
    try clear c2
    try clear p2
    obtain ⟨x0_1, x5_1, rfl, HA, HK1, HO_0, HK, HB⟩ := hrel
    cases gk with
    | zero => exact absurd HA.out (by simp [ledger_put.l0])
    | succ k1 =>
      have H := HA.out
      clear HA
      simp only [ledger_put.l0] at H
      by_cases c3 : x5_1 ≥ 0
      · rw [if_pos c3] at H
        have c3b0 : decide (0 ≤ x5_1) = true := decide_eq_true c3
        clear c3
        by_cases c4 : 0 ≤ x5_1
        · rw [if_pos c4] at H
          have c4b0 := eq_true c4
          have c4b1 : decide (0 ≤ x5_1) = true := decide_eq_true c4
          clear c4
          obtain ⟨ji5, hji5⟩ : ∃ j_ : Int, (shr .u64 a1 x5_1) = j_ := ⟨_, rfl⟩
          replace H : (if x0_1.length < 140737488355328 then (ledger_put.l0 k1 (x0_1 ++ [(ji5) % 256]) a1 (wrap64 (x5_1 - 8))) else (none)) = some r := by first | (rw [hji5] at H; exact H) | (simp only [hji5] at H ⊢; exact H)
          have hji5_ : (a1 / 2 ^ min x5_1.toNat 64) = ji5 := hji5
          have hji5z : x5_1 ≤ 64 → (a1 / 2 ^ x5_1.toNat) = ji5 := shr_small hji5
          by_cases c6 : x0_1.length < 140737488355328
          · rw [if_pos c6] at H
            have LMc6 := Aside0.mk c6
            clear c6
            obtain ⟨y222, hy222⟩ : ∃ y_ : List Int, y_ = (x0_1 ++ [(ji5) % 256]) := ⟨_, rfl⟩
            replace H : (ledger_put.l0 k1 y222 a1 (wrap64 (x5_1 - 8))) = some r := by first | (rw [hy222]; with_reducible exact H) | (have H2_ := (Option.bind_some _ _).symm.trans H; rw [hy222]; with_reducible exact H2_) | (have H2_ := (Option.bind_some _ _).symm.trans H; with_reducible exact H2_) | with_reducible exact H | (rw [hy222]; exact H) | exact H
            have Ny222 := Aside0.mk hy222
            clear hy222
            have H' := Aside0.mk H
            clear H
            go_wp2_with (first | ((with_reducible refine gate_builtin (b := .append) (xs := #[.tmp 10, .tmp 15]) rfl ?_); at_builtin; refine Kd.R_append (Kd.int .u8) (w0 := w0) w0.heap.size rfl (.tmp 10) (.tmp 15) 50 5 (.int .u8 0) 1 rfl Try.underlying50 info5 rfl (by decide) (by omega) u0 x0_1 ((ji5) % 256) [.int .u8 ((ji5) % 256)] (fun k_ => (P0_ k_ ∨ w.heap.size ≤ k_)) (fun _ => False) rfl rfl ?aP (fun _ hk => hk.elim) ?aF ?aO ?aB ?aS ?aL ?_; (case aP => exact rfl); (case aB => exact (by repeat (first | (with_reducible first | exact HB.out | apply below_alloc | apply pw_below_drewN | apply below_drew1) | exact HB.out))); (case aF => exact (fun k_ hk => (.inr (Nat.le_trans (by first | exact HK.out.1 | exact (show Kept w _ (fun k_ => P0_ k_) from by repeat (first | (with_reducible first | exact HK.out | apply Kept.alloc | apply Kept.drewN | apply Kept.drew) | exact HK.out)).1) hk)))); (case aO => exact (by (with_reducible repeat (first | apply Kd.R_alloc | apply Kd.R_drewN | apply Kd.R_drew)); exact HO_0.out)); (case aS => exact (below_size (by repeat (first | (with_reducible first | exact HB.out | apply below_alloc | apply pw_below_drewN | apply below_drew1) | exact HB.out)))); (case aL => have := LMc6.out; omega); intro v223 w7 ho hb hg hat; rw [← Ny222.out] at ho; have n0_ := Aside0.mk (hb); have n1_ := Aside0.mk (Kept.of_grown (S := (fun k_ => P0_ k_)) hg (by repeat (first | (with_reducible first | exact HK.out | apply Kept.alloc | apply Kept.drewN | apply Kept.drew) | exact HK.out)) (fun k_ e_ => (HO_0.out.1 k_ e_))); have n2_ := Aside0.mk (ho); clear HB; clear HK; clear HO_0; have HB := n0_; have HK := n1_; have HO224 := n2_; clear n0_ n1_ n2_; clear ho hb hg hat))
            go_roundg k1
            case measure => have := HK1.out; omega
            case rel => exact ⟨(y222), (wrap64 (x5_1 - 8)), (by first | rfl | (simp; done) | (simp [*]; done)), H', ⟨by have := HK1.out; omega⟩, ⟨by (with_reducible repeat (first | apply Kd.R_alloc | apply Kd.R_drewN | apply Kd.R_drew)); exact HO224.out⟩, ⟨by repeat (first | (with_reducible first | exact HK.out | apply Kept.alloc | apply Kept.drewN | apply Kept.drew) | exact HK.out)⟩, ⟨by repeat (first | (with_reducible first | exact HB.out | apply below_alloc | apply pw_below_drewN | apply below_drew1) | exact HB.out)⟩⟩
          · rw [if_neg c6] at H
            exact absurd H (by simp)
        · rw [if_neg c4] at H
          exact absurd H (by simp)
      · rw [if_neg c3] at H
        have c3b0 : decide (0 ≤ x5_1) = false := decide_eq_false c3
        clear c3
        obtain rfl := Option.some.inj H
        go_wp2
        go_ret
        exact ⟨_, by first | rfl | (simp [errW_none, errW_some] <;> rfl) | (simp [*, errW_none, errW_some] <;> rfl), by (with_reducible repeat (first | apply Kd.R_alloc | apply Kd.R_drewN | apply Kd.R_drew)); exact HO_0.out, by repeat (first | (with_reducible first | exact HB.out | apply below_alloc | apply pw_below_drewN | apply below_drew1) | exact HB.out), by repeat (first | (with_reducible first | exact HK.out | apply Kept.alloc | apply Kept.drewN | apply Kept.drew) | exact HK.out)⟩

def marginaliaref21_Same.l0 : Nat → List (S52) → List (S52) → Int → Option (Bool)
  | 0, _, _, _ => none
  | k + 1, x0, x1, x5 => if x5 < (x0.length : Int) then (if 0 ≤ x5 then (if x5 < (x1.length : Int) then (if ((rd_T52 x0 x5).f0) = ((rd_T52 x1 x5).f0) then (if (strOfNums ((rd_T52 x0 x5).f1)).toList = (strOfNums ((rd_T52 x1 x5).f1)).toList then (marginaliaref21_Same.l0 k x0 x1 (wrap64 (x5 + 1))) else (some false)) else (some false)) else (none)) else (none)) else (some true)
def marginaliaref21_Same.f (k : Nat) (l0 : List (S52)) (l1 : List (S52)) : Option (Bool) := if (l0.length : Int) = (l1.length : Int) then (marginaliaref21_Same.l0 k l0 l1 0) else (some false)
set_option maxHeartbeats 8000000 in
set_option maxRecDepth 100000 in
theorem marginaliaref21_Same.calls (k : Nat) (A0 : Option Addr) (c0 : Nat) (l0 : List (S52)) (A1 : Option Addr) (c1 : Nat) (l1 : List (S52)) (r : Bool) (w : World) (hr0 : Kd.C k52 w A0 l0.length l0) (hc0 : l0.length ≤ c0) (hr1 : Kd.C k52 w A1 l1.length l1) (hc1 : l1.length ≤ c1) (h : marginaliaref21_Same.f k l0 l1 = some r) :
    Calls Try.prog 12 #[.slice A0 l0.length c0, .slice A1 l1.length c1] w fun e w' => e = .returned (.bool r) ∧ Drawn0 w w' := by
  have HR0 := Aside0.mk hr0
  have HC0 := Aside0.mk hc0
  clear hr0 hc0
  have HR1 := Aside0.mk hr1
  have HC1 := Aside0.mk hc1
  clear hr1 hc1
  have H : (if (l0.length : Int) = (l1.length : Int) then (marginaliaref21_Same.l0 k l0 l1 0) else (some false)) = some r := h
  clear h
  by_cases c3 : (l0.length : Int) = (l1.length : Int)
  · rw [if_pos c3] at H
    have c3b0 : ((l0.length : Int) == (l1.length : Int)) = true := beq_iff_eq.mpr c3
    have c3b1 : ((l0.length : Int) != (l1.length : Int)) = false := bne_eq_false_iff_eq.mpr c3
    have c3b2 : (l0.length == l1.length) = true := by first | simpa using c3 | (simp at c3 ⊢; omega)
    clear c3
    have H' := Aside0.mk H
    clear H
    go_enter Try.func12, Try.ntmps12
    go_wp2
    repeat (go_quiet (fail); try go_wp2)
    go_loopg [5] k (fun kq v5 w' => ∃ (x5_1 : Int), v5 = .int .i64 x5_1 ∧ Aside0 (marginaliaref21_Same.l0 kq l0 l1 x5_1 = some r) ∧ Aside0 (kq ≤ k) ∧ Drawn0 w w')
    case atStart => exact ⟨(0), (by first | rfl | (simp; done) | (simp [*]; done)), H', ⟨Nat.le_refl _⟩, by repeat (first | exact Drawn0.refl _ | apply Drawn0.step)⟩
    case round =>
      clear H'
      try clear c1
      try clear p2
      try clear c3
      try clear c3b0
      try clear c3b1
      try clear c3b2
      obtain ⟨x5_1, rfl, HA, HK1, ⟨m1, rfl⟩⟩ := hrel
      cases gk with
      | zero => exact absurd HA.out (by simp [marginaliaref21_Same.l0])
      | succ k1 =>
        have H := HA.out
        clear HA
        simp only [marginaliaref21_Same.l0] at H
        by_cases c4 : x5_1 < (l0.length : Int)
        · rw [if_pos c4] at H
          have c4b0 : decide (x5_1 < (l0.length : Int)) = true := decide_eq_true c4
          clear c4
          by_cases c5 : 0 ≤ x5_1
          · rw [if_pos c5] at H
            have c5b0 : decide (0 ≤ x5_1) = true := decide_eq_true c5
            clear c5
            by_cases c6 : x5_1 < (l1.length : Int)
            · rw [if_pos c6] at H
              have c6b0 : decide (x5_1 < (l1.length : Int)) = true := decide_eq_true c6
              clear c6
              by_cases c7 : ((rd_T52 l0 x5_1).f0) = ((rd_T52 l1 x5_1).f0)
              · rw [if_pos c7] at H
                have c7b0 : (((rd_T52 l0 x5_1).f0) == ((rd_T52 l1 x5_1).f0)) = true := beq_iff_eq.mpr c7
                have c7b1 : (((rd_T52 l0 x5_1).f0) != ((rd_T52 l1 x5_1).f0)) = false := bne_eq_false_iff_eq.mpr c7
                clear c7
                by_cases c8 : (strOfNums ((rd_T52 l0 x5_1).f1)).toList = (strOfNums ((rd_T52 l1 x5_1).f1)).toList
                · rw [if_pos c8] at H
                  have c8b0 : ((strOfNums ((rd_T52 l0 x5_1).f1)).toList == (strOfNums ((rd_T52 l1 x5_1).f1)).toList) = true := beq_iff_eq.mpr c8
                  have c8b1 : ((strOfNums ((rd_T52 l0 x5_1).f1)).toList != (strOfNums ((rd_T52 l1 x5_1).f1)).toList) = false := bne_eq_false_iff_eq.mpr c8
                  clear c8
                  have H' := Aside0.mk H
                  clear H
                  have p225 : 0 ≤ (x5_1 : Int) := of_decide_eq_true (by first | (with_reducible assumption) | assumption)
                  have q225 : x5_1 < (l0.length : Int) := of_decide_eq_true (by first | (with_reducible assumption) | assumption)
                  obtain ⟨ad225, A225_1, c225_1, e225, hx225_0, hx225_1, hl225_1, hi225_1⟩ := at_T52 HR0.out x5_1 p225 q225
                  cases e225
                  have HR225_1 := Aside0.mk hi225_1
                  have HC225_1 := Aside0.mk hl225_1
                  clear hi225_1 hl225_1
                  replace p225 := eq_true p225
                  replace q225 := eq_true q225
                  have p226 : 0 ≤ (x5_1 : Int) := of_decide_eq_true (by first | (with_reducible assumption) | assumption)
                  have q226 : x5_1 < (l1.length : Int) := of_decide_eq_true (by first | (with_reducible assumption) | assumption)
                  obtain ⟨ad226, A226_1, c226_1, e226, hx226_0, hx226_1, hl226_1, hi226_1⟩ := at_T52 HR1.out x5_1 p226 q226
                  cases e226
                  have HR226_1 := Aside0.mk hi226_1
                  have HC226_1 := Aside0.mk hl226_1
                  clear hi226_1 hl226_1
                  replace p226 := eq_true p226
                  replace q226 := eq_true q226
                  have p227 : 0 ≤ (x5_1 : Int) := of_decide_eq_true (by first | (with_reducible assumption) | assumption)
                  have q227 : x5_1 < (l0.length : Int) := of_decide_eq_true (by first | (with_reducible assumption) | assumption)
                  obtain ⟨ad227, A227_1, c227_1, e227, hx227_0, hx227_1, hl227_1, hi227_1⟩ := at_T52 HR0.out x5_1 p227 q227
                  obtain rfl : ad225 = ad227 := (by injection e227)
                  have HR227_1 := Aside0.mk hi227_1
                  have HC227_1 := Aside0.mk hl227_1
                  clear hi227_1 hl227_1
                  replace p227 := eq_true p227
                  replace q227 := eq_true q227
                  have ea_ := Option.some.inj (hx225_1.symm.trans hx227_1)
                  injection ea_ with ea_ en_ ec_
                  subst ea_
                  subst ec_
                  clear en_
                  have hcv9 := fun m_ => Kd.C_string (P := Try.prog) (A := A225_1) (c := c225_1) Try.underlying50 Try.underlying5 Try.underlying9 (Kd.C_drewN HR227_1.out m_)
                  have p228 : 0 ≤ (x5_1 : Int) := of_decide_eq_true (by first | (with_reducible assumption) | assumption)
                  have q228 : x5_1 < (l1.length : Int) := of_decide_eq_true (by first | (with_reducible assumption) | assumption)
                  obtain ⟨ad228, A228_1, c228_1, e228, hx228_0, hx228_1, hl228_1, hi228_1⟩ := at_T52 HR1.out x5_1 p228 q228
                  obtain rfl : ad226 = ad228 := (by injection e228)
                  have HR228_1 := Aside0.mk hi228_1
                  have HC228_1 := Aside0.mk hl228_1
                  clear hi228_1 hl228_1
                  replace p228 := eq_true p228
                  replace q228 := eq_true q228
                  have ea_ := Option.some.inj (hx226_1.symm.trans hx228_1)
                  injection ea_ with ea_ en_ ec_
                  subst ea_
                  subst ec_
                  clear en_
                  have hcv10 := fun m_ => Kd.C_string (P := Try.prog) (A := A226_1) (c := c226_1) Try.underlying50 Try.underlying5 Try.underlying9 (Kd.C_drewN HR228_1.out m_)
                  go_wp2
                  repeat (go_quiet (fail); try go_wp2)
                  go_roundg k1
                  case measure => have := HK1.out; omega
                  case rel => exact ⟨(wrap64 (x5_1 + 1)), (by first | rfl | (simp; done) | (simp [*]; done)), H', ⟨by have := HK1.out; omega⟩, by repeat (first | exact Drawn0.refl _ | apply Drawn0.step)⟩
                · rw [if_neg c8] at H
                  have c8b0 : ((strOfNums ((rd_T52 l0 x5_1).f1)).toList == (strOfNums ((rd_T52 l1 x5_1).f1)).toList) = false := beq_eq_false_iff_ne.mpr c8
                  have c8b1 : ((strOfNums ((rd_T52 l0 x5_1).f1)).toList != (strOfNums ((rd_T52 l1 x5_1).f1)).toList) = true := bne_iff_ne.mpr c8
                  obtain rfl := Option.some.inj H
                  have p225 : 0 ≤ (x5_1 : Int) := of_decide_eq_true (by first | (with_reducible assumption) | assumption)
                  have q225 : x5_1 < (l0.length : Int) := of_decide_eq_true (by first | (with_reducible assumption) | assumption)
                  obtain ⟨ad225, A225_1, c225_1, e225, hx225_0, hx225_1, hl225_1, hi225_1⟩ := at_T52 HR0.out x5_1 p225 q225
                  cases e225
                  have HR225_1 := Aside0.mk hi225_1
                  have HC225_1 := Aside0.mk hl225_1
                  clear hi225_1 hl225_1
                  replace p225 := eq_true p225
                  replace q225 := eq_true q225
                  have p226 : 0 ≤ (x5_1 : Int) := of_decide_eq_true (by first | (with_reducible assumption) | assumption)
                  have q226 : x5_1 < (l1.length : Int) := of_decide_eq_true (by first | (with_reducible assumption) | assumption)
                  obtain ⟨ad226, A226_1, c226_1, e226, hx226_0, hx226_1, hl226_1, hi226_1⟩ := at_T52 HR1.out x5_1 p226 q226
                  cases e226
                  have HR226_1 := Aside0.mk hi226_1
                  have HC226_1 := Aside0.mk hl226_1
                  clear hi226_1 hl226_1
                  replace p226 := eq_true p226
                  replace q226 := eq_true q226
                  have p227 : 0 ≤ (x5_1 : Int) := of_decide_eq_true (by first | (with_reducible assumption) | assumption)
                  have q227 : x5_1 < (l0.length : Int) := of_decide_eq_true (by first | (with_reducible assumption) | assumption)
                  obtain ⟨ad227, A227_1, c227_1, e227, hx227_0, hx227_1, hl227_1, hi227_1⟩ := at_T52 HR0.out x5_1 p227 q227
                  obtain rfl : ad225 = ad227 := (by injection e227)
                  have HR227_1 := Aside0.mk hi227_1
                  have HC227_1 := Aside0.mk hl227_1
                  clear hi227_1 hl227_1
                  replace p227 := eq_true p227
                  replace q227 := eq_true q227
                  have ea_ := Option.some.inj (hx225_1.symm.trans hx227_1)
                  injection ea_ with ea_ en_ ec_
                  subst ea_
                  subst ec_
                  clear en_
                  have hcv11 := fun m_ => Kd.C_string (P := Try.prog) (A := A225_1) (c := c225_1) Try.underlying50 Try.underlying5 Try.underlying9 (Kd.C_drewN HR227_1.out m_)
                  have p228 : 0 ≤ (x5_1 : Int) := of_decide_eq_true (by first | (with_reducible assumption) | assumption)
                  have q228 : x5_1 < (l1.length : Int) := of_decide_eq_true (by first | (with_reducible assumption) | assumption)
                  obtain ⟨ad228, A228_1, c228_1, e228, hx228_0, hx228_1, hl228_1, hi228_1⟩ := at_T52 HR1.out x5_1 p228 q228
                  obtain rfl : ad226 = ad228 := (by injection e228)
                  have HR228_1 := Aside0.mk hi228_1
                  have HC228_1 := Aside0.mk hl228_1
                  clear hi228_1 hl228_1
                  replace p228 := eq_true p228
                  replace q228 := eq_true q228
                  have ea_ := Option.some.inj (hx226_1.symm.trans hx228_1)
                  injection ea_ with ea_ en_ ec_
                  subst ea_
                  subst ec_
                  clear en_
                  have hcv12 := fun m_ => Kd.C_string (P := Try.prog) (A := A226_1) (c := c226_1) Try.underlying50 Try.underlying5 Try.underlying9 (Kd.C_drewN HR228_1.out m_)
                  go_wp2
                  repeat (go_quiet (fail); try go_wp2)
                  go_ret
                  exact ⟨by first | rfl | (simp; done) | (simp [*]; done), by repeat (first | exact Drawn0.refl _ | apply Drawn0.step)⟩
              · rw [if_neg c7] at H
                have c7b0 : (((rd_T52 l0 x5_1).f0) == ((rd_T52 l1 x5_1).f0)) = false := beq_eq_false_iff_ne.mpr c7
                have c7b1 : (((rd_T52 l0 x5_1).f0) != ((rd_T52 l1 x5_1).f0)) = true := bne_iff_ne.mpr c7
                obtain rfl := Option.some.inj H
                have p225 : 0 ≤ (x5_1 : Int) := of_decide_eq_true (by first | (with_reducible assumption) | assumption)
                have q225 : x5_1 < (l0.length : Int) := of_decide_eq_true (by first | (with_reducible assumption) | assumption)
                obtain ⟨ad225, A225_1, c225_1, e225, hx225_0, hx225_1, hl225_1, hi225_1⟩ := at_T52 HR0.out x5_1 p225 q225
                cases e225
                have HR225_1 := Aside0.mk hi225_1
                have HC225_1 := Aside0.mk hl225_1
                clear hi225_1 hl225_1
                replace p225 := eq_true p225
                replace q225 := eq_true q225
                have p226 : 0 ≤ (x5_1 : Int) := of_decide_eq_true (by first | (with_reducible assumption) | assumption)
                have q226 : x5_1 < (l1.length : Int) := of_decide_eq_true (by first | (with_reducible assumption) | assumption)
                obtain ⟨ad226, A226_1, c226_1, e226, hx226_0, hx226_1, hl226_1, hi226_1⟩ := at_T52 HR1.out x5_1 p226 q226
                cases e226
                have HR226_1 := Aside0.mk hi226_1
                have HC226_1 := Aside0.mk hl226_1
                clear hi226_1 hl226_1
                replace p226 := eq_true p226
                replace q226 := eq_true q226
                go_wp2
                repeat (go_quiet (fail); try go_wp2)
                go_ret
                exact ⟨by first | rfl | (simp; done) | (simp [*]; done), by repeat (first | exact Drawn0.refl _ | apply Drawn0.step)⟩
            · rw [if_neg c6] at H
              exact absurd H (by simp)
          · rw [if_neg c5] at H
            exact absurd H (by simp)
        · rw [if_neg c4] at H
          have c4b0 : decide (x5_1 < (l0.length : Int)) = false := decide_eq_false c4
          clear c4
          obtain rfl := Option.some.inj H
          go_wp2
          repeat (go_quiet (fail); try go_wp2)
          go_ret
          exact ⟨by first | rfl | (simp; done) | (simp [*]; done), by repeat (first | exact Drawn0.refl _ | apply Drawn0.step)⟩
  · rw [if_neg c3] at H
    have c3b0 : ((l0.length : Int) == (l1.length : Int)) = false := beq_eq_false_iff_ne.mpr c3
    have c3b1 : ((l0.length : Int) != (l1.length : Int)) = true := bne_iff_ne.mpr c3
    have c3b2 : (l0.length == l1.length) = false := by first | simpa using c3 | (simp at c3 ⊢; omega)
    obtain rfl := Option.some.inj H
    go_enter Try.func12, Try.ntmps12
    go_wp2
    repeat (go_quiet (fail); try go_wp2)
    go_ret
    exact ⟨by first | rfl | (simp; done) | (simp [*]; done), by repeat (first | exact Drawn0.refl _ | apply Drawn0.step)⟩

def slices_isNaN_uint64.f (a0 : Int) : Option (Bool) := some (a0 != a0)
set_option maxHeartbeats 8000000 in
set_option maxRecDepth 100000 in
theorem slices_isNaN_uint64.calls (a0 : Int) (r : Bool) (w : World) (h : slices_isNaN_uint64.f a0 = some r) :
    Calls Try.prog 46 #[.int .u64 a0] w fun e w' => e = .returned (.bool r) ∧ Drawn0 w w' := by
  have H : (some (a0 != a0)) = some r := h
  clear h
  obtain rfl := Option.some.inj H
  go_enter Try.func46, Try.ntmps46
  go_wp2
  go_ret
  exact ⟨by first | rfl | (simp; done) | (simp [*]; done), by repeat (first | exact Drawn0.refl _ | apply Drawn0.step)⟩

def slices_BinarySearch_uint64_uint64.l0 : Nat → List Int → Int → Int → Int → Int → Option (Int × Bool)
  | 0, _, _, _, _, _ => none
  | k + 1, x0, x1, x6, x7, x8 => if x7 < x8 then (if 0 ≤ (wrap64 ((IntKind.u64.wrap (wrap64 (x7 + x8))) / 2)) then (if (wrap64 ((IntKind.u64.wrap (wrap64 (x7 + x8))) / 2)) < (x0.length : Int) then ((cmp_Less_uint64.f (rd x0 (wrap64 ((IntKind.u64.wrap (wrap64 (x7 + x8))) / 2))) x1).bind fun t231 => (if t231 = true then (slices_BinarySearch_uint64_uint64.l0 k x0 x1 x6 (wrap64 ((wrap64 ((IntKind.u64.wrap (wrap64 (x7 + x8))) / 2)) + 1)) x8) else (slices_BinarySearch_uint64_uint64.l0 k x0 x1 x6 x7 (wrap64 ((IntKind.u64.wrap (wrap64 (x7 + x8))) / 2))))) else (none)) else (none)) else (if x7 < x6 then (if 0 ≤ x7 then (if x7 < (x0.length : Int) then (if (rd x0 x7) = x1 then (some (x7, true)) else ((slices_isNaN_uint64.f (rd x0 x7)).bind fun t234 => (if t234 = true then ((slices_isNaN_uint64.f x1).bind fun t235 => (some (x7, t235))) else (some (x7, false))))) else (none)) else (none)) else (some (x7, false)))
def slices_BinarySearch_uint64_uint64.f (k : Nat) (l0 : List Int) (a1 : Int) : Option (Int × Bool) := slices_BinarySearch_uint64_uint64.l0 k l0 a1 (l0.length : Int) 0 (l0.length : Int)
set_option maxHeartbeats 8000000 in
set_option maxRecDepth 100000 in
theorem slices_BinarySearch_uint64_uint64.calls (k : Nat) (A0 : Option Addr) (c0 : Nat) (l0 : List Int) (a1 : Int) (r1 : Int) (r2 : Bool) (w : World) (hr0 : Kd.C (Kd.int .u64) w A0 l0.length l0) (hc0 : l0.length ≤ c0) (h : slices_BinarySearch_uint64_uint64.f k l0 a1 = some (r1, r2)) :
    Calls Try.prog 28 #[.slice A0 l0.length c0, .int .u64 a1] w fun e w' => e = .returned (.tuple #[.int .i64 r1, .bool r2]) ∧ Drawn0 w w' := by
  have HR0 := Aside0.mk hr0
  have HC0 := Aside0.mk hc0
  clear hr0 hc0
  have H : (slices_BinarySearch_uint64_uint64.l0 k l0 a1 (l0.length : Int) 0 (l0.length : Int)) = some (r1, r2) := h
  clear h
  have H' := Aside0.mk H
  clear H
  go_enter Try.func28, Try.ntmps28
  go_wp2
  go_loopg [7, 8] k (fun kq v7 v8 w' => ∃ (x7_1 : Int) (x8_1 : Int), v7 = .int .i64 x7_1 ∧ v8 = .int .i64 x8_1 ∧ Aside0 (slices_BinarySearch_uint64_uint64.l0 kq l0 a1 (l0.length : Int) x7_1 x8_1 = some (r1, r2)) ∧ Aside0 (kq ≤ k) ∧ Drawn0 w w')
  case atStart => exact ⟨(0), ((l0.length : Int)), (by first | rfl | (simp; done) | (simp [*]; done)), (by first | rfl | (simp; done) | (simp [*]; done)), H', ⟨Nat.le_refl _⟩, by repeat (first | exact Drawn0.refl _ | apply Drawn0.step)⟩
  case round =>
    clear H'
    try clear c2
    try clear p2
    obtain ⟨x7_1, x8_1, rfl, rfl, HA, HK1, ⟨m1, rfl⟩⟩ := hrel
    cases gk with
    | zero => exact absurd HA.out (by simp [slices_BinarySearch_uint64_uint64.l0])
    | succ k1 =>
      have H := HA.out
      clear HA
      simp only [slices_BinarySearch_uint64_uint64.l0] at H
      by_cases c3 : x7_1 < x8_1
      · rw [if_pos c3] at H
        have c3b0 : decide (x7_1 < x8_1) = true := decide_eq_true c3
        clear c3
        obtain ⟨ji4, hji4⟩ : ∃ j_ : Int, (wrap64 ((IntKind.u64.wrap (wrap64 (x7_1 + x8_1))) / 2)) = j_ := ⟨_, rfl⟩
        replace H : (if 0 ≤ (ji4) then (if (ji4) < (l0.length : Int) then ((cmp_Less_uint64.f (rd l0 (ji4)) a1).bind fun t231 => (if t231 = true then (slices_BinarySearch_uint64_uint64.l0 k1 l0 a1 (l0.length : Int) (wrap64 ((ji4) + 1)) x8_1) else (slices_BinarySearch_uint64_uint64.l0 k1 l0 a1 (l0.length : Int) x7_1 ji4))) else (none)) else (none)) = some (r1, r2) := by first | (rw [hji4] at H; exact H) | (simp only [hji4] at H ⊢; exact H)
        have hji4w : (IntKind.i64.wrap ((IntKind.u64.wrap (wrap64 (x7_1 + x8_1))) / 2)) = ji4 := (i64_w _).trans hji4
        by_cases c5 : 0 ≤ (ji4)
        · rw [if_pos c5] at H
          have c5b0 : decide (0 ≤ (ji4)) = true := decide_eq_true c5
          clear c5
          by_cases c6 : (ji4) < (l0.length : Int)
          · rw [if_pos c6] at H
            have c6b0 : decide ((ji4) < (l0.length : Int)) = true := decide_eq_true c6
            clear c6
            replace H := Option.bind_eq_some_iff.mp H
            obtain ⟨t231, A70, H⟩ := H
            replace H : (if t231 = true then (slices_BinarySearch_uint64_uint64.l0 k1 l0 a1 (l0.length : Int) (wrap64 ((ji4) + 1)) x8_1) else (slices_BinarySearch_uint64_uint64.l0 k1 l0 a1 (l0.length : Int) x7_1 ji4)) = some (r1, r2) := H
            have A7 := Aside0.mk A70
            clear A70
            by_cases c8 : t231 = true
            · subst c8
              have H1 : (slices_BinarySearch_uint64_uint64.l0 k1 l0 a1 (l0.length : Int) (wrap64 ((ji4) + 1)) x8_1) = some (r1, r2) := by rw [if_pos rfl] at H; exact H
              clear H
              have H := H1
              clear H1
              have H' := Aside0.mk H
              clear H
              have p230 : 0 ≤ ((ji4) : Int) := of_decide_eq_true (by first | (with_reducible assumption) | assumption)
              have q230 : (ji4) < (l0.length : Int) := of_decide_eq_true (by first | (with_reducible assumption) | assumption)
              obtain ⟨ad230, e230, hx230_0⟩ := Kd.at_int HR0.out (ji4) p230 q230
              cases e230
              replace p230 := eq_true p230
              replace q230 := eq_true q230
              go_wp2_with (first | ((with_reducible refine gate_callee (f := 45) rfl ?_); refine goesL_ (some 27) rfl rfl Try.func45 (by kernel_rfl) rfl #[.int .u64 (rd l0 (ji4)), .int .u64 a1] rfl (by (try simp only [List.map_toArray, List.map_cons, List.map_nil]); first | done | (simp only [hji4]; rfl) | rfl | (simp only [List.length_drop, List.length_take]; rfl)) ?_; (with_reducible refine (cmp_Less_uint64.calls (rd l0 (ji4)) a1 true _ A7.out).mono ?_); rintro e w' ⟨rfl, ⟨nd, rfl⟩⟩; refine ⟨_, rfl, ?_⟩))
              go_roundg k1
              case measure => have := HK1.out; omega
              case rel => exact ⟨(wrap64 ((ji4) + 1)), (x8_1), (by first | rfl | (simp; done) | (simp only [← hji4] <;> (first | rfl | simp)) | (simp [*]; done)), (by first | rfl | (simp; done) | (simp [*]; done)), H', ⟨by have := HK1.out; omega⟩, by repeat (first | exact Drawn0.refl _ | apply Drawn0.step)⟩
            · replace c8 := Bool.eq_false_iff.mpr c8
              subst c8
              have H1 : (slices_BinarySearch_uint64_uint64.l0 k1 l0 a1 (l0.length : Int) x7_1 ji4) = some (r1, r2) := by rw [if_neg (show ¬ (false = true) by decide)] at H; exact H
              clear H
              have H := H1
              clear H1
              have H' := Aside0.mk H
              clear H
              have p230 : 0 ≤ ((ji4) : Int) := of_decide_eq_true (by first | (with_reducible assumption) | assumption)
              have q230 : (ji4) < (l0.length : Int) := of_decide_eq_true (by first | (with_reducible assumption) | assumption)
              obtain ⟨ad230, e230, hx230_0⟩ := Kd.at_int HR0.out (ji4) p230 q230
              cases e230
              replace p230 := eq_true p230
              replace q230 := eq_true q230
              go_wp2_with (first | ((with_reducible refine gate_callee (f := 45) rfl ?_); refine goesL_ (some 27) rfl rfl Try.func45 (by kernel_rfl) rfl #[.int .u64 (rd l0 (ji4)), .int .u64 a1] rfl (by (try simp only [List.map_toArray, List.map_cons, List.map_nil]); first | done | (simp only [hji4]; rfl) | rfl | (simp only [List.length_drop, List.length_take]; rfl)) ?_; (with_reducible refine (cmp_Less_uint64.calls (rd l0 (ji4)) a1 false _ A7.out).mono ?_); rintro e w' ⟨rfl, ⟨nd, rfl⟩⟩; refine ⟨_, rfl, ?_⟩))
              go_roundg k1
              case measure => have := HK1.out; omega
              case rel => exact ⟨(x7_1), (ji4), (by first | rfl | (simp; done) | (simp [*]; done)), (by first | rfl | (simp; done) | (simp only [← hji4] <;> (first | rfl | simp)) | (simp [*]; done)), H', ⟨by have := HK1.out; omega⟩, by repeat (first | exact Drawn0.refl _ | apply Drawn0.step)⟩
          · rw [if_neg c6] at H
            exact absurd H (by simp)
        · rw [if_neg c5] at H
          exact absurd H (by simp)
      · rw [if_neg c3] at H
        have c3b0 : decide (x7_1 < x8_1) = false := decide_eq_false c3
        clear c3
        by_cases c9 : x7_1 < (l0.length : Int)
        · rw [if_pos c9] at H
          have c9b0 : decide (x7_1 < (l0.length : Int)) = true := decide_eq_true c9
          clear c9
          by_cases c10 : 0 ≤ x7_1
          · rw [if_pos c10] at H
            have c10b0 : decide (0 ≤ x7_1) = true := decide_eq_true c10
            clear c10
            by_cases c11 : x7_1 < (l0.length : Int)
            · rw [if_pos c11] at H
              have c11b0 : decide (x7_1 < (l0.length : Int)) = true := decide_eq_true c11
              clear c11
              by_cases c12 : (rd l0 x7_1) = a1
              · rw [if_pos c12] at H
                have c12b0 : ((rd l0 x7_1) == a1) = true := beq_iff_eq.mpr c12
                have c12b1 : ((rd l0 x7_1) != a1) = false := bne_eq_false_iff_eq.mpr c12
                clear c12
                simp only [Option.some.injEq, Prod.mk.injEq] at H
                obtain ⟨rfl, rfl⟩ := H
                have p232 : 0 ≤ (x7_1 : Int) := of_decide_eq_true (by first | (with_reducible assumption) | assumption)
                have q232 : x7_1 < (l0.length : Int) := of_decide_eq_true (by first | (with_reducible assumption) | assumption)
                obtain ⟨ad232, e232, hx232_0⟩ := Kd.at_int HR0.out x7_1 p232 q232
                cases e232
                replace p232 := eq_true p232
                replace q232 := eq_true q232
                go_wp2
                go_ret2
                exact ⟨by first | rfl | (simp; done) | (simp [*]; done), by repeat (first | exact Drawn0.refl _ | apply Drawn0.step)⟩
              · rw [if_neg c12] at H
                have c12b0 : ((rd l0 x7_1) == a1) = false := beq_eq_false_iff_ne.mpr c12
                have c12b1 : ((rd l0 x7_1) != a1) = true := bne_iff_ne.mpr c12
                replace H := Option.bind_eq_some_iff.mp H
                obtain ⟨t234, A130, H⟩ := H
                replace H : (if t234 = true then ((slices_isNaN_uint64.f a1).bind fun t235 => (some (x7_1, t235))) else (some (x7_1, false))) = some (r1, r2) := H
                have A13 := Aside0.mk A130
                clear A130
                by_cases c14 : t234 = true
                · subst c14
                  have H1 : ((slices_isNaN_uint64.f a1).bind fun t235 => (some (x7_1, t235))) = some (r1, r2) := by rw [if_pos rfl] at H; exact H
                  clear H
                  have H := H1
                  clear H1
                  replace H := Option.bind_eq_some_iff.mp H
                  obtain ⟨t235, A150, H⟩ := H
                  replace H : (some (x7_1, t235)) = some (r1, r2) := H
                  have A15 := Aside0.mk A150
                  clear A150
                  simp only [Option.some.injEq, Prod.mk.injEq] at H
                  obtain ⟨rfl, rfl⟩ := H
                  have p232 : 0 ≤ (x7_1 : Int) := of_decide_eq_true (by first | (with_reducible assumption) | assumption)
                  have q232 : x7_1 < (l0.length : Int) := of_decide_eq_true (by first | (with_reducible assumption) | assumption)
                  obtain ⟨ad232, e232, hx232_0⟩ := Kd.at_int HR0.out x7_1 p232 q232
                  cases e232
                  replace p232 := eq_true p232
                  replace q232 := eq_true q232
                  have p233 : 0 ≤ (x7_1 : Int) := of_decide_eq_true (by first | (with_reducible assumption) | assumption)
                  have q233 : x7_1 < (l0.length : Int) := of_decide_eq_true (by first | (with_reducible assumption) | assumption)
                  obtain ⟨ad233, e233, hx233_0⟩ := Kd.at_int HR0.out x7_1 p233 q233
                  obtain rfl : ad232 = ad233 := (by injection e233)
                  replace p233 := eq_true p233
                  replace q233 := eq_true q233
                  go_wp2_with (first | (go_at_call 46; (with_reducible refine (slices_isNaN_uint64.calls (rd l0 x7_1) true _ A13.out).mono ?_); rintro e w' ⟨rfl, ⟨nd, rfl⟩⟩) | (go_at_call 46; (with_reducible refine (slices_isNaN_uint64.calls a1 t235 _ A15.out).mono ?_); rintro e w' ⟨rfl, ⟨nd, rfl⟩⟩))
                  go_ret2
                  exact ⟨by first | rfl | (simp; done) | (simp [*]; done), by repeat (first | exact Drawn0.refl _ | apply Drawn0.step)⟩
                · replace c14 := Bool.eq_false_iff.mpr c14
                  subst c14
                  have H1 : (some (x7_1, false)) = some (r1, r2) := by rw [if_neg (show ¬ (false = true) by decide)] at H; exact H
                  clear H
                  have H := H1
                  clear H1
                  simp only [Option.some.injEq, Prod.mk.injEq] at H
                  obtain ⟨rfl, rfl⟩ := H
                  have p232 : 0 ≤ (x7_1 : Int) := of_decide_eq_true (by first | (with_reducible assumption) | assumption)
                  have q232 : x7_1 < (l0.length : Int) := of_decide_eq_true (by first | (with_reducible assumption) | assumption)
                  obtain ⟨ad232, e232, hx232_0⟩ := Kd.at_int HR0.out x7_1 p232 q232
                  cases e232
                  replace p232 := eq_true p232
                  replace q232 := eq_true q232
                  have p233 : 0 ≤ (x7_1 : Int) := of_decide_eq_true (by first | (with_reducible assumption) | assumption)
                  have q233 : x7_1 < (l0.length : Int) := of_decide_eq_true (by first | (with_reducible assumption) | assumption)
                  obtain ⟨ad233, e233, hx233_0⟩ := Kd.at_int HR0.out x7_1 p233 q233
                  obtain rfl : ad232 = ad233 := (by injection e233)
                  replace p233 := eq_true p233
                  replace q233 := eq_true q233
                  go_wp2_with (first | (go_at_call 46; (with_reducible refine (slices_isNaN_uint64.calls (rd l0 x7_1) false _ A13.out).mono ?_); rintro e w' ⟨rfl, ⟨nd, rfl⟩⟩))
                  go_ret2
                  exact ⟨by first | rfl | (simp; done) | (simp [*]; done), by repeat (first | exact Drawn0.refl _ | apply Drawn0.step)⟩
            · rw [if_neg c11] at H
              exact absurd H (by simp)
          · rw [if_neg c10] at H
            exact absurd H (by simp)
        · rw [if_neg c9] at H
          have c9b0 : decide (x7_1 < (l0.length : Int)) = false := decide_eq_false c9
          clear c9
          simp only [Option.some.injEq, Prod.mk.injEq] at H
          obtain ⟨rfl, rfl⟩ := H
          go_wp2
          go_ret2
          exact ⟨by first | rfl | (simp; done) | (simp [*]; done), by repeat (first | exact Drawn0.refl _ | apply Drawn0.step)⟩

def ledger_number.l0 : Nat → Int → List Int → Int → Int → Option (Int)
  | 0, _, _, _, _ => none
  | k + 1, x3, x6, x7, x8 => if x8 < x7 then (if 0 ≤ x8 then (if x8 < (x6.length : Int) then (ledger_number.l0 k (Go.bits .or .u64 (IntKind.u64.wrap (x3 * 256)) (IntKind.u64.wrap (rd x6 x8))) x6 x7 (wrap64 (x8 + 1))) else (none)) else (none)) else (some x3)
def ledger_number.f (k : Nat) (l0 : List Int) : Option (Int) := ledger_number.l0 k 0 l0 (l0.length : Int) 0
set_option maxHeartbeats 8000000 in
set_option maxRecDepth 100000 in
theorem ledger_number.calls (k : Nat) (A0 : Option Addr) (c0 : Nat) (l0 : List Int) (r : Int) (w : World) (hr0 : Kd.C (Kd.int .u8) w A0 l0.length l0) (hc0 : l0.length ≤ c0) (h : ledger_number.f k l0 = some r) :
    Calls Try.prog 29 #[.slice A0 l0.length c0] w fun e w' => e = .returned (.int .u64 r) ∧ Drawn0 w w' := by
  have HR0 := Aside0.mk hr0
  have HC0 := Aside0.mk hc0
  clear hr0 hc0
  have H : (ledger_number.l0 k 0 l0 (l0.length : Int) 0) = some r := h
  clear h
  have H' := Aside0.mk H
  clear H
  go_enter Try.func29, Try.ntmps29
  go_wp2
  go_loopg [3, 8] k (fun kq v3 v8 w' => ∃ (x3_1 : Int) (x8_1 : Int), v3 = .int .u64 x3_1 ∧ v8 = .int .i64 x8_1 ∧ Aside0 (ledger_number.l0 kq x3_1 l0 (l0.length : Int) x8_1 = some r) ∧ Aside0 (kq ≤ k) ∧ Drawn0 w w')
  case atStart => exact ⟨(0), (0), (by first | rfl | (simp; done) | (simp [*]; done)), (by first | rfl | (simp; done) | (simp [*]; done)), H', ⟨Nat.le_refl _⟩, by repeat (first | exact Drawn0.refl _ | apply Drawn0.step)⟩
  case round =>
    clear H'
    obtain ⟨x3_1, x8_1, rfl, rfl, HA, HK1, ⟨m1, rfl⟩⟩ := hrel
    cases gk with
    | zero => exact absurd HA.out (by simp [ledger_number.l0])
    | succ k1 =>
      have H := HA.out
      clear HA
      simp only [ledger_number.l0] at H
      by_cases c2 : x8_1 < (l0.length : Int)
      · rw [if_pos c2] at H
        have c2b0 : decide (x8_1 < (l0.length : Int)) = true := decide_eq_true c2
        clear c2
        by_cases c3 : 0 ≤ x8_1
        · rw [if_pos c3] at H
          have c3b0 : decide (0 ≤ x8_1) = true := decide_eq_true c3
          clear c3
          by_cases c4 : x8_1 < (l0.length : Int)
          · rw [if_pos c4] at H
            have c4b0 : decide (x8_1 < (l0.length : Int)) = true := decide_eq_true c4
            clear c4
            have H' := Aside0.mk H
            clear H
            have p236 : 0 ≤ (x8_1 : Int) := of_decide_eq_true (by first | (with_reducible assumption) | assumption)
            have q236 : x8_1 < (l0.length : Int) := of_decide_eq_true (by first | (with_reducible assumption) | assumption)
            obtain ⟨ad236, e236, hx236_0⟩ := Kd.at_int HR0.out x8_1 p236 q236
            cases e236
            replace p236 := eq_true p236
            replace q236 := eq_true q236
            go_wp2
            go_roundg k1
            case measure => have := HK1.out; omega
            case rel => exact ⟨(Go.bits .or .u64 (IntKind.u64.wrap (x3_1 * 256)) (IntKind.u64.wrap (rd l0 x8_1))), (wrap64 (x8_1 + 1)), (by first | rfl | (simp; done) | (simp [*]; done)), (by first | rfl | (simp; done) | (simp [*]; done)), H', ⟨by have := HK1.out; omega⟩, by repeat (first | exact Drawn0.refl _ | apply Drawn0.step)⟩
          · rw [if_neg c4] at H
            exact absurd H (by simp)
        · rw [if_neg c3] at H
          exact absurd H (by simp)
      · rw [if_neg c2] at H
        have c2b0 : decide (x8_1 < (l0.length : Int)) = false := decide_eq_false c2
        clear c2
        obtain rfl := Option.some.inj H
        go_wp2
        go_ret
        exact ⟨by first | rfl | (simp; done) | (simp [*]; done), by repeat (first | exact Drawn0.refl _ | apply Drawn0.step)⟩

def marginalialaw23_small.l0 : Nat → List (S52) → Int → Option (Bool)
  | 0, _, _ => none
  | k + 1, x0, x3 => if x3 < (x0.length : Int) then (if 0 ≤ x3 then (if (((rd_T52 x0 x3).f1).length : Int) > 4200 then (some false) else (marginalialaw23_small.l0 k x0 (wrap64 (x3 + 1)))) else (none)) else (some true)
def marginalialaw23_small.f (k : Nat) (l0 : List (S52)) : Option (Bool) := if (l0.length : Int) > 50 then (some false) else (marginalialaw23_small.l0 k l0 0)
set_option maxHeartbeats 8000000 in
set_option maxRecDepth 100000 in
theorem marginalialaw23_small.calls (k : Nat) (A0 : Option Addr) (c0 : Nat) (l0 : List (S52)) (r : Bool) (w : World) (hr0 : Kd.C k52 w A0 l0.length l0) (hc0 : l0.length ≤ c0) (h : marginalialaw23_small.f k l0 = some r) :
    Calls Try.prog 19 #[.slice A0 l0.length c0] w fun e w' => e = .returned (.bool r) ∧ Drawn0 w w' := by
  have HR0 := Aside0.mk hr0
  have HC0 := Aside0.mk hc0
  clear hr0 hc0
  have H : (if (l0.length : Int) > 50 then (some false) else (marginalialaw23_small.l0 k l0 0)) = some r := h
  clear h
  by_cases c2 : (l0.length : Int) > 50
  · rw [if_pos c2] at H
    have c2b0 : decide (50 < (l0.length : Int)) = true := decide_eq_true c2
    have c2b1 : decide (50 < l0.length) = true := decide_eq_true (by omega)
    clear c2
    obtain rfl := Option.some.inj H
    go_enter Try.func19, Try.ntmps19
    go_wp2
    go_ret
    exact ⟨by first | rfl | (simp; done) | (simp [*]; done), by repeat (first | exact Drawn0.refl _ | apply Drawn0.step)⟩
  · rw [if_neg c2] at H
    have c2b0 : decide (50 < (l0.length : Int)) = false := decide_eq_false c2
    have c2b1 : decide (50 < l0.length) = false := decide_eq_false (by omega)
    clear c2
    have H' := Aside0.mk H
    clear H
    go_enter Try.func19, Try.ntmps19
    go_wp2
    go_loopg [3] k (fun kq v3 w' => ∃ (x3_1 : Int), v3 = .int .i64 x3_1 ∧ Aside0 (marginalialaw23_small.l0 kq l0 x3_1 = some r) ∧ Aside0 (kq ≤ k) ∧ Drawn0 w w')
    case atStart => exact ⟨(0), (by first | rfl | (simp; done) | (simp [*]; done)), H', ⟨Nat.le_refl _⟩, by repeat (first | exact Drawn0.refl _ | apply Drawn0.step)⟩
    case round =>
      clear H'
      try clear c1
      try clear c2
      try clear c2b0
      try clear c2b1
      try clear p2
      obtain ⟨x3_1, rfl, HA, HK1, ⟨m1, rfl⟩⟩ := hrel
      cases gk with
      | zero => exact absurd HA.out (by simp [marginalialaw23_small.l0])
      | succ k1 =>
        have H := HA.out
        clear HA
        simp only [marginalialaw23_small.l0] at H
        by_cases c3 : x3_1 < (l0.length : Int)
        · rw [if_pos c3] at H
          have c3b0 : decide (x3_1 < (l0.length : Int)) = true := decide_eq_true c3
          clear c3
          by_cases c4 : 0 ≤ x3_1
          · rw [if_pos c4] at H
            have c4b0 : decide (0 ≤ x3_1) = true := decide_eq_true c4
            clear c4
            by_cases c5 : (((rd_T52 l0 x3_1).f1).length : Int) > 4200
            · rw [if_pos c5] at H
              have c5b0 : decide (4200 < (((rd_T52 l0 x3_1).f1).length : Int)) = true := decide_eq_true c5
              have c5b1 : decide (4200 < ((rd_T52 l0 x3_1).f1).length) = true := decide_eq_true (by omega)
              clear c5
              obtain rfl := Option.some.inj H
              have p237 : 0 ≤ (x3_1 : Int) := of_decide_eq_true (by first | (with_reducible assumption) | assumption)
              have q237 : x3_1 < (l0.length : Int) := of_decide_eq_true (by first | (with_reducible assumption) | assumption)
              obtain ⟨ad237, A237_1, c237_1, e237, hx237_0, hx237_1, hl237_1, hi237_1⟩ := at_T52 HR0.out x3_1 p237 q237
              cases e237
              have HR237_1 := Aside0.mk hi237_1
              have HC237_1 := Aside0.mk hl237_1
              clear hi237_1 hl237_1
              replace p237 := eq_true p237
              replace q237 := eq_true q237
              go_wp2
              go_ret
              exact ⟨by first | rfl | (simp; done) | (simp [*]; done), by repeat (first | exact Drawn0.refl _ | apply Drawn0.step)⟩
            · rw [if_neg c5] at H
              have c5b0 : decide (4200 < (((rd_T52 l0 x3_1).f1).length : Int)) = false := decide_eq_false c5
              have c5b1 : decide (4200 < ((rd_T52 l0 x3_1).f1).length) = false := decide_eq_false (by omega)
              clear c5
              have H' := Aside0.mk H
              clear H
              have p237 : 0 ≤ (x3_1 : Int) := of_decide_eq_true (by first | (with_reducible assumption) | assumption)
              have q237 : x3_1 < (l0.length : Int) := of_decide_eq_true (by first | (with_reducible assumption) | assumption)
              obtain ⟨ad237, A237_1, c237_1, e237, hx237_0, hx237_1, hl237_1, hi237_1⟩ := at_T52 HR0.out x3_1 p237 q237
              cases e237
              have HR237_1 := Aside0.mk hi237_1
              have HC237_1 := Aside0.mk hl237_1
              clear hi237_1 hl237_1
              replace p237 := eq_true p237
              replace q237 := eq_true q237
              go_wp2
              go_roundg k1
              case measure => have := HK1.out; omega
              case rel => exact ⟨(wrap64 (x3_1 + 1)), (by first | rfl | (simp; done) | (simp [*]; done)), H', ⟨by have := HK1.out; omega⟩, by repeat (first | exact Drawn0.refl _ | apply Drawn0.step)⟩
          · rw [if_neg c4] at H
            exact absurd H (by simp)
        · rw [if_neg c3] at H
          have c3b0 : decide (x3_1 < (l0.length : Int)) = false := decide_eq_false c3
          clear c3
          obtain rfl := Option.some.inj H
          go_wp2
          go_ret
          exact ⟨by first | rfl | (simp; done) | (simp [*]; done), by repeat (first | exact Drawn0.refl _ | apply Drawn0.step)⟩

def marginaliaref16_Number.l0 : Nat → List Int → Int → Int → Option (Int)
  | 0, _, _, _ => none
  | k + 1, x0, x3, x4 => if x4 < (x0.length : Int) then (if 0 ≤ x4 then (marginaliaref16_Number.l0 k x0 (IntKind.u64.wrap ((IntKind.u64.wrap (x3 * 256)) + (IntKind.u64.wrap (rd x0 x4)))) (wrap64 (x4 + 1))) else (none)) else (some x3)
def marginaliaref16_Number.f (k : Nat) (l0 : List Int) : Option (Int) := marginaliaref16_Number.l0 k l0 0 0
set_option maxHeartbeats 8000000 in
set_option maxRecDepth 100000 in
theorem marginaliaref16_Number.calls (k : Nat) (A0 : Option Addr) (c0 : Nat) (l0 : List Int) (r : Int) (w : World) (hr0 : Kd.C (Kd.int .u8) w A0 l0.length l0) (hc0 : l0.length ≤ c0) (h : marginaliaref16_Number.f k l0 = some r) :
    Calls Try.prog 35 #[.slice A0 l0.length c0] w fun e w' => e = .returned (.int .u64 r) ∧ Drawn0 w w' := by
  have HR0 := Aside0.mk hr0
  have HC0 := Aside0.mk hc0
  clear hr0 hc0
  have H : (marginaliaref16_Number.l0 k l0 0 0) = some r := h
  clear h
  have H' := Aside0.mk H
  clear H
  go_enter Try.func35, Try.ntmps35
  go_wp2
  go_loopg [3, 4] k (fun kq v3 v4 w' => ∃ (x3_1 : Int) (x4_1 : Int), v3 = .int .u64 x3_1 ∧ v4 = .int .i64 x4_1 ∧ Aside0 (marginaliaref16_Number.l0 kq l0 x3_1 x4_1 = some r) ∧ Aside0 (kq ≤ k) ∧ Drawn0 w w')
  case atStart => exact ⟨(0), (0), (by first | rfl | (simp; done) | (simp [*]; done)), (by first | rfl | (simp; done) | (simp [*]; done)), H', ⟨Nat.le_refl _⟩, by repeat (first | exact Drawn0.refl _ | apply Drawn0.step)⟩
  case round =>
    clear H'
    obtain ⟨x3_1, x4_1, rfl, rfl, HA, HK1, ⟨m1, rfl⟩⟩ := hrel
    cases gk with
    | zero => exact absurd HA.out (by simp [marginaliaref16_Number.l0])
    | succ k1 =>
      have H := HA.out
      clear HA
      simp only [marginaliaref16_Number.l0] at H
      by_cases c2 : x4_1 < (l0.length : Int)
      · rw [if_pos c2] at H
        have c2b0 : decide (x4_1 < (l0.length : Int)) = true := decide_eq_true c2
        clear c2
        by_cases c3 : 0 ≤ x4_1
        · rw [if_pos c3] at H
          have c3b0 : decide (0 ≤ x4_1) = true := decide_eq_true c3
          clear c3
          have H' := Aside0.mk H
          clear H
          have p239 : 0 ≤ (x4_1 : Int) := of_decide_eq_true (by first | (with_reducible assumption) | assumption)
          have q239 : x4_1 < (l0.length : Int) := of_decide_eq_true (by first | (with_reducible assumption) | assumption)
          obtain ⟨ad239, e239, hx239_0⟩ := Kd.at_int HR0.out x4_1 p239 q239
          cases e239
          replace p239 := eq_true p239
          replace q239 := eq_true q239
          go_wp2
          go_roundg k1
          case measure => have := HK1.out; omega
          case rel => exact ⟨(IntKind.u64.wrap ((IntKind.u64.wrap (x3_1 * 256)) + (IntKind.u64.wrap (rd l0 x4_1)))), (wrap64 (x4_1 + 1)), (by first | rfl | (simp; done) | (simp [*]; done)), (by first | rfl | (simp; done) | (simp [*]; done)), H', ⟨by have := HK1.out; omega⟩, by repeat (first | exact Drawn0.refl _ | apply Drawn0.step)⟩
        · rw [if_neg c3] at H
          exact absurd H (by simp)
      · rw [if_neg c2] at H
        have c2b0 : decide (x4_1 < (l0.length : Int)) = false := decide_eq_false c2
        clear c2
        obtain rfl := Option.some.inj H
        go_wp2
        go_ret
        exact ⟨by first | rfl | (simp; done) | (simp [*]; done), by repeat (first | exact Drawn0.refl _ | apply Drawn0.step)⟩

def marginaliaref23_Newest.f (l0_0 : List (S42)) (l0_1 : List ByteArray) (a0_2 : Int) (a0_3 : Int) : Option (Int) := some (IntKind.u64.wrap ((l0_1.length : Int)))
set_option maxHeartbeats 8000000 in
set_option maxRecDepth 100000 in
theorem marginaliaref23_Newest.calls (A0_0 : Option Addr) (c0_0 : Nat) (l0_0 : List (S42)) (A0_1 : Option Addr) (c0_1 : Nat) (l0_1 : List ByteArray) (a0_2 : Int) (a0_3 : Int) (r : Int) (w : World) (hr0_0 : Kd.C k42 w A0_0 l0_0.length l0_0) (hc0_0 : l0_0.length ≤ c0_0) (hr0_1 : Kd.C Kd.string w A0_1 l0_1.length l0_1) (hc0_1 : l0_1.length ≤ c0_1) (h : marginaliaref23_Newest.f l0_0 l0_1 a0_2 a0_3 = some r) :
    Calls Try.prog 34 #[.agg #[.slice A0_0 l0_0.length c0_0, .slice A0_1 l0_1.length c0_1, .int .u64 a0_2, .int .u64 a0_3]] w fun e w' => e = .returned (.int .u64 r) ∧ Below w.heap.size w w' := by
  have hu58 := Try.underlying58
  have HR0_0 := Aside0.mk hr0_0
  have HC0_0 := Aside0.mk hc0_0
  clear hr0_0 hc0_0
  have HR0_1 := Aside0.mk hr0_1
  have HC0_1 := Aside0.mk hc0_1
  clear hr0_1 hc0_1
  have HB := Aside0.mk (Below.refl w.heap.size w)
  have H : (some (IntKind.u64.wrap ((l0_1.length : Int)))) = some r := h
  clear h
  obtain rfl := Option.some.inj H
  go_enter Try.func34, Try.ntmps34
  go_wp2_with (first | ((with_reducible refine gate_dst (N := 1) rfl ?_); refine box_event ?hg (N := 1) ?hd (cs := #[.slice A0_0 l0_0.length c0_0, .slice A0_1 l0_1.length c0_1, .int .u64 a0_2, .int .u64 a0_3]) (t := 58) ?hr ?_; (case hd => rfl); (case hg => rfl); (case hr => first | (go_simp; done) | (go_simp; rfl)); intro gb247 hg w2 hbox hb; have n0_ := Aside0.mk (below_step (by repeat (first | (with_reducible first | exact HB.out | apply below_alloc | apply pw_below_drewN | apply below_drew1) | exact HB.out)) hb); have n1_ := Aside0.mk (hbox); have n2_ := Aside0.mk ((by rw [hg]; exact (below_size (by repeat (first | (with_reducible first | exact HB.out | apply below_alloc | apply pw_below_drewN | apply below_drew1) | exact HB.out))) : w.heap.size ≤ gb247)); have n3_ := Aside0.mk ((by rw [hg]; exact (below_size (by repeat (first | (with_reducible first | exact HB.out | apply below_alloc | apply pw_below_drewN | apply below_drew1) | exact HB.out))) : w.heap.size ≤ gb247)); clear HB; have HB := n0_; have BK247 := n1_; have GW247 := n2_; have GE247 := n3_; clear n0_ n1_ n2_ n3_; clear hb hbox hg; have hcz3_0 : w2.cell? ⟨gb247, 0, none⟩ = some (.slice A0_0 l0_0.length c0_0) := (blk_cell BK247.out 0).trans rfl; have hcz3_1 : w2.cell? ⟨gb247, 1, none⟩ = some (.slice A0_1 l0_1.length c0_1) := (blk_cell BK247.out 1).trans rfl; have hcz3_2 : w2.cell? ⟨gb247, 2, none⟩ = some (.int .u64 a0_2) := (blk_cell BK247.out 2).trans rfl; have hcz3_3 : w2.cell? ⟨gb247, 3, none⟩ = some (.int .u64 a0_3) := (blk_cell BK247.out 3).trans rfl; have hfz3_0 := blk_frozen BK247.out 0; have hfz3_1 := blk_frozen BK247.out 1; have hfz3_2 := blk_frozen BK247.out 2; have hfz3_3 := blk_frozen BK247.out 3))
  go_ret
  exact ⟨by first | rfl | (simp [errW_none, errW_some] <;> rfl) | (simp [*, errW_none, errW_some] <;> rfl), by repeat (first | (with_reducible first | exact HB.out | apply below_alloc | apply pw_below_drewN | apply below_drew1 | refine below_set ?_ GE247.out) | exact HB.out)⟩

def marginaliaref23_find.l0 : Nat → Int → Int → List (S42) → List ByteArray → Int → Int → Option (Int)
  | 0, _, _, _, _, _, _ => none
  | k + 1, x1, x5, x284000, x284001, x284002, x284003 => if x5 < (x284000.length : Int) then (if 0 ≤ x5 then (if ((rd_T42 x284000 x5).f0) = x1 then (some x5) else (marginaliaref23_find.l0 k x1 (wrap64 (x5 + 1)) x284000 x284001 x284002 x284003)) else (none)) else (some (-1))
def marginaliaref23_find.f (k : Nat) (l0_0 : List (S42)) (l0_1 : List ByteArray) (a0_2 : Int) (a0_3 : Int) (a1 : Int) : Option (Int) := marginaliaref23_find.l0 k a1 0 l0_0 l0_1 a0_2 a0_3
set_option maxHeartbeats 8000000 in
set_option maxRecDepth 100000 in
theorem marginaliaref23_find.calls (k : Nat) (A0_0 : Option Addr) (c0_0 : Nat) (l0_0 : List (S42)) (A0_1 : Option Addr) (c0_1 : Nat) (l0_1 : List ByteArray) (a0_2 : Int) (a0_3 : Int) (a1 : Int) (r : Int) (w : World) (hr0_0 : Kd.C k42 w A0_0 l0_0.length l0_0) (hc0_0 : l0_0.length ≤ c0_0) (hr0_1 : Kd.C Kd.string w A0_1 l0_1.length l0_1) (hc0_1 : l0_1.length ≤ c0_1) (h : marginaliaref23_find.f k l0_0 l0_1 a0_2 a0_3 a1 = some r) :
    Calls Try.prog 47 #[.agg #[.slice A0_0 l0_0.length c0_0, .slice A0_1 l0_1.length c0_1, .int .u64 a0_2, .int .u64 a0_3], .int .u64 a1] w fun e w' => e = .returned (.int .i64 r) ∧ Below w.heap.size w w' := by
  have hu58 := Try.underlying58
  have HR0_0 := Aside0.mk hr0_0
  have HC0_0 := Aside0.mk hc0_0
  clear hr0_0 hc0_0
  have HR0_1 := Aside0.mk hr0_1
  have HC0_1 := Aside0.mk hc0_1
  clear hr0_1 hc0_1
  have HB := Aside0.mk (Below.refl w.heap.size w)
  have H : (marginaliaref23_find.l0 k a1 0 l0_0 l0_1 a0_2 a0_3) = some r := h
  clear h
  have H' := Aside0.mk H
  clear H
  go_enter Try.func47, Try.ntmps47
  go_wp2_with (first | ((with_reducible refine gate_dst (N := 2) rfl ?_); refine box_event ?hg (N := 2) ?hd (cs := #[.slice A0_0 l0_0.length c0_0, .slice A0_1 l0_1.length c0_1, .int .u64 a0_2, .int .u64 a0_3]) (t := 58) ?hr ?_; (case hd => rfl); (case hg => rfl); (case hr => first | (go_simp; done) | (go_simp; rfl)); intro gb283 hg w3 hbox hb; have n0_ := Aside0.mk (below_step (by repeat (first | (with_reducible first | exact HB.out | apply below_alloc | apply pw_below_drewN | apply below_drew1) | exact HB.out)) hb); have n1_ := Aside0.mk (hbox); have n2_ := Aside0.mk ((by rw [hg]; exact (below_size (by repeat (first | (with_reducible first | exact HB.out | apply below_alloc | apply pw_below_drewN | apply below_drew1) | exact HB.out))) : w.heap.size ≤ gb283)); have n3_ := Aside0.mk ((by rw [hg]; exact (below_size (by repeat (first | (with_reducible first | exact HB.out | apply below_alloc | apply pw_below_drewN | apply below_drew1) | exact HB.out))) : w.heap.size ≤ gb283)); clear HB; have HB := n0_; have BK283 := n1_; have GW283 := n2_; have GE283 := n3_; clear n0_ n1_ n2_ n3_; clear hb hbox hg))
  go_loopg [5] k (fun kq v5 w' => ∃ (x5_1 : Int), v5 = .int .i64 x5_1 ∧ Aside0 (marginaliaref23_find.l0 kq a1 x5_1 l0_0 l0_1 a0_2 a0_3 = some r) ∧ Aside0 (kq ≤ k) ∧ Aside0 (w'.heap[gb283]? = some (.cells #[(.slice A0_0 l0_0.length c0_0), (.slice A0_1 l0_1.length c0_1), .int .u64 a0_2, .int .u64 a0_3] 58 (0, 0))) ∧ Aside0 (Below w.heap.size w w'))
  case atStart => exact ⟨(0), (by first | rfl | (simp; done) | (simp [*]; done)), H', ⟨Nat.le_refl _⟩, ⟨by (with_reducible repeat (first | refine blk_drewN ?_ _ | refine blk_drew ?_ | refine blk_alloc ?_ _)); exact BK283.out⟩, ⟨by repeat (first | (with_reducible first | exact HB.out | apply below_alloc | apply pw_below_drewN | apply below_drew1 | refine below_set ?_ GE283.out) | exact HB.out)⟩⟩
  case round =>
    clear H'
    try clear p2
    obtain ⟨x5_1, rfl, HA, HK1, BK283, HB⟩ := hrel
    cases gk with
    | zero => exact absurd HA.out (by simp [marginaliaref23_find.l0])
    | succ k1 =>
      have H := HA.out
      clear HA
      simp only [marginaliaref23_find.l0] at H
      by_cases c4 : x5_1 < (l0_0.length : Int)
      · rw [if_pos c4] at H
        have c4b0 : decide (x5_1 < (l0_0.length : Int)) = true := decide_eq_true c4
        clear c4
        by_cases c5 : 0 ≤ x5_1
        · rw [if_pos c5] at H
          have c5b0 : decide (0 ≤ x5_1) = true := decide_eq_true c5
          clear c5
          by_cases c6 : ((rd_T42 l0_0 x5_1).f0) = a1
          · rw [if_pos c6] at H
            have c6b0 : (((rd_T42 l0_0 x5_1).f0) == a1) = true := beq_iff_eq.mpr c6
            have c6b1 : (((rd_T42 l0_0 x5_1).f0) != a1) = false := bne_eq_false_iff_eq.mpr c6
            clear c6
            obtain rfl := Option.some.inj H
            have hcz7_0 : wr.cell? ⟨gb283, 0, none⟩ = some (.slice A0_0 l0_0.length c0_0) := (blk_cell BK283.out 0).trans rfl
            have hcz7_1 : wr.cell? ⟨gb283, 1, none⟩ = some (.slice A0_1 l0_1.length c0_1) := (blk_cell BK283.out 1).trans rfl
            have hcz7_2 : wr.cell? ⟨gb283, 2, none⟩ = some (.int .u64 a0_2) := (blk_cell BK283.out 2).trans rfl
            have hcz7_3 : wr.cell? ⟨gb283, 3, none⟩ = some (.int .u64 a0_3) := (blk_cell BK283.out 3).trans rfl
            have hfz7_0 := blk_frozen BK283.out 0
            have hfz7_1 := blk_frozen BK283.out 1
            have hfz7_2 := blk_frozen BK283.out 2
            have hfz7_3 := blk_frozen BK283.out 3
            have p284 : 0 ≤ (x5_1 : Int) := of_decide_eq_true (by first | (with_reducible assumption) | assumption)
            have q284 : x5_1 < (l0_0.length : Int) := of_decide_eq_true (by first | (with_reducible assumption) | assumption)
            obtain ⟨ad284, e284, hx284_0, hx284_1, hx284_2⟩ := at_T42 HR0_0.out x5_1 p284 q284
            cases e284
            replace hx284_0 := (HB.out.cell (World.block_lt_of_cell? w _ hx284_0)).trans hx284_0
            replace hx284_1 := (HB.out.cell (World.block_lt_of_cell? w _ hx284_1)).trans hx284_1
            replace hx284_2 := (HB.out.cell (World.block_lt_of_cell? w _ hx284_2)).trans hx284_2
            replace p284 := eq_true p284
            replace q284 := eq_true q284
            go_wp2
            go_ret
            exact ⟨by first | rfl | (simp [errW_none, errW_some] <;> rfl) | (simp [*, errW_none, errW_some] <;> rfl), by repeat (first | (with_reducible first | exact HB.out | apply below_alloc | apply pw_below_drewN | apply below_drew1 | refine below_set ?_ GE283.out) | exact HB.out)⟩
          · rw [if_neg c6] at H
            have c6b0 : (((rd_T42 l0_0 x5_1).f0) == a1) = false := beq_eq_false_iff_ne.mpr c6
            have c6b1 : (((rd_T42 l0_0 x5_1).f0) != a1) = true := bne_iff_ne.mpr c6
            have H' := Aside0.mk H
            clear H
            have hcz8_0 : wr.cell? ⟨gb283, 0, none⟩ = some (.slice A0_0 l0_0.length c0_0) := (blk_cell BK283.out 0).trans rfl
            have hcz8_1 : wr.cell? ⟨gb283, 1, none⟩ = some (.slice A0_1 l0_1.length c0_1) := (blk_cell BK283.out 1).trans rfl
            have hcz8_2 : wr.cell? ⟨gb283, 2, none⟩ = some (.int .u64 a0_2) := (blk_cell BK283.out 2).trans rfl
            have hcz8_3 : wr.cell? ⟨gb283, 3, none⟩ = some (.int .u64 a0_3) := (blk_cell BK283.out 3).trans rfl
            have hfz8_0 := blk_frozen BK283.out 0
            have hfz8_1 := blk_frozen BK283.out 1
            have hfz8_2 := blk_frozen BK283.out 2
            have hfz8_3 := blk_frozen BK283.out 3
            have p284 : 0 ≤ (x5_1 : Int) := of_decide_eq_true (by first | (with_reducible assumption) | assumption)
            have q284 : x5_1 < (l0_0.length : Int) := of_decide_eq_true (by first | (with_reducible assumption) | assumption)
            obtain ⟨ad284, e284, hx284_0, hx284_1, hx284_2⟩ := at_T42 HR0_0.out x5_1 p284 q284
            cases e284
            replace hx284_0 := (HB.out.cell (World.block_lt_of_cell? w _ hx284_0)).trans hx284_0
            replace hx284_1 := (HB.out.cell (World.block_lt_of_cell? w _ hx284_1)).trans hx284_1
            replace hx284_2 := (HB.out.cell (World.block_lt_of_cell? w _ hx284_2)).trans hx284_2
            replace p284 := eq_true p284
            replace q284 := eq_true q284
            go_wp2
            go_roundg k1
            case measure => have := HK1.out; omega
            case rel => exact ⟨(wrap64 (x5_1 + 1)), (by first | rfl | (simp; done) | (simp [*]; done)), H', ⟨by have := HK1.out; omega⟩, ⟨by (with_reducible repeat (first | refine blk_drewN ?_ _ | refine blk_drew ?_ | refine blk_alloc ?_ _)); exact BK283.out⟩, ⟨by repeat (first | (with_reducible first | exact HB.out | apply below_alloc | apply pw_below_drewN | apply below_drew1 | refine below_set ?_ GE283.out) | exact HB.out)⟩⟩
        · rw [if_neg c5] at H
          exact absurd H (by simp)
      · rw [if_neg c4] at H
        have c4b0 : decide (x5_1 < (l0_0.length : Int)) = false := decide_eq_false c4
        clear c4
        obtain rfl := Option.some.inj H
        have hcz9_0 : wr.cell? ⟨gb283, 0, none⟩ = some (.slice A0_0 l0_0.length c0_0) := (blk_cell BK283.out 0).trans rfl
        have hcz9_1 : wr.cell? ⟨gb283, 1, none⟩ = some (.slice A0_1 l0_1.length c0_1) := (blk_cell BK283.out 1).trans rfl
        have hcz9_2 : wr.cell? ⟨gb283, 2, none⟩ = some (.int .u64 a0_2) := (blk_cell BK283.out 2).trans rfl
        have hcz9_3 : wr.cell? ⟨gb283, 3, none⟩ = some (.int .u64 a0_3) := (blk_cell BK283.out 3).trans rfl
        have hfz9_0 := blk_frozen BK283.out 0
        have hfz9_1 := blk_frozen BK283.out 1
        have hfz9_2 := blk_frozen BK283.out 2
        have hfz9_3 := blk_frozen BK283.out 3
        go_wp2
        go_ret
        exact ⟨by first | rfl | (simp [errW_none, errW_some] <;> rfl) | (simp [*, errW_none, errW_some] <;> rfl), by repeat (first | (with_reducible first | exact HB.out | apply below_alloc | apply pw_below_drewN | apply below_drew1 | refine below_set ?_ GE283.out) | exact HB.out)⟩

def marginaliaref23_Get.f (k : Nat) (l0_0 : List (S42)) (l0_1 : List ByteArray) (a0_2 : Int) (a0_3 : Int) (a1 : Int) : Option (Int × Int × ByteArray × Bool) := (marginaliaref23_find.f k l0_0 l0_1 a0_2 a0_3 a1).bind fun t287 => (if t287 < 0 then (some (0, 0, (⟨#[]⟩ : ByteArray), false)) else (if 0 ≤ t287 then (if t287 < (l0_0.length : Int) then (some ((rd_T42 l0_0 t287).f0, (rd_T42 l0_0 t287).f1, (rd_T42 l0_0 t287).f2, true)) else (none)) else (none)))
set_option maxHeartbeats 8000000 in
set_option maxRecDepth 100000 in
theorem marginaliaref23_Get.calls (k : Nat) (A0_0 : Option Addr) (c0_0 : Nat) (l0_0 : List (S42)) (A0_1 : Option Addr) (c0_1 : Nat) (l0_1 : List ByteArray) (a0_2 : Int) (a0_3 : Int) (a1 : Int) (r1 : Int) (r2 : Int) (r3 : ByteArray) (r4 : Bool) (w : World) (hr0_0 : Kd.C k42 w A0_0 l0_0.length l0_0) (hc0_0 : l0_0.length ≤ c0_0) (hr0_1 : Kd.C Kd.string w A0_1 l0_1.length l0_1) (hc0_1 : l0_1.length ≤ c0_1) (h : marginaliaref23_Get.f k l0_0 l0_1 a0_2 a0_3 a1 = some (r1, r2, r3, r4)) :
    Calls Try.prog 36 #[.agg #[.slice A0_0 l0_0.length c0_0, .slice A0_1 l0_1.length c0_1, .int .u64 a0_2, .int .u64 a0_3], .int .u64 a1] w fun e w' => e = .returned (.tuple #[.agg #[.int .u64 r1, .int .u64 r2, .string r3], .bool r4]) ∧ Below w.heap.size w w' := by
  have hu58 := Try.underlying58
  have hu42 := Try.underlying42
  have HR0_0 := Aside0.mk hr0_0
  have HC0_0 := Aside0.mk hc0_0
  clear hr0_0 hc0_0
  have HR0_1 := Aside0.mk hr0_1
  have HC0_1 := Aside0.mk hc0_1
  clear hr0_1 hc0_1
  have HB := Aside0.mk (Below.refl w.heap.size w)
  have H : ((marginaliaref23_find.f k l0_0 l0_1 a0_2 a0_3 a1).bind fun t287 => (if t287 < 0 then (some (0, 0, (⟨#[]⟩ : ByteArray), false)) else (if 0 ≤ t287 then (if t287 < (l0_0.length : Int) then (some ((rd_T42 l0_0 t287).f0, (rd_T42 l0_0 t287).f1, (rd_T42 l0_0 t287).f2, true)) else (none)) else (none)))) = some (r1, r2, r3, r4) := h
  clear h
  replace H := Option.bind_eq_some_iff.mp H
  obtain ⟨t287, A30, H⟩ := H
  replace H : (if t287 < 0 then (some (0, 0, (⟨#[]⟩ : ByteArray), false)) else (if 0 ≤ t287 then (if t287 < (l0_0.length : Int) then (some ((rd_T42 l0_0 t287).f0, (rd_T42 l0_0 t287).f1, (rd_T42 l0_0 t287).f2, true)) else (none)) else (none))) = some (r1, r2, r3, r4) := H
  have A3 := Aside0.mk A30
  clear A30
  by_cases c4 : t287 < 0
  · rw [if_pos c4] at H
    have c4b0 : decide (t287 < 0) = true := decide_eq_true c4
    clear c4
    simp only [Option.some.injEq, Prod.mk.injEq] at H
    obtain ⟨rfl, rfl, rfl, rfl⟩ := H
    go_enter Try.func36, Try.ntmps36
    go_wp2_with (first | ((with_reducible refine gate_dst (N := 2) rfl ?_); refine box_event ?hg (N := 2) ?hd (cs := #[.slice A0_0 l0_0.length c0_0, .slice A0_1 l0_1.length c0_1, .int .u64 a0_2, .int .u64 a0_3]) (t := 58) ?hr ?_; (case hd => rfl); (case hg => rfl); (case hr => first | (go_simp; done) | (go_simp; rfl)); intro gb285 hg w5 hbox hb; have n0_ := Aside0.mk (below_step (by repeat (first | (with_reducible first | exact HB.out | apply below_alloc | apply pw_below_drewN | apply below_drew1) | exact HB.out)) hb); have n1_ := Aside0.mk (hbox); have n2_ := Aside0.mk ((by rw [hg]; exact (below_size (by repeat (first | (with_reducible first | exact HB.out | apply below_alloc | apply pw_below_drewN | apply below_drew1) | exact HB.out))) : w.heap.size ≤ gb285)); have n3_ := Aside0.mk ((by rw [hg]; exact (below_size (by repeat (first | (with_reducible first | exact HB.out | apply below_alloc | apply pw_below_drewN | apply below_drew1) | exact HB.out))) : w.heap.size ≤ gb285)); clear HB; have HB := n0_; have BK285 := n1_; have GW285 := n2_; have GE285 := n3_; clear n0_ n1_ n2_ n3_; clear hb hbox hg) | ((with_reducible refine gate_dst (N := 4) rfl ?_); refine box_event ?hg (N := 4) ?hd (cs := #[.int .u64 0, .int .u64 0, .string (⟨#[]⟩ : ByteArray)]) (t := 42) ?hr ?_; (case hd => rfl); (case hg => rfl); (case hr => first | (go_simp; done) | (go_simp; rfl)); intro gb286 hg w6 hbox hb; have n0_ := Aside0.mk (blk_below (g := gb285) (o := .cells #[.slice A0_0 l0_0.length c0_0, .slice A0_1 l0_1.length c0_1, .int .u64 a0_2, .int .u64 a0_3] 58 (0, 0)) (by (with_reducible repeat (first | refine blk_drewN ?_ _ | refine blk_drew ?_ | refine blk_alloc ?_ _)); exact BK285.out) hb); have n1_ := Aside0.mk (below_step (by repeat (first | (with_reducible first | exact HB.out | apply below_alloc | apply pw_below_drewN | apply below_drew1 | refine below_set ?_ GE285.out) | exact HB.out)) hb); have n2_ := Aside0.mk (hbox); have n3_ := Aside0.mk ((by rw [hg]; exact (below_size (by repeat (first | (with_reducible first | exact HB.out | apply below_alloc | apply pw_below_drewN | apply below_drew1 | refine below_set ?_ GE285.out) | exact HB.out))) : w.heap.size ≤ gb286)); have n4_ := Aside0.mk ((by rw [hg]; exact (below_size (by repeat (first | (with_reducible first | exact HB.out | apply below_alloc | apply pw_below_drewN | apply below_drew1 | refine below_set ?_ GE285.out) | exact HB.out))) : w.heap.size ≤ gb286)); have n5_ := Aside0.mk ((by rw [hg]; exact Nat.ne_of_lt (blk_lt (g := gb285) (o := .cells #[.slice A0_0 l0_0.length c0_0, .slice A0_1 l0_1.length c0_1, .int .u64 a0_2, .int .u64 a0_3] 58 (0, 0)) (by (with_reducible repeat (first | refine blk_drewN ?_ _ | refine blk_drew ?_ | refine blk_alloc ?_ _)); exact BK285.out)) : gb285 ≠ gb286)); have n6_ := Aside0.mk ((by rw [hg]; exact Nat.ne_of_gt (blk_lt (g := gb285) (o := .cells #[.slice A0_0 l0_0.length c0_0, .slice A0_1 l0_1.length c0_1, .int .u64 a0_2, .int .u64 a0_3] 58 (0, 0)) (by (with_reducible repeat (first | refine blk_drewN ?_ _ | refine blk_drew ?_ | refine blk_alloc ?_ _)); exact BK285.out)) : gb286 ≠ gb285)); clear BK285; clear HB; have BK285 := n0_; have HB := n1_; have BK286 := n2_; have GW286 := n3_; have GE286 := n4_; have NB285_286 := n5_; have NB286_285 := n6_; clear n0_ n1_ n2_ n3_ n4_ n5_ n6_; clear hb hbox hg; have hnb7 := NB285_286.out; have hnc7 := NB286_285.out; have hcz8_0 : w6.cell? ⟨gb285, 0, none⟩ = some (.slice A0_0 l0_0.length c0_0) := (blk_cell BK285.out 0).trans rfl; have hcz8_1 : w6.cell? ⟨gb285, 1, none⟩ = some (.slice A0_1 l0_1.length c0_1) := (blk_cell BK285.out 1).trans rfl; have hcz8_2 : w6.cell? ⟨gb285, 2, none⟩ = some (.int .u64 a0_2) := (blk_cell BK285.out 2).trans rfl; have hcz8_3 : w6.cell? ⟨gb285, 3, none⟩ = some (.int .u64 a0_3) := (blk_cell BK285.out 3).trans rfl; have hfz8_0 := blk_frozen BK285.out 0; have hfz8_1 := blk_frozen BK285.out 1; have hfz8_2 := blk_frozen BK285.out 2; have hfz8_3 := blk_frozen BK285.out 3) | ((with_reducible refine gate_callee (f := 47) rfl ?_); refine goesL_ (some 9) rfl rfl Try.func47 (by kernel_rfl) rfl #[.agg #[.slice A0_0 l0_0.length c0_0, .slice A0_1 l0_1.length c0_1, .int .u64 a0_2, .int .u64 a0_3], .int .u64 a1] rfl (by (try simp only [List.map_toArray, List.map_cons, List.map_nil]); first | done | rfl | (simp only [List.length_drop, List.length_take]; rfl)) ?_; (with_reducible refine (marginaliaref23_find.calls k _ _ l0_0 _ _ l0_1 a0_2 a0_3 a1 t287 _ ?side1 ?side2 ?side3 ?side4 A3.out).mono ?_); (case side1 => repeat (first | exact (Kd.C_below HR0_0.out HB.out) | (with_reducible refine Kd.C_alloc ?_ _) | (with_reducible refine Kd.C_drewN ?_ _) | (with_reducible refine Kd.C_drew ?_))); (case side2 => exact HC0_0.out); (case side3 => repeat (first | exact (Kd.C_below HR0_1.out HB.out) | (with_reducible refine Kd.C_alloc ?_ _) | (with_reducible refine Kd.C_drewN ?_ _) | (with_reducible refine Kd.C_drew ?_))); (case side4 => exact HC0_1.out); rintro e w9 ⟨rfl, hb⟩; refine ⟨_, rfl, ?_⟩; have n0_ := Aside0.mk (blk_below (g := gb285) (o := .cells #[.slice A0_0 l0_0.length c0_0, .slice A0_1 l0_1.length c0_1, .int .u64 a0_2, .int .u64 a0_3] 58 (0, 0)) (by (with_reducible repeat (first | refine blk_drewN ?_ _ | refine blk_drew ?_ | refine blk_alloc ?_ _)); exact BK285.out) hb); have n1_ := Aside0.mk (blk_below (g := gb286) (o := .cells #[.int .u64 0, .int .u64 0, .string (⟨#[]⟩ : ByteArray)] 42 (0, 0)) (by (with_reducible repeat (first | refine blk_drewN ?_ _ | refine blk_drew ?_ | refine blk_alloc ?_ _)); exact BK286.out) hb); have n2_ := Aside0.mk (below_step (by repeat (first | (with_reducible first | exact HB.out | apply below_alloc | apply pw_below_drewN | apply below_drew1 | refine below_set ?_ GE285.out | refine below_set ?_ GE286.out) | exact HB.out)) hb); clear BK285; clear BK286; clear HB; have BK285 := n0_; have BK286 := n1_; have HB := n2_; clear n0_ n1_ n2_; (try clear hb); (try clear hb2); (try clear hk); (try clear hi); have hcz10_0 : w9.cell? ⟨gb286, 0, none⟩ = some (.int .u64 0) := (blk_cell BK286.out 0).trans rfl; have hcz10_1 : w9.cell? ⟨gb286, 1, none⟩ = some (.int .u64 0) := (blk_cell BK286.out 1).trans rfl; have hcz10_2 : w9.cell? ⟨gb286, 2, none⟩ = some (.string (⟨#[]⟩ : ByteArray)) := (blk_cell BK286.out 2).trans rfl; have hfz10_0 := blk_frozen BK286.out 0; have hfz10_1 := blk_frozen BK286.out 1; have hfz10_2 := blk_frozen BK286.out 2))
    refine bodyPost_ret (results_ct rfl _ _ gb286 42 #[.int .u64 0, .int .u64 0, .string (⟨#[]⟩ : ByteArray)] (0, 0) _ rfl (by (with_reducible repeat (first | refine blk_drewN ?_ _ | refine blk_drew ?_ | refine blk_alloc ?_ _)); refine blk_put (cs := #[.int .u64 0, .int .u64 0, .string (⟨#[]⟩ : ByteArray)]) ?_ 2 _ rfl; (with_reducible repeat (first | refine blk_drewN ?_ _ | refine blk_drew ?_ | refine blk_alloc ?_ _)); refine blk_put (cs := #[.int .u64 0, .int .u64 0, .string (⟨#[]⟩ : ByteArray)]) ?_ 1 _ rfl; (with_reducible repeat (first | refine blk_drewN ?_ _ | refine blk_drew ?_ | refine blk_alloc ?_ _)); refine blk_put (cs := #[.int .u64 0, .int .u64 0, .string (⟨#[]⟩ : ByteArray)]) ?_ 0 _ rfl; (with_reducible repeat (first | refine blk_drewN ?_ _ | refine blk_drew ?_ | refine blk_alloc ?_ _)); exact BK286.out) Try.underlying42 rfl (by kernel_rfl)) rfl ?_
    exact ⟨by first | rfl | (simp [errW_none, errW_some] <;> rfl) | (simp [*, errW_none, errW_some] <;> rfl), by repeat (first | (with_reducible first | exact HB.out | apply below_alloc | apply pw_below_drewN | apply below_drew1 | refine below_set ?_ GE285.out | refine below_set ?_ GE286.out) | exact HB.out)⟩
  · rw [if_neg c4] at H
    have c4b0 : decide (t287 < 0) = false := decide_eq_false c4
    clear c4
    by_cases c11 : 0 ≤ t287
    · rw [if_pos c11] at H
      have c11b0 : decide (0 ≤ t287) = true := decide_eq_true c11
      clear c11
      by_cases c12 : t287 < (l0_0.length : Int)
      · rw [if_pos c12] at H
        have c12b0 : decide (t287 < (l0_0.length : Int)) = true := decide_eq_true c12
        clear c12
        simp only [Option.some.injEq, Prod.mk.injEq] at H
        obtain ⟨rfl, rfl, rfl, rfl⟩ := H
        go_enter Try.func36, Try.ntmps36
        go_wp2_with (first | ((with_reducible refine gate_dst (N := 2) rfl ?_); refine box_event ?hg (N := 2) ?hd (cs := #[.slice A0_0 l0_0.length c0_0, .slice A0_1 l0_1.length c0_1, .int .u64 a0_2, .int .u64 a0_3]) (t := 58) ?hr ?_; (case hd => rfl); (case hg => rfl); (case hr => first | (go_simp; done) | (go_simp; rfl)); intro gb285 hg w13 hbox hb; have n0_ := Aside0.mk (below_step (by repeat (first | (with_reducible first | exact HB.out | apply below_alloc | apply pw_below_drewN | apply below_drew1) | exact HB.out)) hb); have n1_ := Aside0.mk (hbox); have n2_ := Aside0.mk ((by rw [hg]; exact (below_size (by repeat (first | (with_reducible first | exact HB.out | apply below_alloc | apply pw_below_drewN | apply below_drew1) | exact HB.out))) : w.heap.size ≤ gb285)); have n3_ := Aside0.mk ((by rw [hg]; exact (below_size (by repeat (first | (with_reducible first | exact HB.out | apply below_alloc | apply pw_below_drewN | apply below_drew1) | exact HB.out))) : w.heap.size ≤ gb285)); clear HB; have HB := n0_; have BK285 := n1_; have GW285 := n2_; have GE285 := n3_; clear n0_ n1_ n2_ n3_; clear hb hbox hg) | ((with_reducible refine gate_dst (N := 4) rfl ?_); refine box_event ?hg (N := 4) ?hd (cs := #[.int .u64 0, .int .u64 0, .string (⟨#[]⟩ : ByteArray)]) (t := 42) ?hr ?_; (case hd => rfl); (case hg => rfl); (case hr => first | (go_simp; done) | (go_simp; rfl)); intro gb286 hg w14 hbox hb; have n0_ := Aside0.mk (blk_below (g := gb285) (o := .cells #[.slice A0_0 l0_0.length c0_0, .slice A0_1 l0_1.length c0_1, .int .u64 a0_2, .int .u64 a0_3] 58 (0, 0)) (by (with_reducible repeat (first | refine blk_drewN ?_ _ | refine blk_drew ?_ | refine blk_alloc ?_ _)); exact BK285.out) hb); have n1_ := Aside0.mk (below_step (by repeat (first | (with_reducible first | exact HB.out | apply below_alloc | apply pw_below_drewN | apply below_drew1 | refine below_set ?_ GE285.out) | exact HB.out)) hb); have n2_ := Aside0.mk (hbox); have n3_ := Aside0.mk ((by rw [hg]; exact (below_size (by repeat (first | (with_reducible first | exact HB.out | apply below_alloc | apply pw_below_drewN | apply below_drew1 | refine below_set ?_ GE285.out) | exact HB.out))) : w.heap.size ≤ gb286)); have n4_ := Aside0.mk ((by rw [hg]; exact (below_size (by repeat (first | (with_reducible first | exact HB.out | apply below_alloc | apply pw_below_drewN | apply below_drew1 | refine below_set ?_ GE285.out) | exact HB.out))) : w.heap.size ≤ gb286)); have n5_ := Aside0.mk ((by rw [hg]; exact Nat.ne_of_lt (blk_lt (g := gb285) (o := .cells #[.slice A0_0 l0_0.length c0_0, .slice A0_1 l0_1.length c0_1, .int .u64 a0_2, .int .u64 a0_3] 58 (0, 0)) (by (with_reducible repeat (first | refine blk_drewN ?_ _ | refine blk_drew ?_ | refine blk_alloc ?_ _)); exact BK285.out)) : gb285 ≠ gb286)); have n6_ := Aside0.mk ((by rw [hg]; exact Nat.ne_of_gt (blk_lt (g := gb285) (o := .cells #[.slice A0_0 l0_0.length c0_0, .slice A0_1 l0_1.length c0_1, .int .u64 a0_2, .int .u64 a0_3] 58 (0, 0)) (by (with_reducible repeat (first | refine blk_drewN ?_ _ | refine blk_drew ?_ | refine blk_alloc ?_ _)); exact BK285.out)) : gb286 ≠ gb285)); clear BK285; clear HB; have BK285 := n0_; have HB := n1_; have BK286 := n2_; have GW286 := n3_; have GE286 := n4_; have NB285_286 := n5_; have NB286_285 := n6_; clear n0_ n1_ n2_ n3_ n4_ n5_ n6_; clear hb hbox hg; have hnb15 := NB285_286.out; have hnc15 := NB286_285.out; have hcz16_0 : w14.cell? ⟨gb285, 0, none⟩ = some (.slice A0_0 l0_0.length c0_0) := (blk_cell BK285.out 0).trans rfl; have hcz16_1 : w14.cell? ⟨gb285, 1, none⟩ = some (.slice A0_1 l0_1.length c0_1) := (blk_cell BK285.out 1).trans rfl; have hcz16_2 : w14.cell? ⟨gb285, 2, none⟩ = some (.int .u64 a0_2) := (blk_cell BK285.out 2).trans rfl; have hcz16_3 : w14.cell? ⟨gb285, 3, none⟩ = some (.int .u64 a0_3) := (blk_cell BK285.out 3).trans rfl; have hfz16_0 := blk_frozen BK285.out 0; have hfz16_1 := blk_frozen BK285.out 1; have hfz16_2 := blk_frozen BK285.out 2; have hfz16_3 := blk_frozen BK285.out 3) | ((with_reducible refine gate_callee (f := 47) rfl ?_); refine goesL_ (some 9) rfl rfl Try.func47 (by kernel_rfl) rfl #[.agg #[.slice A0_0 l0_0.length c0_0, .slice A0_1 l0_1.length c0_1, .int .u64 a0_2, .int .u64 a0_3], .int .u64 a1] rfl (by (try simp only [List.map_toArray, List.map_cons, List.map_nil]); first | done | rfl | (simp only [List.length_drop, List.length_take]; rfl)) ?_; (with_reducible refine (marginaliaref23_find.calls k _ _ l0_0 _ _ l0_1 a0_2 a0_3 a1 t287 _ ?side1 ?side2 ?side3 ?side4 A3.out).mono ?_); (case side1 => repeat (first | exact (Kd.C_below HR0_0.out HB.out) | (with_reducible refine Kd.C_alloc ?_ _) | (with_reducible refine Kd.C_drewN ?_ _) | (with_reducible refine Kd.C_drew ?_))); (case side2 => exact HC0_0.out); (case side3 => repeat (first | exact (Kd.C_below HR0_1.out HB.out) | (with_reducible refine Kd.C_alloc ?_ _) | (with_reducible refine Kd.C_drewN ?_ _) | (with_reducible refine Kd.C_drew ?_))); (case side4 => exact HC0_1.out); rintro e w17 ⟨rfl, hb⟩; refine ⟨_, rfl, ?_⟩; have n0_ := Aside0.mk (blk_below (g := gb285) (o := .cells #[.slice A0_0 l0_0.length c0_0, .slice A0_1 l0_1.length c0_1, .int .u64 a0_2, .int .u64 a0_3] 58 (0, 0)) (by (with_reducible repeat (first | refine blk_drewN ?_ _ | refine blk_drew ?_ | refine blk_alloc ?_ _)); exact BK285.out) hb); have n1_ := Aside0.mk (blk_below (g := gb286) (o := .cells #[.int .u64 0, .int .u64 0, .string (⟨#[]⟩ : ByteArray)] 42 (0, 0)) (by (with_reducible repeat (first | refine blk_drewN ?_ _ | refine blk_drew ?_ | refine blk_alloc ?_ _)); exact BK286.out) hb); have n2_ := Aside0.mk (below_step (by repeat (first | (with_reducible first | exact HB.out | apply below_alloc | apply pw_below_drewN | apply below_drew1 | refine below_set ?_ GE285.out | refine below_set ?_ GE286.out) | exact HB.out)) hb); clear BK285; clear BK286; clear HB; have BK285 := n0_; have BK286 := n1_; have HB := n2_; clear n0_ n1_ n2_; (try clear hb); (try clear hb2); (try clear hk); (try clear hi); have hcz18_0 : w17.cell? ⟨gb285, 0, none⟩ = some (.slice A0_0 l0_0.length c0_0) := (blk_cell BK285.out 0).trans rfl; have hcz18_1 : w17.cell? ⟨gb285, 1, none⟩ = some (.slice A0_1 l0_1.length c0_1) := (blk_cell BK285.out 1).trans rfl; have hcz18_2 : w17.cell? ⟨gb285, 2, none⟩ = some (.int .u64 a0_2) := (blk_cell BK285.out 2).trans rfl; have hcz18_3 : w17.cell? ⟨gb285, 3, none⟩ = some (.int .u64 a0_3) := (blk_cell BK285.out 3).trans rfl; have hfz18_0 := blk_frozen BK285.out 0; have hfz18_1 := blk_frozen BK285.out 1; have hfz18_2 := blk_frozen BK285.out 2; have hfz18_3 := blk_frozen BK285.out 3; have p288 : 0 ≤ (t287 : Int) := of_decide_eq_true (by first | (with_reducible assumption) | assumption); have q288 : t287 < (l0_0.length : Int) := of_decide_eq_true (by first | (with_reducible assumption) | assumption); obtain ⟨ad288, e288, hx288_0, hx288_1, hx288_2⟩ := at_T42 HR0_0.out t287 p288 q288; cases e288; replace hx288_0 := (HB.out.cell (World.block_lt_of_cell? w _ hx288_0)).trans hx288_0; replace hx288_1 := (HB.out.cell (World.block_lt_of_cell? w _ hx288_1)).trans hx288_1; replace hx288_2 := (HB.out.cell (World.block_lt_of_cell? w _ hx288_2)).trans hx288_2; replace p288 := eq_true p288; replace q288 := eq_true q288; have hcz19_0 : w17.cell? ⟨gb286, 0, none⟩ = some (.int .u64 0) := (blk_cell BK286.out 0).trans rfl; have hcz19_1 : w17.cell? ⟨gb286, 1, none⟩ = some (.int .u64 0) := (blk_cell BK286.out 1).trans rfl; have hcz19_2 : w17.cell? ⟨gb286, 2, none⟩ = some (.string (⟨#[]⟩ : ByteArray)) := (blk_cell BK286.out 2).trans rfl; have hfz19_0 := blk_frozen BK286.out 0; have hfz19_1 := blk_frozen BK286.out 1; have hfz19_2 := blk_frozen BK286.out 2))
        refine bodyPost_ret (results_ct rfl _ _ gb286 42 #[.int .u64 ((rd_T42 l0_0 t287).f0), .int .u64 ((rd_T42 l0_0 t287).f1), .string ((rd_T42 l0_0 t287).f2)] (0, 0) _ rfl (by (with_reducible repeat (first | refine blk_drewN ?_ _ | refine blk_drew ?_ | refine blk_alloc ?_ _)); refine blk_put (cs := #[.int .u64 ((rd_T42 l0_0 t287).f0), .int .u64 ((rd_T42 l0_0 t287).f1), .string (⟨#[]⟩ : ByteArray)]) ?_ 2 _ rfl; (with_reducible repeat (first | refine blk_drewN ?_ _ | refine blk_drew ?_ | refine blk_alloc ?_ _)); refine blk_put (cs := #[.int .u64 ((rd_T42 l0_0 t287).f0), .int .u64 0, .string (⟨#[]⟩ : ByteArray)]) ?_ 1 _ rfl; (with_reducible repeat (first | refine blk_drewN ?_ _ | refine blk_drew ?_ | refine blk_alloc ?_ _)); refine blk_put (cs := #[.int .u64 0, .int .u64 0, .string (⟨#[]⟩ : ByteArray)]) ?_ 0 _ rfl; (with_reducible repeat (first | refine blk_drewN ?_ _ | refine blk_drew ?_ | refine blk_alloc ?_ _)); exact BK286.out) Try.underlying42 rfl (by kernel_rfl)) rfl ?_
        exact ⟨by first | rfl | (simp [errW_none, errW_some] <;> rfl) | (simp [*, errW_none, errW_some] <;> rfl), by repeat (first | (with_reducible first | exact HB.out | apply below_alloc | apply pw_below_drewN | apply below_drew1 | refine below_set ?_ GE285.out | refine below_set ?_ GE286.out) | exact HB.out)⟩
      · rw [if_neg c12] at H
        exact absurd H (by simp)
    · rw [if_neg c11] at H
      exact absurd H (by simp)

end Go.Proofs.Ytjfkenjmjoncbaa.PAll

end

section
namespace Go.Proofs.Ytjfkenjmjoncbaa.Lg
open Go Go.Maps Go.WideShapes

structure LP where
  id : Int
  ver : Int
  text : ByteArray
def zeroP : LP := ⟨0, 0, ByteArray.empty⟩
abbrev DW := DataW Unit
def pd (p : LP) : DW := .agg [.lit (.int .u64 p.id), .lit (.int .u64 p.ver), .lit (.string p.text.data.toList)]
def postV (p : LP) : Value := .agg #[.int .u64 p.id, .int .u64 p.ver, .string p.text]
def postR (v : Value) : Option (DW × List MemPlace) :=
  match v with
  | .agg xs => match xs.toList with
    | [.int k a, .int k' b, .string s] => if k = .u64 ∧ k' = .u64 then some (pd ⟨a, b, s⟩, []) else none
    | _ => none
  | _ => none
theorem postR_mk (p : LP) : postR (postV p) = some (pd p, []) := rfl
theorem postR_inv (v : Value) (y : DW × List MemPlace) (h : postR v = some y) : ∃ p, v = postV p := by
  unfold postR at h
  split at h
  · next xs =>
    split at h
    · next k a k' b s e =>
      split at h
      · next hk =>
        obtain ⟨rfl, rfl⟩ := hk
        exact ⟨⟨a, b, s⟩, by unfold postV; congr 1; exact Array.ext' (by simpa using e)⟩
      · cases h
    · cases h
  · cases h
theorem pd_inj {p q : LP} (h : pd p = pd q) : p = q := by
  obtain ⟨a, b, s⟩ := p
  obtain ⟨a', b', s'⟩ := q
  unfold pd at h
  injection h with h
  simp only [List.cons.injEq, DataW.lit.injEq, Lit.int.injEq, Lit.string.injEq, true_and, and_true] at h
  obtain ⟨rfl, rfl, h3⟩ := h
  have : s = s' := by
    cases s; cases s'
    simp at h3
    rw [h3]
  rw [this]
def mapD (l : List LP) : DW := .map (l.map fun p => (.int .u64 p.id, pd p))
def Rise (l : List LP) : Prop := l.Pairwise (fun p q => p.id < q.id)
theorem mapD_canon {l : List LP} (h : Rise l) : Canon (mapD l) := by
  refine ⟨_, rfl, ?_, ?_⟩
  · refine List.pairwise_map.2 (h.imp fun {a b} hab => ?_)
    simpa [Lit.before] using hab
  · intro p hp
    obtain ⟨q, _, rfl⟩ := List.mem_map.1 hp
    trivial
theorem same_u64 (a b : Int) : (Lit.int .u64 a).sameKey (.int .u64 b) = decide (a = b) := by simp [Lit.sameKey]
theorem mapD_has (l : List LP) (x : Int) : has (mapD l) (.int .u64 x) = l.any (fun p => p.id == x) := by
  show (l.map fun p => ((Lit.int .u64 p.id, pd p) : Lit × DW)).any (fun p => p.1.sameKey (.int .u64 x)) = _
  rw [List.any_map]
  congr 1
  funext p
  exact same_u64 _ _
theorem mapD_has_other (l : List LP) (k : Lit) (h : ∀ x, k ≠ .int .u64 x) : has (mapD l) k = false := by
  show (l.map fun p => ((Lit.int .u64 p.id, pd p) : Lit × DW)).any (fun p => p.1.sameKey k) = _
  rw [List.any_map, List.any_eq_false]
  intro p _ hs
  exact h p.id (WideAt.sameKey_eq hs).symm
theorem mapD_size (l : List LP) : size (mapD l) = l.length := by
  show (l.map fun p => ((Lit.int .u64 p.id, pd p) : Lit × DW)).length = _
  simp
theorem mapD_at (l : List LP) (x : Int) (z : DW) : (mapD l).atKey (.int .u64 x) z = ((l.find? (fun p => p.id == x)).map pd).getD z := by
  unfold mapD DataW.atKey
  dsimp only
  rw [List.find?_map]
  have : ((fun p : Lit × DW => p.1.sameKey (.int .u64 x)) ∘ fun p : LP => ((Lit.int .u64 p.id, pd p) : Lit × DW)) = fun p => p.id == x := by
    funext p
    exact same_u64 _ _
  rw [this]
  cases l.find? (fun p => p.id == x) <;> rfl
theorem Rise.find {l : List LP} (h : Rise l) {p : LP} (hp : p ∈ l) : l.find? (fun q => q.id == p.id) = some p := by
  induction l with
  | nil => cases hp
  | cons a l ih =>
    obtain ⟨h1, h2⟩ := List.pairwise_cons.1 h
    rcases List.mem_cons.1 hp with rfl | hp'
    · simp
    · have := h1 p hp'
      rw [List.find?_cons_of_neg (by simp; omega)]
      exact ih h2 hp'
theorem Rise.uniq {l : List LP} (h : Rise l) {p q : LP} (hp : p ∈ l) (hq : q ∈ l) (e : p.id = q.id) : p = q := by
  have h1 := h.find hp
  rw [e, h.find hq] at h1
  exact (Option.some.inj h1).symm
theorem Rise.filter {l : List LP} (h : Rise l) (f : LP → Bool) : Rise (l.filter f) := List.Pairwise.filter f h
def setP (l : List LP) (p : LP) : List LP := l.filter (fun q => decide (q.id < p.id)) ++ p :: l.filter (fun q => decide (p.id < q.id))
def delP (l : List LP) (x : Int) : List LP := l.filter (fun q => !(q.id == x))
theorem setP_rise {l : List LP} (h : Rise l) (p : LP) : Rise (setP l p) := by
  refine List.pairwise_append.2 ⟨h.filter _, List.pairwise_cons.2 ⟨fun q hq => by simpa using (List.mem_filter.1 hq).2, h.filter _⟩, fun a ha b hb => ?_⟩
  have h1 : a.id < p.id := by simpa using (List.mem_filter.1 ha).2
  rcases List.mem_cons.1 hb with rfl | hb
  · exact h1
  · have h2 : p.id < b.id := by simpa using (List.mem_filter.1 hb).2
    omega
theorem mem_setP {l : List LP} {p q : LP} : q ∈ setP l p ↔ q = p ∨ (q ∈ l ∧ q.id ≠ p.id) := by
  unfold setP
  simp only [List.mem_append, List.mem_cons, List.mem_filter, decide_eq_true_eq]
  constructor
  · rintro (⟨h1, h2⟩ | rfl | ⟨h1, h2⟩)
    · exact .inr ⟨h1, by omega⟩
    · exact .inl rfl
    · exact .inr ⟨h1, by omega⟩
  · rintro (rfl | ⟨h1, h2⟩)
    · exact .inr (.inl rfl)
    · rcases Int.lt_or_gt_of_ne h2 with h | h
      · exact .inl ⟨h1, h⟩
      · exact .inr (.inr ⟨h1, h⟩)
theorem delP_rise {l : List LP} (h : Rise l) (x : Int) : Rise (delP l x) := h.filter _
theorem mem_delP {l : List LP} {x : Int} {q : LP} : q ∈ delP l x ↔ q ∈ l ∧ q.id ≠ x := by simp [delP]
theorem any_mem (l : List LP) (x : Int) : l.any (fun p => p.id == x) = true ↔ ∃ p ∈ l, p.id = x := by simp [List.any_eq_true]
theorem eq_mapD {D : DW} {l : List LP} (hD : Canon D) (hl : Rise l) (h1 : ∀ x p, D.atKey (.int .u64 x) .nil = pd p → has D (.int .u64 x) = true → p ∈ l ∧ p.id = x)
    (h2 : ∀ p ∈ l, has D (.int .u64 p.id) = true ∧ D.atKey (.int .u64 p.id) .nil = pd p) (h3 : ∀ k, has D k = true → ∃ x p, k = .int .u64 x ∧ D.atKey k .nil = pd p) : D = mapD l := by
  have hh : ∀ k, has D k = has (mapD l) k := by
    intro k
    cases hk : has D k
    · by_cases hx : ∃ x, k = .int .u64 x
      · obtain ⟨x, rfl⟩ := hx
        rw [mapD_has]
        cases ha : l.any (fun p => p.id == x)
        · rfl
        · obtain ⟨p, hp, rfl⟩ := (any_mem _ _).1 ha
          rw [(h2 p hp).1] at hk
          cases hk
      · rw [mapD_has_other l k (fun x e => hx ⟨x, e⟩)]
    · obtain ⟨x, p, rfl, hp⟩ := h3 k hk
      obtain ⟨h4, h5⟩ := h1 x p hp hk
      rw [mapD_has]
      exact ((any_mem _ _).2 ⟨p, h4, h5⟩).symm
  refine Maps.ext hD (mapD_canon hl) hh (fun k z hk => ?_)
  obtain ⟨x, p, rfl, hp⟩ := h3 k hk
  obtain ⟨h4, rfl⟩ := h1 x p hp hk
  have e1 : D.atKey (.int .u64 p.id) z = D.atKey (.int .u64 p.id) .nil := by
    cases D <;> try (cases hk; done)
    rename_i es
    obtain ⟨q, hq, hqk⟩ := List.any_eq_true.1 hk
    have hs : (es.find? (fun q => q.1.sameKey (.int .u64 p.id))).isSome = true := List.find?_isSome.2 ⟨q, hq, hqk⟩
    obtain ⟨y, hy⟩ := Option.isSome_iff_exists.1 hs
    simp [DataW.atKey, hy]
  rw [e1, hp, mapD_at, hl.find h4]
  rfl
theorem mapD_isMap (l : List LP) : IsMap (mapD l) := ⟨_, rfl⟩
theorem put_eq {l : List LP} (h : Rise l) (p : LP) {x : Int} (hx : p.id = x) (hc : Canon ((mapD l).put (.int .u64 x) (pd p))) : (mapD l).put (.int .u64 x) (pd p) = mapD (setP l p) := by
  subst hx
  have ht : WideAt.IsKeyLit (.int .u64 p.id) := trivial
  have main : ∀ k, has ((mapD l).put (.int .u64 p.id) (pd p)) k = true → ∃ q ∈ setP l p, k = .int .u64 q.id ∧ ((mapD l).put (.int .u64 p.id) (pd p)).atKey k .nil = pd q := by
    intro k hk
    by_cases e : k = .int .u64 p.id
    · subst e
      exact ⟨p, mem_setP.2 (.inl rfl), rfl, atKey_put_same (mapD_isMap l) ht _ _⟩
    · rw [has_put_other e] at hk
      by_cases hx : ∃ x, k = .int .u64 x
      · obtain ⟨x, rfl⟩ := hx
        rw [mapD_has] at hk
        obtain ⟨q, hq, rfl⟩ := (any_mem _ _).1 hk
        refine ⟨q, mem_setP.2 (.inr ⟨hq, fun e' => e (by rw [e'])⟩), rfl, ?_⟩
        rw [atKey_put_other e, mapD_at, h.find hq]
        rfl
      · rw [mapD_has_other l k (fun x e => hx ⟨x, e⟩)] at hk
        cases hk
  refine eq_mapD hc (setP_rise h p) (fun x q hq hh => ?_) (fun q hq => ?_) (fun k hk => ?_)
  · obtain ⟨r, hr, e, hat⟩ := main _ hh
    rw [hat] at hq
    have := pd_inj hq
    subst this
    simp only [Lit.int.injEq, true_and] at e
    exact ⟨hr, e.symm⟩
  · rcases mem_setP.1 hq with rfl | ⟨h1, h2⟩
    · exact ⟨has_put_same (mapD_isMap l) ht _, atKey_put_same (mapD_isMap l) ht _ _⟩
    · have e : Lit.int .u64 q.id ≠ .int .u64 p.id := by simpa using h2
      rw [has_put_other e, atKey_put_other e, mapD_has, mapD_at, h.find h1]
      exact ⟨(any_mem _ _).2 ⟨q, h1, rfl⟩, rfl⟩
  · obtain ⟨q, _, e, hat⟩ := main k hk
    exact ⟨q.id, q, e, hat⟩
theorem del_eq (l : List LP) (x : Int) : (mapD l).del (.int .u64 x) = mapD (delP l x) := by
  show DataW.map ((l.map fun p => ((Lit.int .u64 p.id, pd p) : Lit × DW)).filter fun p => !p.1.sameKey (.int .u64 x)) = _
  unfold mapD delP
  rw [List.filter_map]
  congr 3
  funext p
  show (!(Lit.int .u64 p.id).sameKey (.int .u64 x)) = !(p.id == x)
  rw [same_u64]
  rfl
theorem mem_of_at {l : List LP} {x : Int} {p : LP} (h : ∀ z, (mapD l).atKey (.int .u64 x) z = pd p) : p ∈ l ∧ l.find? (fun q => q.id == x) = some p := by
  have h1 := h .nil
  rw [mapD_at] at h1
  cases hf : l.find? (fun q => q.id == x) with
  | none => rw [hf] at h1; cases h1
  | some q =>
    rw [hf] at h1
    have := pd_inj h1
    subst this
    exact ⟨List.mem_of_find?_eq_some hf, rfl⟩
theorem id_of_find {l : List LP} {x : Int} {p : LP} (h : l.find? (fun q => q.id == x) = some p) : p.id = x := by simpa using List.find?_some h
structure LG where
  posts : List LP
  pols : List ByteArray
  next : Int
  cur : Int
structure RC where
  kind : Int
  id : Int
  ver : Int
  text : ByteArray
def LG.newest (L : LG) : Int := (L.pols.length : Int)
def LG.empty : LG := ⟨[], [], 1, 0⟩
def LG.cand (L : LG) (p : LP) : Bool := decide (p.ver ≠ L.newest) && decide (L.cur < p.id)
def LG.stale (L : LG) : Option LP := L.posts.find? L.cand
def RC.ok (r : RC) : Bool :=
  if (r.kind = 1 ∨ r.kind = 4) ∧ (0 < r.id ∧ 0 < r.ver) ∧ r.text.size ≤ 4096 then true
  else if r.kind = 2 ∧ 0 < r.id ∧ r.ver = 0 ∧ r.text = ByteArray.empty then true
  else if r.kind = 3 ∧ r.id = 0 ∧ 0 < r.ver ∧ r.text.size ≤ 2000 then true else false
def LG.applies (L : LG) (r : RC) : Bool :=
  if r.ok = true then
    if r.kind = 1 then decide (r.id = L.next) && decide (r.id < 9223372036854775807) && decide (r.ver = L.newest)
    else if r.kind = 2 then L.posts.any (fun p => p.id == r.id)
    else if r.kind = 3 then decide (r.ver = L.newest + 1) && decide (r.ver ≤ 100)
    else match L.stale with
      | some s => decide (s.id = r.id) && decide (r.ver = L.newest)
      | none => false
  else false
def LG.act (L : LG) (r : RC) : LG :=
  if r.kind = 1 then ⟨setP L.posts ⟨r.id, r.ver, r.text⟩, L.pols, L.next + 1, L.cur⟩
  else if r.kind = 2 then ⟨delP L.posts r.id, L.pols, L.next, L.cur⟩
  else if r.kind = 3 then ⟨L.posts, L.pols ++ [r.text], L.next, 0⟩
  else ⟨setP L.posts ⟨r.id, r.ver, r.text⟩, L.pols, L.next, r.id⟩
def LG.apply (L : LG) (r : RC) : LG := if L.applies r = true then L.act r else L
def LG.errno (L : LG) (r : RC) : Int := if L.applies r = true then 0 else 1
structure LG.Ok (L : LG) : Prop where
  rise : Rise L.posts
  ids : ∀ p ∈ L.posts, 1 ≤ p.id ∧ p.id ≤ 18446744073709551615
  vers : ∀ p ∈ L.posts, 0 ≤ p.ver ∧ p.ver ≤ 18446744073709551615
  next : 0 ≤ L.next ∧ L.next ≤ 18446744073709551615
  cur : 0 ≤ L.cur ∧ L.cur ≤ 18446744073709551615
  pols : L.pols.length ≤ 100
  texts : ∀ p ∈ L.posts, p.text.size ≤ 4096
  ptexts : ∀ s ∈ L.pols, s.size ≤ 2000
structure RC.Wf (r : RC) : Prop where
  kind : (Lit.int .i64 r.kind).wf = true
  id : 0 ≤ r.id ∧ r.id ≤ 18446744073709551615
  ver : 0 ≤ r.ver ∧ r.ver ≤ 18446744073709551615
theorem LG.empty_ok : LG.empty.Ok := ⟨List.Pairwise.nil, by simp [LG.empty], by simp [LG.empty], by simp [LG.empty], by simp [LG.empty], by simp [LG.empty], by simp [LG.empty], by simp [LG.empty]⟩
theorem RC.ok_kind {r : RC} (h : r.ok = true) : r.kind = 1 ∨ r.kind = 2 ∨ r.kind = 3 ∨ r.kind = 4 := by
  unfold RC.ok at h
  split at h
  · omega
  · split at h
    · omega
    · split at h
      · omega
      · cases h
theorem LG.applies_ok {L : LG} {r : RC} (h : L.applies r = true) : r.ok = true := by
  unfold LG.applies at h
  split at h
  · assumption
  · cases h
theorem RC.ok_id {r : RC} (h : r.ok = true) (hk : r.kind ≠ 3) : 0 < r.id := by
  unfold RC.ok at h
  split at h
  · omega
  · split at h
    · omega
    · split at h
      · omega
      · cases h
theorem LG.applies_cases {L : LG} {r : RC} (h : L.applies r = true) :
    (r.kind = 1 ∧ 0 < r.id ∧ 0 < r.ver ∧ r.text.size ≤ 4096 ∧ r.id = L.next ∧ r.id < 9223372036854775807 ∧ r.ver = L.newest) ∨ (r.kind = 2 ∧ 0 < r.id ∧ L.posts.any (fun p => p.id == r.id) = true) ∨
    (r.kind = 3 ∧ r.id = 0 ∧ 0 < r.ver ∧ r.text.size ≤ 2000 ∧ r.ver = L.newest + 1 ∧ r.ver ≤ 100) ∨ (r.kind = 4 ∧ 0 < r.id ∧ 0 < r.ver ∧ r.text.size ≤ 4096 ∧ r.ver = L.newest ∧ ∃ s, L.stale = some s ∧ s.id = r.id) := by
  have hok := LG.applies_ok h
  have hk := RC.ok_kind hok
  unfold LG.applies at h
  rw [if_pos hok] at h
  rcases hk with k | k | k | k
  · simp only [RC.ok, k, true_or, true_and] at hok
    simp only [k, if_true, Bool.and_eq_true, decide_eq_true_eq] at h
    have h2 : (0 < r.id ∧ 0 < r.ver) ∧ r.text.size ≤ 4096 := by
      by_cases c : (0 < r.id ∧ 0 < r.ver) ∧ r.text.size ≤ 4096
      · exact c
      · rw [if_neg c] at hok
        simp at hok
    exact .inl ⟨k, h2.1.1, h2.1.2, h2.2, h.1.1, h.1.2, h.2⟩
  · have h0 := RC.ok_id hok (by omega)
    simp only [k] at h
    exact .inr (.inl ⟨k, h0, by simpa using h⟩)
  · have h2 : r.id = 0 ∧ 0 < r.ver ∧ r.text.size ≤ 2000 := by
      simp only [RC.ok, k] at hok
      by_cases c : r.id = 0 ∧ 0 < r.ver ∧ r.text.size ≤ 2000
      · exact c
      · exfalso
        revert hok
        simp [c]
    simp only [k] at h
    simp at h
    exact .inr (.inr (.inl ⟨k, h2.1, h2.2.1, h2.2.2, h.1, h.2⟩))
  · simp only [RC.ok, k, or_true, true_and] at hok
    have h2 : (0 < r.id ∧ 0 < r.ver) ∧ r.text.size ≤ 4096 := by
      by_cases c : (0 < r.id ∧ 0 < r.ver) ∧ r.text.size ≤ 4096
      · exact c
      · rw [if_neg c] at hok
        simp at hok
    simp only [k] at h
    simp at h
    split at h
    · next s hs =>
      simp at h
      exact .inr (.inr (.inr ⟨k, h2.1.1, h2.1.2, h2.2, h.2, s, hs, h.1⟩))
    · cases h
theorem LG.apply_ok {L : LG} (hL : L.Ok) {r : RC} (hr : r.Wf) : (L.apply r).Ok := by
  unfold LG.apply
  split
  · next ha =>
    have hset : 0 < r.id → r.text.size ≤ 4096 → (∀ p ∈ setP L.posts ⟨r.id, r.ver, r.text⟩, 1 ≤ p.id ∧ p.id ≤ 18446744073709551615) ∧ (∀ p ∈ setP L.posts ⟨r.id, r.ver, r.text⟩, 0 ≤ p.ver ∧ p.ver ≤ 18446744073709551615) ∧ ∀ p ∈ setP L.posts ⟨r.id, r.ver, r.text⟩, p.text.size ≤ 4096 := fun h0 ht => by
      refine ⟨fun p hp => ?_, fun p hp => ?_, fun p hp => ?_⟩
      · rcases mem_setP.1 hp with rfl | ⟨h1, _⟩
        · exact ⟨h0, hr.id.2⟩
        · exact hL.ids p h1
      · rcases mem_setP.1 hp with rfl | ⟨h1, _⟩
        · exact hr.ver
        · exact hL.vers p h1
      · rcases mem_setP.1 hp with rfl | ⟨h1, _⟩
        · exact ht
        · exact hL.texts p h1
    rcases LG.applies_cases ha with ⟨k, h0, h1, h2, h3, h4, h5⟩ | ⟨k, h0, h1⟩ | ⟨k, h0, h1, h2, h3, h4⟩ | ⟨k, h0, h1, h2, h3, s, h4, h5⟩
    · have ea : L.act r = ⟨setP L.posts ⟨r.id, r.ver, r.text⟩, L.pols, L.next + 1, L.cur⟩ := by simp [LG.act, k]
      have h6 := hset h0 h2
      have := hL.next
      rw [ea]
      exact ⟨setP_rise hL.rise _, h6.1, h6.2.1, by simp only; omega, hL.cur, hL.pols, h6.2.2, hL.ptexts⟩
    · have ea : L.act r = ⟨delP L.posts r.id, L.pols, L.next, L.cur⟩ := by simp [LG.act, k]
      rw [ea]
      exact ⟨delP_rise hL.rise _, fun p hp => hL.ids p (mem_delP.1 hp).1, fun p hp => hL.vers p (mem_delP.1 hp).1, hL.next, hL.cur, hL.pols, fun p hp => hL.texts p (mem_delP.1 hp).1, hL.ptexts⟩
    · have ea : L.act r = ⟨L.posts, L.pols ++ [r.text], L.next, 0⟩ := by simp [LG.act, k]
      have hn : L.newest = (L.pols.length : Int) := rfl
      rw [ea]
      refine ⟨hL.rise, hL.ids, hL.vers, hL.next, by simp, by rw [List.length_append, List.length_singleton]; omega, hL.texts, fun s hs => ?_⟩
      rcases List.mem_append.1 hs with g | g
      · exact hL.ptexts s g
      · rw [List.mem_singleton.1 g]; exact h2
    · have ea : L.act r = ⟨setP L.posts ⟨r.id, r.ver, r.text⟩, L.pols, L.next, r.id⟩ := by simp [LG.act, k]
      have h6 := hset h0 h2
      rw [ea]
      exact ⟨setP_rise hL.rise _, h6.1, h6.2.1, hL.next, hr.id, hL.pols, h6.2.2, hL.ptexts⟩
  · exact hL
def be : Nat → Nat → List Int
  | 0, _ => []
  | n + 1, x => ((x / 256 ^ n % 256 : Nat) : Int) :: be n x
def valN (ds : List Int) : Nat := ds.foldl (fun a d => a * 256 + d.toNat) 0
theorem be_len : ∀ n x, (be n x).length = n
  | 0, _ => rfl
  | n + 1, x => by simp [be, be_len n x]
theorem be_byte : ∀ n x, ∀ d ∈ be n x, 0 ≤ d ∧ d ≤ 255
  | 0, _, d, h => by simp [be] at h
  | n + 1, x, d, h => by
    rcases List.mem_cons.1 h with rfl | h
    · omega
    · exact be_byte n x d h
def be8 (n : Int) : List Int := be 8 n.toNat
theorem be8_len (n : Int) : (be8 n).length = 8 := be_len 8 _
def nums (s : ByteArray) : List Int := s.data.toList.map fun c => (c.toNat : Int)
def LG.status (L : LG) : List Int := be8 L.next ++ be8 L.newest ++ be8 L.cur
theorem setP_new {l : List LP} {p : LP} (h : ∀ q ∈ l, q.id < p.id) : setP l p = l ++ [p] := by
  unfold setP
  rw [List.filter_eq_self.2 (fun q hq => by simpa using h q hq), List.filter_eq_nil_iff.2 (fun q hq => by have := h q hq; simp; omega)]
structure LG.Below (L : LG) : Prop where
  ids : ∀ p ∈ L.posts, p.id < L.next
end Go.Proofs.Ytjfkenjmjoncbaa.Lg

end

section
namespace Go.Proofs.Ytjfkenjmjoncbaa.Lg
open Go Go.Maps Go.WideShapes Go.RowKit Go.Proofs.YtjfkenjmjoncbaaW.PrintWords

structure Mv (S : Nat → Prop) (w w' : World) : Prop where
  os : w'.os = w.os
  tape : w'.tape = w.tape
  output : w'.output = w.output
  size : w.heap.size ≤ w'.heap.size
  block : ∀ k, k < w.heap.size → ¬ S k → w'.heap[k]? = w.heap[k]?
theorem Mv.refl (S : Nat → Prop) (w : World) : Mv S w w := ⟨rfl, rfl, rfl, Nat.le_refl _, fun _ _ _ => rfl⟩
theorem Mv.of_below {S : Nat → Prop} {w w' : World} (h : Below w.heap.size w w') : Mv S w w' := ⟨h.os, h.tape, h.output, h.size, fun k hk _ => h.block k hk⟩
theorem Mv.of_grown {w w' : World} {row : Option Nat} {S : Nat → Prop} (h : w.grownBy w' row) (hS : ∀ j, row = some j → S j) : Mv S w w' :=
  ⟨h.os, h.tape, h.output, h.size, fun k hk hn => h.block k hk (fun e => hn (hS k e.symm))⟩
theorem Mv.below {S : Nat → Prop} {B : Nat} {w w' : World} (h : Mv S w w') (hS : ∀ j, S j → B ≤ j) (hB : B ≤ w.heap.size) : Below B w w' :=
  ⟨h.os, h.tape, h.output, h.size, fun k hk => h.block k (by omega) (fun hs => by have := hS k hs; omega)⟩
theorem Mv.trans {S S' : Nat → Prop} {a b c : World} (h : Mv S a b) (k : Mv S' b c) (hS : ∀ j, S' j → S j ∨ a.heap.size ≤ j) : Mv S a c :=
  ⟨k.os.trans h.os, k.tape.trans h.tape, k.output.trans h.output, Nat.le_trans h.size k.size, fun i hi hn => (k.block i (Nat.lt_of_lt_of_le hi h.size) (fun hs => by
    rcases hS i hs with g | g
    · exact hn g
    · omega)).trans (h.block i hi hn)⟩
theorem Mv.imp {S S' : Nat → Prop} {w w' : World} (h : Mv S w w') (hS : ∀ j, S j → S' j) : Mv S' w w' := ⟨h.os, h.tape, h.output, h.size, fun k hk hn => h.block k hk (fun hs => hn (hS k hs))⟩
theorem Mv.set {w : World} {g i : Nat} {S : Nat → Prop} (u : Value) (hS : S g) : Mv S w (w.setCell ⟨g, i, none⟩ u) :=
  ⟨rfl, rfl, rfl, by simp [World.setCell], fun k _ hn => Below.heap_setCell _ _ _ _ (fun e => hn (by simp only at e; rw [e]; exact hS))⟩
theorem own_mv {w w' : World} {S : Nat → Prop} {B e size n : Nat} {v : Value} {xs : List Value} (h : w.ownsRow B e size v n xs) (m : Mv S w w') (hS : ∀ j, v.ownBlock = some j → ¬ S j) : w'.ownsRow B e size v n xs := by
  refine ⟨h.1, ?_⟩
  rcases h.2 with hn | ⟨g, cap, cur, rfl, hb, hgg, rest⟩
  · exact .inl hn
  · exact .inr ⟨g, cap, cur, rfl, hb, (m.block g (Array.getElem?_eq_some_iff.1 hgg).1 (hS g rfl)).trans hgg, rest⟩
theorem map_mv {H : Type} {P : Program} {k : TypeId} {R : Value → Option (DataW H × List MemPlace)} {w w' : World} {S : Nat → Prop} {b n : Nat} {D : DataW H} (h : w.ownsMap P k R b n D) (m : Mv S w w') (hS : ¬ S b) : w'.ownsMap P k R b n D := by
  have hlt := h.lt
  obtain ⟨es, clock, hb, F, hs, hD⟩ := h
  exact ⟨es, clock, (m.block b hlt hS).trans hb, F, hs, hD⟩
def Owns (g b : Nat) (v : Value) (j : Nat) : Prop := j = g ∨ j = b ∨ v.ownBlock = some j
def lcells (b : Nat) (v : Value) (L : LG) : Array Value := #[.map (some b), v, .int .u64 L.next, .int .u64 L.cur]
structure Led (w : World) (B g b n : Nat) (v : Value) (L : LG) : Prop where
  blk : w.heap[g]? = some (.cells (lcells b v L) 69 (0, 0))
  map : w.ownsMap Try.prog 24 postR b n (mapD L.posts)
  row : w.ownsRow B 9 1 v L.pols.length (L.pols.map Value.string)
  gB : B ≤ g
  bB : B ≤ b
  ok : L.Ok
theorem Led.mv {w w' : World} {S : Nat → Prop} {B g b n : Nat} {v : Value} {L : LG} (h : Led w B g b n v L) (m : Mv S w w') (hS : ∀ j, Owns g b v j → ¬ S j) : Led w' B g b n v L :=
  ⟨(m.block g (Array.getElem?_eq_some_iff.1 h.blk).1 (hS g (.inl rfl))).trans h.blk, map_mv h.map m (hS b (.inr (.inl rfl))), own_mv h.row m (fun j hj => hS j (.inr (.inr hj))), h.gB, h.bB, h.ok⟩
theorem Led.below {w w' : World} {B g b n : Nat} {v : Value} {L : LG} (h : Led w B g b n v L) (m : Below w.heap.size w w') : Led w' B g b n v L := h.mv (S := fun _ => False) (.of_below m) (fun _ _ => id)
theorem Led.lt {w : World} {B g b n : Nat} {v : Value} {L : LG} (h : Led w B g b n v L) {j : Nat} (hj : Owns g b v j) : B ≤ j ∧ j < w.heap.size := by
  rcases hj with rfl | rfl | hj
  · exact ⟨h.gB, (Array.getElem?_eq_some_iff.1 h.blk).1⟩
  · exact ⟨h.bB, h.map.lt⟩
  · exact h.row.lt j hj
theorem Led.ne {w : World} {B g b n : Nat} {v : Value} {L : LG} (h : Led w B g b n v L) : g ≠ b ∧ v.ownBlock ≠ some g ∧ v.ownBlock ≠ some b := by
  obtain ⟨es, clock, hb, _⟩ := h.map
  refine ⟨fun e => ?_, fun e => ?_, fun e => ?_⟩
  · have h1 := h.blk
    rw [e, hb] at h1
    cases h1
  · rcases h.row.2 with ⟨rfl, _⟩ | ⟨g', cap, cur, rfl, _, hg, _⟩
    · cases e
    · cases e
      have h1 := h.blk
      rw [hg] at h1
      simp at h1
  · rcases h.row.2 with ⟨rfl, _⟩ | ⟨g', cap, cur, rfl, _, hg, _⟩
    · cases e
    · cases e
      rw [hb] at hg
      cases hg
theorem Led.mono {w : World} {B g b n n' : Nat} {v : Value} {L : LG} (h : Led w B g b n v L) (hn : n ≤ n') : Led w B g b n' v L := ⟨h.blk, h.map.mono hn, h.row, h.gB, h.bB, h.ok⟩
theorem Led.len {w : World} {B g b n : Nat} {v : Value} {L : LG} (h : Led w B g b n v L) : L.posts.length ≤ n := by rw [← mapD_size]; exact h.map.size_le
theorem Led.slice {w : World} {B g b n : Nat} {v : Value} {L : LG} (h : Led w B g b n v L) : ∃ (A : Option Addr) (c : Nat), v = .slice A L.pols.length c ∧ L.pols.length ≤ c := by
  rcases h.row.2 with ⟨rfl, e⟩ | ⟨g', cap, cur, rfl, _, hg, h1, _⟩
  · exact ⟨none, 0, by rw [e], by omega⟩
  · exact ⟨_, _, rfl, h1⟩
end Go.Proofs.Ytjfkenjmjoncbaa.Lg

end

section
namespace Go.Proofs.Ytjfkenjmjoncbaa.Lg
open Go Go.Maps Go.WideShapes Go.RowKit Go.Proofs.Ytjfkenjmjoncbaa.PAll Go.Proofs.YtjfkenjmjoncbaaW.PrintWords Go.Proofs.YtjfkenjmjoncbaaW.PrintLast Go.Proofs.YtjfkenjmjoncbaaW.PrintMore
set_option linter.unusedVariables false
set_option linter.unusedSimpArgs false

theorem law24 : Keyed Try.prog 24 := int_keyed Try.underlying24
theorem Led.cells {w : World} {B g b n : Nat} {v : Value} {L : LG} (h : Led w B g b n v L) :
    (w.cell? ⟨g, 0, none⟩ = some (.map (some b)) ∧ w.cell? ⟨g, 1, none⟩ = some v ∧ w.cell? ⟨g, 2, none⟩ = some (.int .u64 L.next) ∧ w.cell? ⟨g, 3, none⟩ = some (.int .u64 L.cur)) ∧ ∀ i, w.frozen? ⟨g, i, none⟩ = false :=
  ⟨⟨blk_cell h.blk 0, blk_cell h.blk 1, blk_cell h.blk 2, blk_cell h.blk 3⟩, fun i => blk_frozen h.blk i⟩
set_option maxHeartbeats 1000000 in
set_option maxRecDepth 100000 in
theorem New_calls (w : World) : Calls Try.prog 23 #[] w fun e w' => ∃ g b, e = .returned (.pointer (some ⟨g, 0, none⟩)) ∧ Led w' w.heap.size g b 0 (.slice none 0 0) LG.empty ∧ Below w.heap.size w w' := by
  have hmm := @run_makeMap Try.prog
  go_enter Try.func23, Try.ntmps23
  go_wp2
  go_ret
  have hs : (w.alloc (.map #[] 0)).heap.size = w.heap.size + 1 := by simp
  have k1 := (MapKept.heap_alloc (w.alloc (.map #[] 0)) (.cells (lcells w.heap.size (.slice none 0 0) LG.empty) 69)).1
  rw [hs] at k1
  refine ⟨_, w.heap.size, rfl, ⟨k1, (World.ownsMap_made w Try.prog 24 postR).alloc _, World.ownsRow_nil _ _ _ _, by omega, Nat.le_refl _, LG.empty_ok⟩, ?_⟩
  exact (show Below w.heap.size w (w.alloc (.map #[] 0)) from (Below.refl _ w).alloc (Nat.le_refl _) _).alloc (by rw [hs]; omega) _
set_option maxHeartbeats 1000000 in
set_option maxRecDepth 100000 in
theorem newest_calls {w : World} {B g b n : Nat} {v : Value} {L : LG} (h : Led w B g b n v L) : Calls Try.prog 26 #[.pointer (some ⟨g, 0, none⟩)] w fun e w' => e = .returned (.int .u64 L.newest) ∧ w' = w := by
  obtain ⟨⟨h0, h1, h2, h3⟩, hf⟩ := h.cells
  obtain ⟨A, c, rfl, hc⟩ := h.slice
  have hp := h.ok.pols
  clear h
  have hw : (IntKind.u64.wrap (L.pols.length : Int)) = L.newest := by unfold LG.newest; simp [IntKind.wrap, IntKind.bits, IntKind.signed]; omega
  go_enter Try.func26, Try.ntmps26
  go_wp2
  go_ret
  exact ⟨rfl, rfl⟩
theorem zero42 (w : World) : (zeroValue 42).run Try.prog w = .ok (postV zeroP) w := by kernel_rfl
def LG.get (L : LG) (id : Int) : LP := (L.posts.find? (fun p => p.id == id)).getD zeroP
def LG.is (L : LG) (id : Int) : Bool := L.posts.any (fun p => p.id == id)
theorem get_at {L : LG} {id : Int} {v : Value} {ps : List MemPlace} (h : postR v = some ((mapD L.posts).atKey (.int .u64 id) (pd zeroP), ps)) : v = postV (L.get id) := by
  obtain ⟨p, rfl⟩ := postR_inv _ _ h
  rw [postR_mk, mapD_at] at h
  simp only [Option.some.injEq, Prod.mk.injEq] at h
  have h1 := h.1
  unfold LG.get
  cases hf : L.posts.find? (fun p => p.id == id) with
  | none => rw [hf] at h1; rw [pd_inj h1]; rfl
  | some q => rw [hf] at h1; rw [pd_inj h1]; rfl
theorem wf64 {x : Int} (h : 0 ≤ x ∧ x ≤ 18446744073709551615) : (Lit.int .u64 x).wf = true := by
  have e1 : IntKind.u64.min = 0 := by decide
  have e2 : IntKind.u64.max = 18446744073709551615 := by decide
  simp only [Lit.wf, e1, e2, Bool.and_eq_true, decide_eq_true_eq]
  exact h

theorem region_tail {P : Program} {id : Nat} {Q : Exit → Act → World → Prop} {a : Act} {w : World} {l : List Oper} (n : Nat) (hm : P.follows .mixedOrders = true) (hB : Region.lexTailB .any l.toArray n = true)
    (h : wpStill P l.toArray w.drew (fun a' => wpList P l.toArray Q (l.drop n) a' w.drew) (l.take n) a) : (Code.region id l.toArray true).wp P Q a w := wp_region_still_tail n hm hB h
theorem still_len {ops : Array Oper} {o : Oper} {rest : List Oper} {a : Act} {w : World} {Q : Act → Prop} (hg : o.guard = none) (m : Operand)
    (hop : o.op = Op.call { callee := Callee.builtin Builtin.len, args := #[m], argTypes := #[67] }) {b n : Nat} {l : List LP} (hm : a.eval m = .map (some b)) (hown : w.ownsMap Try.prog 24 postR b n (mapD l))
    (h : wpStill Try.prog ops w Q rest (a.put o.dst (.int .i64 l.length))) : wpStill Try.prog ops w Q (o :: rest) a := by
  unfold wpStill
  rw [if_pos (by simp [Region.wanted, hg])]
  have hl := hown.len Try.underlying67 o.type
  rw [mapD_size] at hl
  unfold Oper.still
  simp [execOp, hop, resolve, invoke, builtin, hm, hl, Result.andThen, Oper.stillUpon]
  exact h
section
variable {ops : Array Oper} {rest : List Oper} {o : Oper} {a : Act} {Q : Exit → Act → World → Prop}
theorem wp_look_ok (w : World) (hg : o.guard = none) (m x : Operand) (hop : o.op = Op.lookup 67 m x true) {b n : Nat} {L : LG} {id : Int} (hm : a.eval m = .map (some b)) (hown : w.ownsMap Try.prog 24 postR b n (mapD L.posts))
    (hx : a.eval x = .int .u64 id) (hkey : keyOf Try.prog 24 (.int .u64 id) = some (.int .u64 id)) (hK : wpList Try.prog ops Q rest (a.put o.dst (.tuple #[.agg #[.int .u64 (L.get id).id, .int .u64 (L.get id).ver, .string (L.get id).text], .bool (L.is id)])) w) : wpList Try.prog ops Q (o :: rest) a w := by
  refine wpList_lookup_own_ok w hg m x 67 hop 24 42 law24 Try.underlying67 postR (zero42 w) (pd zeroP) [] (postR_mk zeroP) b n _ hm hown _ _ hx hkey (fun v ps hv => ?_)
  rw [get_at hv, mapD_has]
  exact hK
theorem wp_look (w : World) (hg : o.guard = none) (m x : Operand) (hop : o.op = Op.lookup 67 m x false) {b n : Nat} {L : LG} {id : Int} (hm : a.eval m = .map (some b)) (hown : w.ownsMap Try.prog 24 postR b n (mapD L.posts))
    (hx : a.eval x = .int .u64 id) (hkey : keyOf Try.prog 24 (.int .u64 id) = some (.int .u64 id)) (hK : wpList Try.prog ops Q rest (a.put o.dst (.agg #[.int .u64 (L.get id).id, .int .u64 (L.get id).ver, .string (L.get id).text])) w) : wpList Try.prog ops Q (o :: rest) a w := by
  refine wpList_plain hg fun K' hK' => ?_
  obtain ⟨v, ps, hrun, hv⟩ := hown.lookup law24 Try.underlying67 (zero42 w) (postR_mk zeroP) hkey
  unfold Oper.wp
  simp [execOp, hop, hm, hx, hrun, Result.andThen]
  rw [get_at hv]
  exact hK' _ _ hK
end
set_option maxHeartbeats 1000000 in
set_option maxRecDepth 100000 in
theorem Get_calls {w : World} {B g b n : Nat} {v : Value} {L : LG} (h : Led w B g b n v L) {id : Int} (hid : 0 ≤ id ∧ id ≤ 18446744073709551615) :
    Calls Try.prog 15 #[.pointer (some ⟨g, 0, none⟩), .int .u64 id] w fun e w' => e = .returned (.tuple #[postV (L.get id), .bool (L.is id)]) ∧ Below w.heap.size w w' := by
  obtain ⟨⟨h0, h1, h2, h3⟩, hf⟩ := h.cells
  have hm := Aside0.mk h.map
  have hk := Aside0.mk (keyOf_int_mk Try.underlying24 (wf64 hid))
  have hgl : g < w.heap.size := (h.lt (.inl rfl)).2
  clear h hid
  go_enter Try.func15, Try.ntmps15
  go_wp2_with (at_lookup; refine wp_look_ok _ rfl _ _ rfl rfl (hm.out.alloc _) rfl hk.out ?_)
  refine bodyPost_ret (results_ct rfl _ _ w.heap.size 42 #[.int .u64 (L.get id).id, .int .u64 (L.get id).ver, .string (L.get id).text] (0, 0) _ rfl (blk_alloc (blk_new _ _) _) Try.underlying42 rfl (by kernel_rfl)) rfl ?_
  refine ⟨by simp [postV], ?_⟩
  repeat (first | exact Below.refl _ _ | apply below_alloc | refine below_set ?_ (by simp))
set_option maxHeartbeats 1000000 in
set_option maxRecDepth 100000 in
theorem Status_calls {w : World} {B g b n : Nat} {v : Value} {L : LG} (h : Led w B g b n v L) :
    Calls Try.prog 13 #[.pointer (some ⟨g, 0, none⟩)] w fun e w' => e = .returned (.agg #[.int .u64 L.next, .int .u64 L.newest, .int .i64 L.posts.length, .int .u64 L.cur]) ∧ Below w.heap.size w w' := by
  obtain ⟨⟨h0, h1, h2, h3⟩, hf⟩ := h.cells
  have hm := h.map
  have hgl : g < w.heap.size := (h.lt (.inl rfl)).2
  have HH := Aside0.mk h
  clear h
  go_enter Try.func13, Try.ntmps13
  go_wp2
  have hm' := Aside0.mk (show (w.alloc (.cells #[.int .u64 0, .int .u64 0, .int .i64 0, .int .u64 0] 37)).drew.ownsMap Try.prog 24 postR b n (mapD L.posts) from (hm.alloc _).drew)
  have hn := Aside0.mk (newest_calls (HH.out.below (below_alloc (Below.refl _ _) (.cells #[.int .u64 0, .int .u64 0, .int .i64 0, .int .u64 0] 37)).drew))
  clear hm
  refine region_tail 16 (by kernel_rfl) (by kernel_rfl) ?_
  simp only [List.take_succ_cons, List.take_zero, List.drop_succ_cons, List.drop_zero]
  repeat still_step
  still_call hn.out
  repeat still_step
  refine still_len rfl (.tmp 15) rfl rfl hm'.out ?_
  repeat still_step
  refine wpStill_nil ?_
  go_wp2
  refine bodyPost_ret (results_single rfl (.cell w.heap.size 37 #[.int .u64 L.next, .int .u64 L.newest, .int .i64 L.posts.length, .int .u64 L.cur] (0, 0) _ rfl (blk_new _ _) Try.underlying37 rfl (by kernel_rfl) .nil)) rfl ?_
  refine ⟨rfl, ?_⟩
  repeat (first | exact Below.refl _ _ | apply below_alloc | apply Below.drew)
theorem Led.polR {w : World} {B g b n : Nat} {v : Value} {L : LG} (h : Led w B g b n v L) : Kd.string.R 9 w B (fun k => v.ownBlock = some k) v L.pols := Kd.R_of_own h.row (fun k hk => hk)
theorem Led.pol_at {w : World} {B g b n : Nat} {v : Value} {L : LG} (h : Led w B g b n v L) : ∃ (A : Option Addr) (c : Nat), v = .slice A L.pols.length c ∧ L.pols.length ≤ c ∧ ∀ i : Int, 0 ≤ i → i < L.pols.length → ∃ ad, A = some ad ∧ w.cell? (ad.add i.toNat) = some (.string (rdOf ByteArray.empty L.pols i)) := by
  obtain ⟨A, c, e, hl, hC⟩ := Kd.R_reads h.polR
  exact ⟨A, c, e, hl, fun i h0 h1 => Kd.at_string hC i h0 h1⟩
def LG.pol (L : LG) (id : Int) : ByteArray := if id < 1 ∨ L.newest < id then ByteArray.empty else rdOf ByteArray.empty L.pols (id - 1)
set_option maxHeartbeats 1000000 in
set_option maxRecDepth 100000 in
theorem Policy_calls {w : World} {B g b n : Nat} {v : Value} {L : LG} (h : Led w B g b n v L) {id : Int} (hid : 0 ≤ id ∧ id ≤ 18446744073709551615) :
    Calls Try.prog 22 #[.pointer (some ⟨g, 0, none⟩), .int .u64 id] w fun e w' => e = .returned (.tuple #[.string (L.pol id), .bool (decide (¬ (id < 1 ∨ L.newest < id)))]) ∧ w' = w := by
  obtain ⟨⟨h0, h1, h2, h3⟩, hf⟩ := h.cells
  have hn := Aside0.mk (newest_calls h)
  obtain ⟨A, c, rfl, hl, hat⟩ := h.pol_at
  have hp := h.ok.pols
  clear h
  by_cases c1 : id < 1
  · have e1 : L.pol id = ByteArray.empty := by unfold LG.pol; rw [if_pos (.inl c1)]
    have c1b : decide (id < 1) = true := decide_eq_true c1
    rw [e1]
    have e2 : decide (¬ (id < 1 ∨ L.newest < id)) = false := by simp [c1]
    rw [e2]
    clear hat e1 e2 hl hp c1
    go_enter Try.func22, Try.ntmps22
    go_wp2_with (go_at_call 26; refine hn.out.mono ?_; rintro e w' ⟨rfl, rfl⟩)
    refine bodyPost_ret (results_tmp2 rfl _ _ _) rfl ?_
    exact ⟨rfl, rfl⟩
  · by_cases c2 : L.newest < id
    · have e1 : L.pol id = ByteArray.empty := by unfold LG.pol; rw [if_pos (.inr c2)]
      have c1b : decide (id < 1) = false := decide_eq_false c1
      have c2b : decide (L.newest < id) = true := decide_eq_true c2
      rw [e1]
      have e2 : decide (¬ (id < 1 ∨ L.newest < id)) = false := by simp [c2]
      rw [e2]
      clear hat e1 e2 hl hp c1 c2
      go_enter Try.func22, Try.ntmps22
      go_wp2_with (go_at_call 26; refine hn.out.mono ?_; rintro e w' ⟨rfl, rfl⟩)
      refine bodyPost_ret (results_tmp2 rfl _ _ _) rfl ?_
      exact ⟨rfl, rfl⟩
    · have e1 : L.pol id = rdOf ByteArray.empty L.pols (id - 1) := by unfold LG.pol; rw [if_neg (by omega)]
      have c1b : decide (id < 1) = false := decide_eq_false c1
      have c2b : decide (L.newest < id) = false := decide_eq_false c2
      have e2 : decide (¬ (id < 1 ∨ L.newest < id)) = true := by simp; omega
      have hnn : L.newest = (L.pols.length : Int) := rfl
      obtain ⟨j, hj⟩ : ∃ j, j = id - 1 := ⟨_, rfl⟩
      obtain ⟨ad, rfl, hc⟩ := hat j (by omega) (by omega)
      have e4 : IntKind.u64.wrap (id - 1) = j := by simp [IntKind.wrap, IntKind.bits, IntKind.signed]; omega
      rw [e1, e2, ← hj]
      have q1 := eq_true (show 0 ≤ j by omega)
      have q2 := eq_true (show j < (L.pols.length : Int) by omega)
      clear e1 e2 hat c1 c2 hnn hj
      go_enter Try.func22, Try.ntmps22
      go_wp2_with (go_at_call 26; refine hn.out.mono ?_; rintro e w' ⟨rfl, rfl⟩)
      refine bodyPost_ret (results_tmp2 rfl _ _ _) rfl ?_
      exact ⟨rfl, rfl⟩
end Go.Proofs.Ytjfkenjmjoncbaa.Lg

end

section
namespace Go.Proofs.Ytjfkenjmjoncbaa.Lg
open Go Go.Maps Go.WideShapes Go.RowKit Go.Proofs.Ytjfkenjmjoncbaa.PAll Go.Proofs.YtjfkenjmjoncbaaW.PrintWords Go.Proofs.YtjfkenjmjoncbaaW.PrintLast Go.Proofs.YtjfkenjmjoncbaaW.PrintMore
set_option linter.unusedVariables false
set_option linter.unusedSimpArgs false

def postC (p : LP) : Array Value := #[.int .u64 p.id, .int .u64 p.ver, .string p.text]
section
variable {ops : Array Oper} {rest : List Oper} {o : Oper} {a : Act} {Q : Exit → Act → World → Prop}
theorem wp_next (w : World) (hg : o.guard = none) (it : Operand) (hop : o.op = Op.next it false) (b r n : Nat) {l : List LP} (left : Lit → Bool) (cnt : Nat)
    (hit : a.eval it = .pointer (some ⟨r, 0, none⟩)) (h : w.ranges Try.prog 24 postR b r n (mapD l) left cnt)
    (hDone : cnt = 0 → (∀ kl, left kl = false) → wpList Try.prog ops Q rest (a.put o.dst (.tuple #[.bool false])) w)
    (hMore : ∀ (p : LP) (w' : World) (cnt' : Nat), p ∈ l → left (.int .u64 p.id) = true → w'.ranges Try.prog 24 postR b r n (mapD l) (fun z => left z && !z.sameKey (.int .u64 p.id)) cnt' → cnt' < cnt →
      w.grownBy w' (some r) → w'.heap.size = w.heap.size → (Instr.entry (.pointer (some ⟨r, 0, none⟩))).run Try.prog w' = .ok (.tuple #[.int .u64 p.id, .agg #[.int .u64 p.id, .int .u64 p.ver, .string p.text]]) w' →
      wpList Try.prog ops Q rest (a.put o.dst (.tuple #[.bool true, .int .u64 p.id, .agg #[.int .u64 p.id, .int .u64 p.ver, .string p.text]])) w') :
    wpList Try.prog ops Q (o :: rest) a w := by
  refine wpList_next_ranges w hg it hop 24 law24 postR (Value.int .u64) postV (fun key kl hkey => ?_) (fun v y hv => postR_inv v y hv) b r n (mapD l) left cnt hit h hDone (fun x c kl y w' cnt' hkey hl hv hat hrg hlt hgr hsz hen => ?_)
  · obtain ⟨x, rfl, _⟩ := Maps.keyOf_int_inv Try.underlying24 hkey
    exact ⟨x, rfl⟩
  · obtain ⟨x', ex, rfl, hwx⟩ := Maps.keyOf_int_inv Try.underlying24 hkey
    cases ex
    rw [postR_mk] at hv
    cases hv
    obtain ⟨hm, hf⟩ := mem_of_at hat
    have hid := id_of_find hf
    subst hid
    exact hMore c w' cnt' hm hl hrg hlt hgr hsz hen
end
def BestInv (L : LG) (left : Lit → Bool) (best : LP) : Prop :=
  (best = zeroP ∧ ∀ q ∈ L.posts, left (.int .u64 q.id) = false → L.cand q = false) ∨
  (best ∈ L.posts ∧ L.cand best = true ∧ ∀ q ∈ L.posts, left (.int .u64 q.id) = false → L.cand q = true → best.id ≤ q.id)
theorem best_start (L : LG) : BestInv L (Maps.has (mapD L.posts)) zeroP := by
  refine .inl ⟨rfl, fun q hq h => ?_⟩
  rw [mapD_has] at h
  rw [List.any_eq_false] at h
  exact absurd (by simp) (h q hq)
theorem left_struck {left : Lit → Bool} {p q : LP} (h : (left (.int .u64 q.id) && !(Lit.int .u64 q.id).sameKey (.int .u64 p.id)) = false) : left (.int .u64 q.id) = false ∨ q.id = p.id := by
  rw [same_u64] at h
  cases hl : left (.int .u64 q.id)
  · exact .inl rfl
  · rw [hl] at h
    simp at h
    exact .inr h
theorem best_not {L : LG} (hL : L.Ok) {left : Lit → Bool} {best p : LP} (h : BestInv L left best) (hp : p ∈ L.posts) (hc : L.cand p = false) : BestInv L (fun z => left z && !z.sameKey (.int .u64 p.id)) best := by
  rcases h with ⟨h1, h2⟩ | ⟨h1, h2, h3⟩
  · refine .inl ⟨h1, fun q hq hl => ?_⟩
    rcases left_struck hl with h | h
    · exact h2 q hq h
    · rw [hL.rise.uniq hq hp h]; exact hc
  · refine .inr ⟨h1, h2, fun q hq hl hcq => ?_⟩
    rcases left_struck hl with h | h
    · exact h3 q hq h hcq
    · rw [hL.rise.uniq hq hp h, hc] at hcq; cases hcq
theorem best_take {L : LG} (hL : L.Ok) {left : Lit → Bool} {best p : LP} (h : BestInv L left best) (hp : p ∈ L.posts) (hc : L.cand p = true) (ht : best.id = 0 ∨ p.id < best.id) : BestInv L (fun z => left z && !z.sameKey (.int .u64 p.id)) p := by
  refine .inr ⟨hp, hc, fun q hq hl hcq => ?_⟩
  rcases left_struck hl with hl | hl
  · rcases h with ⟨h1, h2⟩ | ⟨h1, h2, h3⟩
    · rw [h2 q hq hl] at hcq; cases hcq
    · have := h3 q hq hl hcq
      have := hL.ids best h1
      omega
  · omega
theorem best_stay {L : LG} (hL : L.Ok) {left : Lit → Bool} {best p : LP} (h : BestInv L left best) (hp : p ∈ L.posts) (hc : L.cand p = true) (h0 : best.id ≠ 0) (ht : ¬ p.id < best.id) : BestInv L (fun z => left z && !z.sameKey (.int .u64 p.id)) best := by
  rcases h with ⟨h1, h2⟩ | ⟨h1, h2, h3⟩
  · rw [h1] at h0; exact absurd rfl h0
  · refine .inr ⟨h1, h2, fun q hq hl hcq => ?_⟩
    rcases left_struck hl with h | h
    · exact h3 q hq h hcq
    · omega
theorem find_least {l : List LP} (h : Rise l) {f : LP → Bool} {b : LP} (hb : b ∈ l) (hf : f b = true) (hl : ∀ q ∈ l, f q = true → b.id ≤ q.id) : l.find? f = some b := by
  induction l with
  | nil => cases hb
  | cons a l ih =>
    obtain ⟨h1, h2⟩ := List.pairwise_cons.1 h
    by_cases ha : f a = true
    · rcases List.mem_cons.1 hb with rfl | hb'
      · rw [List.find?_cons_of_pos hf]
      · have := h1 b hb'
        have := hl a (List.mem_cons_self ..) ha
        omega
    · rcases List.mem_cons.1 hb with rfl | hb'
      · exact absurd hf ha
      · rw [List.find?_cons_of_neg ha]
        exact ih h2 hb' (fun q hq => hl q (List.mem_cons_of_mem _ hq))
def LG.staleP (L : LG) : LP := L.stale.getD zeroP
theorem best_end {L : LG} (hL : L.Ok) {left : Lit → Bool} {best : LP} (h : BestInv L left best) (hl : ∀ kl, left kl = false) : best = L.staleP ∧ (best.id != 0) = L.stale.isSome := by
  rcases h with ⟨h1, h2⟩ | ⟨h1, h2, h3⟩
  · have : L.stale = none := List.find?_eq_none.2 (fun q hq => by rw [h2 q hq (hl _)]; simp)
    rw [h1, LG.staleP, this]
    exact ⟨rfl, rfl⟩
  · have : L.stale = some best := find_least hL.rise h1 h2 (fun q hq hc => h3 q hq (hl _) hc)
    rw [LG.staleP, this]
    have := hL.ids best h1
    refine ⟨rfl, ?_⟩
    simp
    omega
theorem Led.grown {w w' : World} {B g b n r : Nat} {v : Value} {L : LG} (h : Led w B g b n v L) (hg : w.grownBy w' (some r)) (hr : ∀ j, Owns g b v j → j ≠ r) : Led w' B g b n v L :=
  h.mv (S := fun j => j = r) (.of_grown hg (fun j e => by cases e; rfl)) (fun j hj => hr j hj)
theorem blk_grown {w w' : World} {k r : Nat} {ob : Obj} (h : w.heap[k]? = some ob) (hg : w.grownBy w' (some r)) (hr : k ≠ r) : w'.heap[k]? = some ob :=
  (hg.block k (blk_lt h) (by simpa using hr)).trans h
theorem rg_mv {w w' : World} {S : Nat → Prop} {b r n : Nat} {l : List LP} {left : Lit → Bool} {cnt : Nat} (h : w.ranges Try.prog 24 postR b r n (mapD l) left cnt) (m : Mv S w w') (hb : ¬ S b) (hr : ¬ S r) : w'.ranges Try.prog 24 postR b r n (mapD l) left cnt := by
  have h1 := h.owns.lt
  have h2 := h.lt
  obtain ⟨es, clock, since, seen, c0, e1, F, e2, e3, e4, rest⟩ := h
  exact ⟨es, clock, since, seen, c0, (m.block b h1 hb).trans e1, F, e2, e3, (m.block r h2 hr).trans e4, rest⟩
theorem mv_below {S : Nat → Prop} {B : Nat} {w w1 w2 : World} (h : Below B w w1) (m : Mv S w1 w2) (hS : ∀ j, S j → B ≤ j) (hB : B ≤ w1.heap.size) : Below B w w2 := h.trans (m.below hS hB)
theorem stale_end {w wr w1 w2 : World} {b n : Nat} {L : LG} {best : LP} {left0 : Lit → Bool} {cnt0 cnt1 : Nat} (hr0 : wr.ranges Try.prog 24 postR b (w.heap.size + 2) n (mapD L.posts) left0 cnt0) (hlt : cnt1 < cnt0)
    {left : Lit → Bool} (h : w1.ranges Try.prog 24 postR b (w.heap.size + 2) n (mapD L.posts) left cnt1) (hb : b < w.heap.size)
    (hres : w1.heap[w.heap.size]? = some (.cells (postC zeroP) 42 (0, 0))) (hB : Below w.heap.size w w1) (hsz : w.heap.size + 2 < w1.heap.size) (hm : Mv (fun k => k = w.heap.size + 1) w1 w2)
    (hbest : w2.heap[w.heap.size + 1]? = some (.cells (postC best) 42 (0, 0))) (hinv : BestInv L left best) :
    (∃ (left : Lit → Bool) (cnt : Nat) (best : LP), Aside0 (w2.ranges Try.prog 24 postR b (w.heap.size + 2) n (mapD L.posts) left cnt) ∧ Aside0 (BestInv L left best) ∧
      Aside0 (w2.heap[w.heap.size]? = some (.cells (postC zeroP) 42 (0, 0))) ∧ Aside0 (w2.heap[w.heap.size + 1]? = some (.cells (postC best) 42 (0, 0))) ∧ Aside0 (Below w.heap.size w w2) ∧ Aside0 (w.heap.size + 2 < w2.heap.size)) ∧
    w2.rangeLeft b (w.heap.size + 2) < wr.rangeLeft b (w.heap.size + 2) := by
  have h2 := rg_mv h hm (by omega) (by omega)
  refine ⟨⟨left, cnt1, best, ⟨h2⟩, ⟨hinv⟩, ⟨(hm.block _ (by omega) (by omega)).trans hres⟩, ⟨hbest⟩, ⟨mv_below hB hm (fun j hj => by omega) (by omega)⟩, ⟨Nat.lt_of_lt_of_le hsz hm.size⟩⟩, ?_⟩
  rw [h2.left_eq, hr0.left_eq]
  exact hlt
theorem mv_best {w1 w2 : World} {k : Nat} {best p : LP} (m : Mv (fun j => j = k) w1 w2) (hb : w2.heap[k]? = some (.cells (postC best) 42 (0, 0))) :
    Mv (fun j => j = k) w1 (((w2.setCell ⟨k, 0, none⟩ (.int .u64 p.id)).setCell ⟨k, 1, none⟩ (.int .u64 p.ver)).setCell ⟨k, 2, none⟩ (.string p.text)) ∧
    (((w2.setCell ⟨k, 0, none⟩ (.int .u64 p.id)).setCell ⟨k, 1, none⟩ (.int .u64 p.ver)).setCell ⟨k, 2, none⟩ (.string p.text)).heap[k]? = some (.cells (postC p) 42 (0, 0)) :=
  ⟨((m.trans (.set (S := fun j => j = k) _ rfl) (S' := fun j => j = k) (fun j hj => .inl hj)).trans (.set (S := fun j => j = k) _ rfl) (S' := fun j => j = k) (fun j hj => .inl hj)).trans (.set (S := fun j => j = k) _ rfl) (S' := fun j => j = k) (fun j hj => .inl hj),
   blk_put (cs := #[.int .u64 p.id, .int .u64 p.ver, .string best.text]) (blk_put (cs := #[.int .u64 p.id, .int .u64 best.ver, .string best.text]) (blk_put (cs := postC best) hb 0 _ rfl) 1 _ rfl) 2 _ rfl⟩
theorem mv_new (w : World) (o : Obj) (m : Nat) (S : Nat → Prop) : Mv S w ((w.alloc o).drewN m) := .of_below (pw_below_drewN (below_alloc (Below.refl _ _) o) m)
set_option maxHeartbeats 4000000 in
set_option maxRecDepth 100000 in
theorem Stale_calls {w : World} {B g b n : Nat} {v : Value} {L : LG} (h : Led w B g b n v L) :
    Calls Try.prog 16 #[.pointer (some ⟨g, 0, none⟩)] w fun e w' => e = .returned (.tuple #[postV L.staleP, .bool L.stale.isSome]) ∧ Below w.heap.size w w' := by
  obtain ⟨⟨h0, h1, h2, h3⟩, hf⟩ := h.cells
  have hm := Aside0.mk h.map
  have hgl : g < w.heap.size := (h.lt (.inl rfl)).2
  have hown := Aside0.mk (fun j (hj : Owns g b v j) => (h.lt hj).2)
  have hok := Aside0.mk h.ok
  have HH := Aside0.mk h
  have e1 : ((w.alloc (.cells #[.int .u64 0, .int .u64 0, .string ⟨#[]⟩] 42)).alloc (.cells #[.int .u64 0, .int .u64 0, .string ⟨#[]⟩] 42)).heap.size = w.heap.size + 2 := by simp
  clear h
  go_enter Try.func16, Try.ntmps16
  go_wp2_with (at_range; refine wpList_range_own _ rfl _ 67 rfl 24 42 law24 Try.underlying67 _ b n _ rfl ((hm.out.alloc _).alloc _) ?_; intro w0 hrg0 hg0 hs0)
  go_frame
  rw [e1] at hrg0 hs0 ⊢
  have hB0 : Below w.heap.size w w0 := ((below_alloc (below_alloc (Below.refl _ _) _) _)).grown hg0 (by rw [e1]; omega) (fun j hj => by cases hj)
  have hres0 : w0.heap[w.heap.size]? = some (.cells (postC zeroP) 42 (0, 0)) := (hg0.block _ (by rw [e1]; omega) (by simp)).trans (blk_alloc (blk_new _ _) _)
  have hbst0 : w0.heap[w.heap.size + 1]? = some (.cells (postC zeroP) 42 (0, 0)) := (hg0.block _ (by rw [e1]; omega) (by simp)).trans (by
    have := blk_new (w.alloc (.cells #[.int .u64 0, .int .u64 0, .string ⟨#[]⟩] 42)) (.cells #[.int .u64 0, .int .u64 0, .string ⟨#[]⟩] 42)
    rwa [show (w.alloc (.cells #[.int .u64 0, .int .u64 0, .string ⟨#[]⟩] 42)).heap.size = w.heap.size + 1 by simp] at this)
  have X0 := Aside0.mk hrg0
  have X1 := Aside0.mk hB0
  have X2 := Aside0.mk hres0
  have X3 := Aside0.mk hbst0
  have X4 := Aside0.mk (show w.heap.size + 2 < w0.heap.size by omega)
  clear hrg0 hB0 hres0 hbst0 hg0 hs0 h0 h1 h2 h3 hf e1
  go_loopw [6] (fun _ wr => ∃ (left : Lit → Bool) (cnt : Nat) (best : LP), Aside0 (wr.ranges Try.prog 24 postR b (w.heap.size + 2) n (mapD L.posts) left cnt) ∧ Aside0 (BestInv L left best) ∧
      Aside0 (wr.heap[w.heap.size]? = some (.cells (postC zeroP) 42 (0, 0))) ∧ Aside0 (wr.heap[w.heap.size + 1]? = some (.cells (postC best) 42 (0, 0))) ∧ Aside0 (Below w.heap.size w wr) ∧ Aside0 (w.heap.size + 2 < wr.heap.size))
    (fun _ wr => wr.rangeLeft b (w.heap.size + 2))
  case atStart => exact ⟨_, _, zeroP, X0, ⟨best_start L⟩, X2, X3, X1, X4⟩
  case round =>
    obtain ⟨left, cnt, best, hrg, hinv, hres, hbst, hB, hsz⟩ := hrel
    go_wp2_with (at_next; refine wp_next _ rfl _ rfl b (w.heap.size + 2) n _ _ rfl hrg.out ?_ ?_)
    · intro hc0 hl0
      obtain ⟨eb, ei⟩ := best_end hok.out hinv.out hl0
      have k0 : wr.cell? ⟨w.heap.size + 1, 0, none⟩ = some (.int .u64 best.id) := (blk_cell hbst.out 0).trans rfl
      have k1 : wr.cell? ⟨w.heap.size + 1, 1, none⟩ = some (.int .u64 best.ver) := (blk_cell hbst.out 1).trans rfl
      have k2 : wr.cell? ⟨w.heap.size + 1, 2, none⟩ = some (.string best.text) := (blk_cell hbst.out 2).trans rfl
      have m0 := blk_frozen hbst.out 0
      have m1 := blk_frozen hbst.out 1
      have m2 := blk_frozen hbst.out 2
      have j0 : wr.cell? ⟨w.heap.size, 0, none⟩ = some (.int .u64 0) := (blk_cell hres.out 0).trans rfl
      have j1 : wr.cell? ⟨w.heap.size, 1, none⟩ = some (.int .u64 0) := (blk_cell hres.out 1).trans rfl
      have j2 : wr.cell? ⟨w.heap.size, 2, none⟩ = some (.string ⟨#[]⟩) := (blk_cell hres.out 2).trans rfl
      have f0 := blk_frozen hres.out 0
      have f1 := blk_frozen hres.out 1
      have f2 := blk_frozen hres.out 2
      have EB := Aside0.mk eb
      have EI := Aside0.mk ei
      clear eb ei
      go_wp2
      go_region
      all_goals go_wp2
      all_goals refine bodyPost_ret (results_list (rs := [.cell 2 42, .tmp 3]) rfl (by simp) (.cell w.heap.size 42 (postC best) (0, 0) _ rfl ?_ Try.underlying42 rfl (by kernel_rfl) (.tmp .nil))) rfl ?_
      all_goals first | (refine ⟨?_, ?_⟩; (rw [← EB.out, ← EI.out]; rfl); (repeat (first | exact hB.out | apply below_alloc | apply Below.drew | refine below_set ?_ (Nat.le_refl _))); done) | skip
      all_goals exact blk_drew (blk_put (cs := #[.int .u64 best.id, .int .u64 best.ver, .string ⟨#[]⟩]) (blk_put (cs := #[.int .u64 best.id, .int .u64 0, .string ⟨#[]⟩]) (blk_put (cs := postC zeroP) hres.out 0 _ rfl) 1 _ rfl) 2 _ rfl)
    · intro p w1 cnt1 hp hlx hrg1 hlt hg1 hs1 hen
      have HL1 := Aside0.mk ((HH.out.below hB.out).grown hg1 (fun j hj => by have := hown.out j hj; omega))
      have hres1 := Aside0.mk (blk_grown hres.out hg1 (by omega))
      have hbst1 := Aside0.mk (blk_grown hbst.out hg1 (by omega))
      have hB1 := Aside0.mk (hB.out.grown hg1 hB.out.size (fun j hj => by cases hj; omega))
      have hsz1 := Aside0.mk (show w.heap.size + 2 < w1.heap.size by have := hsz.out; omega)
      clear hres hbst hB hsz hs1 hg1
      have HP := Aside0.mk hp
      have HR1 := Aside0.mk hrg1
      clear hp hrg1
      have HN := Aside0.mk (fun m => newest_calls ((HL1.out.below (below_alloc (Below.refl _ _) (.cells (postC p) 42))).below (pw_below_drewN (Below.refl _ _) m)))
      obtain ⟨⟨h0, h1, h2, h3⟩, hf⟩ := HL1.out.cells
      have hgl1 : g < w1.heap.size := by have := hsz1.out; omega
      have k0 : w1.cell? ⟨w.heap.size + 1, 0, none⟩ = some (.int .u64 best.id) := (blk_cell hbst1.out 0).trans rfl
      have k1 : w1.cell? ⟨w.heap.size + 1, 1, none⟩ = some (.int .u64 best.ver) := (blk_cell hbst1.out 1).trans rfl
      have k2 : w1.cell? ⟨w.heap.size + 1, 2, none⟩ = some (.string best.text) := (blk_cell hbst1.out 2).trans rfl
      have m0 := blk_frozen hbst1.out 0
      have m1 := blk_frozen hbst1.out 1
      have m2 := blk_frozen hbst1.out 2
      have hbl1 : w.heap.size + 1 < w1.heap.size := by have := hsz1.out; omega
      have hbN := Aside0.mk (show b < w.heap.size from hown.out b (.inr (.inl rfl)))
      by_cases c1 : p.ver = L.newest
      · have c1b : (p.ver != L.newest) = false := bne_eq_false_iff_eq.2 c1
        have hc := Aside0.mk (show L.cand p = false by unfold LG.cand; simp [c1])
        clear c1
        go_wp2
        go_quiet ((go_at_call 26; refine Calls.quiet_of_same (HN.out _)))
        go_wp2
        exact stale_end hrg.out hlt HR1.out hbN.out hres1.out hB1.out hsz1.out (mv_new _ _ _ _) ((mv_new w1 _ nq (fun _ => False)).block _ hbl1 id |>.trans hbst1.out) (best_not hok.out hinv.out HP.out hc.out)
      · have c1b : (p.ver != L.newest) = true := bne_iff_ne.2 c1
        by_cases c2 : L.cur < p.id
        · have c2b : decide (L.cur < p.id) = true := decide_eq_true c2
          have hc := Aside0.mk (show L.cand p = true by unfold LG.cand; simp [c1, c2])
          by_cases c3 : best.id = 0
          · have c3b : (best.id == 0) = true := beq_iff_eq.2 c3
            have hi := Aside0.mk (best_take hok.out hinv.out HP.out hc.out (.inl c3))
            clear c1 c2 c3
            go_wp2
            go_quiet ((go_at_call 26; refine Calls.quiet_of_same (HN.out _)))
            go_wp2
            obtain ⟨hmb, hbb⟩ := mv_best (p := p) (mv_new w1 (.cells #[.int .u64 p.id, .int .u64 p.ver, .string p.text] 42) nq (fun j => j = w.heap.size + 1)) ((mv_new w1 _ nq (fun _ => False)).block _ hbl1 id |>.trans hbst1.out)
            exact stale_end hrg.out hlt HR1.out hbN.out hres1.out hB1.out hsz1.out hmb hbb hi.out
          · have c3b : (best.id == 0) = false := beq_eq_false_iff_ne.2 c3
            by_cases c4 : p.id < best.id
            · have c4b : decide (p.id < best.id) = true := decide_eq_true c4
              have hi := Aside0.mk (best_take hok.out hinv.out HP.out hc.out (.inr c4))
              clear c1 c2 c3 c4
              go_wp2
              go_quiet ((go_at_call 26; refine Calls.quiet_of_same (HN.out _)))
              go_wp2
              obtain ⟨hmb, hbb⟩ := mv_best (p := p) (mv_new w1 (.cells #[.int .u64 p.id, .int .u64 p.ver, .string p.text] 42) nq (fun j => j = w.heap.size + 1)) ((mv_new w1 _ nq (fun _ => False)).block _ hbl1 id |>.trans hbst1.out)
              exact stale_end hrg.out hlt HR1.out hbN.out hres1.out hB1.out hsz1.out hmb hbb hi.out
            · have c4b : decide (p.id < best.id) = false := decide_eq_false c4
              have hi := Aside0.mk (best_stay hok.out hinv.out HP.out hc.out c3 c4)
              clear c1 c2 c3 c4
              go_wp2
              go_quiet ((go_at_call 26; refine Calls.quiet_of_same (HN.out _)))
              go_wp2
              exact stale_end hrg.out hlt HR1.out hbN.out hres1.out hB1.out hsz1.out (mv_new _ _ _ _) ((mv_new w1 _ nq (fun _ => False)).block _ hbl1 id |>.trans hbst1.out) hi.out
        · have c2b : decide (L.cur < p.id) = false := decide_eq_false c2
          have hc := Aside0.mk (show L.cand p = false by unfold LG.cand; simp [c2])
          clear c1 c2
          go_wp2
          go_quiet ((go_at_call 26; refine Calls.quiet_of_same (HN.out _)))
          go_wp2
          exact stale_end hrg.out hlt HR1.out hbN.out hres1.out hB1.out hsz1.out (mv_new _ _ _ _) ((mv_new w1 _ nq (fun _ => False)).block _ hbl1 id |>.trans hbst1.out) (best_not hok.out hinv.out HP.out hc.out)
end Go.Proofs.Ytjfkenjmjoncbaa.Lg

end

section
namespace Go.Proofs.Ytjfkenjmjoncbaa.Lg
open Go Go.Maps Go.WideShapes Go.RowKit Go.Proofs.Ytjfkenjmjoncbaa.PAll Go.Proofs.YtjfkenjmjoncbaaW.PrintWords Go.Proofs.YtjfkenjmjoncbaaW.PrintLast Go.Proofs.YtjfkenjmjoncbaaW.PrintMore
set_option linter.unusedVariables false
set_option linter.unusedSimpArgs false

theorem check_is (r : RC) : record_Check.f 3 r.kind r.id r.ver r.text = some (if r.ok = true then 0 else 1) := by
  obtain ⟨a, b, c, s⟩ := r
  have hn : s.toList = ([] : List UInt8) ↔ s = ByteArray.empty := by
    rw [ByteArray.toList_eq]
    constructor
    · intro h
      cases s
      rename_i d
      cases d
      simp at h
      subst h
      rfl
    · intro h
      rw [h]
      rfl
  have hbe : (s.toList == ([] : List UInt8)) = decide (s = ByteArray.empty) := by
    rw [Bool.eq_iff_iff, beq_iff_eq, decide_eq_true_eq]
    exact hn
  unfold RC.ok
  simp only [record_Check.f, record_Check.j0, record_Check.j1, record_Check.j2, hbe]
  by_cases h1 : a = 1
  · subst h1
    by_cases h2 : b > 0 <;> by_cases h3 : c > 0 <;> by_cases h4 : s.size ≤ 4096 <;> simp [h2, h3, h4] <;> omega
  by_cases h4 : a = 4
  · subst h4
    by_cases h2 : b > 0 <;> by_cases h3 : c > 0 <;> by_cases h4 : s.size ≤ 4096 <;> simp [h2, h3, h4] <;> omega
  by_cases h2 : a = 2
  · subst h2
    by_cases h2 : b > 0 <;> by_cases h3 : c = 0 <;> by_cases h4 : s = ByteArray.empty <;> simp [h2, h3, h4]
  by_cases h3 : a = 3
  · subst h3
    by_cases h2 : b = 0 <;> by_cases h3 : c > 0 <;> by_cases h4 : s.size ≤ 2000 <;> simp [h2, h3, h4] <;> omega
  simp [h1, h2, h3, h4]
def recV (r : RC) : Value := .agg #[.int .i64 r.kind, .int .u64 r.id, .int .u64 r.ver, .string r.text]
theorem newest_wrap {L : LG} (h : L.Ok) : IntKind.u64.wrap (L.newest + 1) = L.newest + 1 := by
  have := h.pols
  unfold LG.newest
  simp [IntKind.wrap, IntKind.bits, IntKind.signed]
  omega
theorem look_run {w : World} {b n : Nat} {L : LG} {id : Int} (hown : w.ownsMap Try.prog 24 postR b n (mapD L.posts)) (hkey : keyOf Try.prog 24 (.int .u64 id) = some (.int .u64 id)) :
    (Instr.lookup 67 (.map (some b)) (.int .u64 id) true).run Try.prog w = .ok (.tuple #[.agg #[.int .u64 (L.get id).id, .int .u64 (L.get id).ver, .string (L.get id).text], .bool (L.is id)]) w := by
  obtain ⟨v, ps, hrun, hv⟩ := hown.look_ok law24 Try.underlying67 (zero42 w) (postR_mk zeroP) hkey
  rw [get_at hv, mapD_has] at hrun
  exact hrun
set_option maxHeartbeats 4000000 in
set_option maxRecDepth 100000 in
theorem applies_not {w : World} {B g b n : Nat} {v : Value} {L : LG} (h : Led w B g b n v L) {kd id ver : Int} {text : ByteArray} (hid : 0 ≤ id ∧ id ≤ 18446744073709551615) (hok : (RC.ok ⟨kd, id, ver, text⟩) = false) (hkd : True) :
    Calls Try.prog 27 #[.pointer (some ⟨g, 0, none⟩), .agg #[.int .i64 kd, .int .u64 id, .int .u64 ver, .string text]] w fun e w' => e = .returned (.bool (L.applies ⟨kd, id, ver, text⟩)) ∧ Below w.heap.size w w' := by
  have HID := Aside0.mk hid
  have HC := Aside0.mk (check_is ⟨kd, id, ver, text⟩)
  rw [hok] at HC
  have HH := Aside0.mk h
  clear h hid
  have ha : L.applies ⟨kd, id, ver, text⟩ = false := by unfold LG.applies; rw [hok]; rfl
  rw [ha]
  clear hok hkd ha
  simp only [Bool.false_eq_true, if_false] at HC
  go_enter Try.func27, Try.ntmps27
  go_wp2_with (first
    | ((with_reducible refine gate_dst (N := 3) rfl ?_); refine box_event ?hg (N := 3) ?hd (cs := #[.int .i64 kd, .int .u64 id, .int .u64 ver, .string text]) (t := 26) ?hr ?_; (case hd => rfl); (case hg => rfl); (case hr => first | (go_simp; done) | (go_simp; rfl)); intro gb hg w3 hbox hb; have HB3 := Aside0.mk hb; have BK3 := Aside0.mk hbox; have c0 : w3.cell? ⟨gb, 0, none⟩ = some (.int .i64 kd) := (blk_cell hbox 0).trans rfl; have c1 : w3.cell? ⟨gb, 1, none⟩ = some (.int .u64 id) := (blk_cell hbox 1).trans rfl; have c2 : w3.cell? ⟨gb, 2, none⟩ = some (.int .u64 ver) := (blk_cell hbox 2).trans rfl; have c3 : w3.cell? ⟨gb, 3, none⟩ = some (.string text) := (blk_cell hbox 3).trans rfl; clear hg hbox hb)
    | (go_at_call 44; refine (record_Check.calls 3 _ _ _ _ _ _ HC.out).mono ?_; rintro e w4 ⟨rfl, hb4⟩; have HB4 := Aside0.mk (HB3.out.trans (hb4.mono HB3.out.size)); have BK4 := Aside0.mk (blk_below BK3.out hb4); clear c0 c1 c2 c3; have c0 : w4.cell? ⟨gb, 0, none⟩ = some (.int .i64 kd) := (blk_cell BK4.out 0).trans rfl; have c1 : w4.cell? ⟨gb, 1, none⟩ = some (.int .u64 id) := (blk_cell BK4.out 1).trans rfl; have c2 : w4.cell? ⟨gb, 2, none⟩ = some (.int .u64 ver) := (blk_cell BK4.out 2).trans rfl; have c3 : w4.cell? ⟨gb, 3, none⟩ = some (.string text) := (blk_cell BK4.out 3).trans rfl; have HL4 := Aside0.mk (HH.out.below HB4.out); obtain ⟨⟨h0, h1, h2, h3⟩, hf⟩ := HL4.out.cells; have HM4 := Aside0.mk HL4.out.map; have hgl : g < w4.heap.size := (HL4.out.lt (.inl rfl)).2; have hgb : gb < w4.heap.size := blk_lt BK4.out; have HN := Aside0.mk (fun m => newest_calls (HL4.out.below (pw_below_drewN (Below.refl _ _) m))); clear hb4))
  go_ret
  exact ⟨rfl, by repeat (first | exact HB4.out | apply Below.drew | apply below_alloc | apply pw_below_drewN | apply below_drew1)⟩
set_option maxHeartbeats 4000000 in
set_option maxRecDepth 100000 in
theorem applies_post {w : World} {B g b n : Nat} {v : Value} {L : LG} (h : Led w B g b n v L) {kd id ver : Int} {text : ByteArray} (hid : 0 ≤ id ∧ id ≤ 18446744073709551615) (hok : (RC.ok ⟨kd, id, ver, text⟩) = true) (hkd : kd = 1) :
    Calls Try.prog 27 #[.pointer (some ⟨g, 0, none⟩), .agg #[.int .i64 kd, .int .u64 id, .int .u64 ver, .string text]] w fun e w' => e = .returned (.bool (L.applies ⟨kd, id, ver, text⟩)) ∧ Below w.heap.size w w' := by
  have HID := Aside0.mk hid
  have HC := Aside0.mk (check_is ⟨kd, id, ver, text⟩)
  rw [hok] at HC
  have HH := Aside0.mk h
  clear h hid
  subst hkd
  have ha : L.applies ⟨1, id, ver, text⟩ = (decide (id = L.next) && decide (id < 9223372036854775807) && decide (ver = L.newest)) := by unfold LG.applies; rw [hok]; rfl
  rw [ha]
  clear hok ha
  simp only [if_true] at HC
  by_cases e1 : id = L.next
  · have e1b : (id == L.next) = true := beq_iff_eq.2 e1
    by_cases e2 : id < 9223372036854775807
    · have e2b : decide (id < 9223372036854775807) = true := decide_eq_true e2
      rw [e2b, show decide (id = L.next) = true from decide_eq_true e1, show decide (ver = L.newest) = (ver == L.newest) from rfl]
      clear e1 e2
      go_enter Try.func27, Try.ntmps27
      go_wp2_with (first
        | ((with_reducible refine gate_dst (N := 3) rfl ?_); refine box_event ?hg (N := 3) ?hd (cs := #[.int .i64 1, .int .u64 id, .int .u64 ver, .string text]) (t := 26) ?hr ?_; (case hd => rfl); (case hg => rfl); (case hr => first | (go_simp; done) | (go_simp; rfl)); intro gb hg w3 hbox hb; have HB3 := Aside0.mk hb; have BK3 := Aside0.mk hbox; have c0 : w3.cell? ⟨gb, 0, none⟩ = some (.int .i64 1) := (blk_cell hbox 0).trans rfl; have c1 : w3.cell? ⟨gb, 1, none⟩ = some (.int .u64 id) := (blk_cell hbox 1).trans rfl; have c2 : w3.cell? ⟨gb, 2, none⟩ = some (.int .u64 ver) := (blk_cell hbox 2).trans rfl; have c3 : w3.cell? ⟨gb, 3, none⟩ = some (.string text) := (blk_cell hbox 3).trans rfl; clear hg hbox hb)
        | (go_at_call 44; refine (record_Check.calls 3 _ _ _ _ _ _ HC.out).mono ?_; rintro e w4 ⟨rfl, hb4⟩; have HB4 := Aside0.mk (HB3.out.trans (hb4.mono HB3.out.size)); have BK4 := Aside0.mk (blk_below BK3.out hb4); clear c0 c1 c2 c3; have c0 : w4.cell? ⟨gb, 0, none⟩ = some (.int .i64 1) := (blk_cell BK4.out 0).trans rfl; have c1 : w4.cell? ⟨gb, 1, none⟩ = some (.int .u64 id) := (blk_cell BK4.out 1).trans rfl; have c2 : w4.cell? ⟨gb, 2, none⟩ = some (.int .u64 ver) := (blk_cell BK4.out 2).trans rfl; have c3 : w4.cell? ⟨gb, 3, none⟩ = some (.string text) := (blk_cell BK4.out 3).trans rfl; have HL4 := Aside0.mk (HH.out.below HB4.out); obtain ⟨⟨h0, h1, h2, h3⟩, hf⟩ := HL4.out.cells; have HM4 := Aside0.mk HL4.out.map; have hgl : g < w4.heap.size := (HL4.out.lt (.inl rfl)).2; have hgb : gb < w4.heap.size := blk_lt BK4.out; have HN := Aside0.mk (fun m => newest_calls (HL4.out.below (pw_below_drewN (Below.refl _ _) m))); clear hb4))
      go_quiet ((go_at_call 26; refine Calls.quiet_of_same (HN.out _)))
      go_wp2
      go_ret
      exact ⟨rfl, by repeat (first | exact HB4.out | apply Below.drew | apply below_alloc | apply pw_below_drewN | apply below_drew1)⟩
    · have e2b : decide (id < 9223372036854775807) = false := decide_eq_false e2
      rw [e2b, Bool.and_false, Bool.false_and]
      clear e1 e2
      go_enter Try.func27, Try.ntmps27
      go_wp2_with (first
        | ((with_reducible refine gate_dst (N := 3) rfl ?_); refine box_event ?hg (N := 3) ?hd (cs := #[.int .i64 1, .int .u64 id, .int .u64 ver, .string text]) (t := 26) ?hr ?_; (case hd => rfl); (case hg => rfl); (case hr => first | (go_simp; done) | (go_simp; rfl)); intro gb hg w3 hbox hb; have HB3 := Aside0.mk hb; have BK3 := Aside0.mk hbox; have c0 : w3.cell? ⟨gb, 0, none⟩ = some (.int .i64 1) := (blk_cell hbox 0).trans rfl; have c1 : w3.cell? ⟨gb, 1, none⟩ = some (.int .u64 id) := (blk_cell hbox 1).trans rfl; have c2 : w3.cell? ⟨gb, 2, none⟩ = some (.int .u64 ver) := (blk_cell hbox 2).trans rfl; have c3 : w3.cell? ⟨gb, 3, none⟩ = some (.string text) := (blk_cell hbox 3).trans rfl; clear hg hbox hb)
        | (go_at_call 44; refine (record_Check.calls 3 _ _ _ _ _ _ HC.out).mono ?_; rintro e w4 ⟨rfl, hb4⟩; have HB4 := Aside0.mk (HB3.out.trans (hb4.mono HB3.out.size)); have BK4 := Aside0.mk (blk_below BK3.out hb4); clear c0 c1 c2 c3; have c0 : w4.cell? ⟨gb, 0, none⟩ = some (.int .i64 1) := (blk_cell BK4.out 0).trans rfl; have c1 : w4.cell? ⟨gb, 1, none⟩ = some (.int .u64 id) := (blk_cell BK4.out 1).trans rfl; have c2 : w4.cell? ⟨gb, 2, none⟩ = some (.int .u64 ver) := (blk_cell BK4.out 2).trans rfl; have c3 : w4.cell? ⟨gb, 3, none⟩ = some (.string text) := (blk_cell BK4.out 3).trans rfl; have HL4 := Aside0.mk (HH.out.below HB4.out); obtain ⟨⟨h0, h1, h2, h3⟩, hf⟩ := HL4.out.cells; have HM4 := Aside0.mk HL4.out.map; have hgl : g < w4.heap.size := (HL4.out.lt (.inl rfl)).2; have hgb : gb < w4.heap.size := blk_lt BK4.out; have HN := Aside0.mk (fun m => newest_calls (HL4.out.below (pw_below_drewN (Below.refl _ _) m))); clear hb4))
      go_quiet ((go_at_call 26; refine Calls.quiet_of_same (HN.out _)))
      go_wp2
      go_ret
      exact ⟨rfl, by repeat (first | exact HB4.out | apply Below.drew | apply below_alloc | apply pw_below_drewN | apply below_drew1)⟩
  · have e1b : (id == L.next) = false := beq_eq_false_iff_ne.2 e1
    rw [show decide (id = L.next) = false from decide_eq_false e1, Bool.false_and, Bool.false_and]
    clear e1
    go_enter Try.func27, Try.ntmps27
    go_wp2_with (first
      | ((with_reducible refine gate_dst (N := 3) rfl ?_); refine box_event ?hg (N := 3) ?hd (cs := #[.int .i64 1, .int .u64 id, .int .u64 ver, .string text]) (t := 26) ?hr ?_; (case hd => rfl); (case hg => rfl); (case hr => first | (go_simp; done) | (go_simp; rfl)); intro gb hg w3 hbox hb; have HB3 := Aside0.mk hb; have BK3 := Aside0.mk hbox; have c0 : w3.cell? ⟨gb, 0, none⟩ = some (.int .i64 1) := (blk_cell hbox 0).trans rfl; have c1 : w3.cell? ⟨gb, 1, none⟩ = some (.int .u64 id) := (blk_cell hbox 1).trans rfl; have c2 : w3.cell? ⟨gb, 2, none⟩ = some (.int .u64 ver) := (blk_cell hbox 2).trans rfl; have c3 : w3.cell? ⟨gb, 3, none⟩ = some (.string text) := (blk_cell hbox 3).trans rfl; clear hg hbox hb)
      | (go_at_call 44; refine (record_Check.calls 3 _ _ _ _ _ _ HC.out).mono ?_; rintro e w4 ⟨rfl, hb4⟩; have HB4 := Aside0.mk (HB3.out.trans (hb4.mono HB3.out.size)); have BK4 := Aside0.mk (blk_below BK3.out hb4); clear c0 c1 c2 c3; have c0 : w4.cell? ⟨gb, 0, none⟩ = some (.int .i64 1) := (blk_cell BK4.out 0).trans rfl; have c1 : w4.cell? ⟨gb, 1, none⟩ = some (.int .u64 id) := (blk_cell BK4.out 1).trans rfl; have c2 : w4.cell? ⟨gb, 2, none⟩ = some (.int .u64 ver) := (blk_cell BK4.out 2).trans rfl; have c3 : w4.cell? ⟨gb, 3, none⟩ = some (.string text) := (blk_cell BK4.out 3).trans rfl; have HL4 := Aside0.mk (HH.out.below HB4.out); obtain ⟨⟨h0, h1, h2, h3⟩, hf⟩ := HL4.out.cells; have HM4 := Aside0.mk HL4.out.map; have hgl : g < w4.heap.size := (HL4.out.lt (.inl rfl)).2; have hgb : gb < w4.heap.size := blk_lt BK4.out; have HN := Aside0.mk (fun m => newest_calls (HL4.out.below (pw_below_drewN (Below.refl _ _) m))); clear hb4))
    go_quiet ((go_at_call 26; refine Calls.quiet_of_same (HN.out _)))
    go_wp2
    go_ret
    exact ⟨rfl, by repeat (first | exact HB4.out | apply Below.drew | apply below_alloc | apply pw_below_drewN | apply below_drew1)⟩
set_option maxHeartbeats 4000000 in
set_option maxRecDepth 100000 in
theorem applies_delete {w : World} {B g b n : Nat} {v : Value} {L : LG} (h : Led w B g b n v L) {kd id ver : Int} {text : ByteArray} (hid : 0 ≤ id ∧ id ≤ 18446744073709551615) (hok : (RC.ok ⟨kd, id, ver, text⟩) = true) (hkd : kd = 2) :
    Calls Try.prog 27 #[.pointer (some ⟨g, 0, none⟩), .agg #[.int .i64 kd, .int .u64 id, .int .u64 ver, .string text]] w fun e w' => e = .returned (.bool (L.applies ⟨kd, id, ver, text⟩)) ∧ Below w.heap.size w w' := by
  have HID := Aside0.mk hid
  have HC := Aside0.mk (check_is ⟨kd, id, ver, text⟩)
  rw [hok] at HC
  have HH := Aside0.mk h
  clear h hid
  subst hkd
  have ha : L.applies ⟨2, id, ver, text⟩ = L.is id := by unfold LG.applies; rw [hok]; rfl
  rw [ha]
  clear hok ha
  simp only [if_true] at HC
  have hk := Aside0.mk (keyOf_int_mk Try.underlying24 (wf64 HID.out))
  go_enter Try.func27, Try.ntmps27
  go_wp2_with (first
    | ((with_reducible refine gate_dst (N := 3) rfl ?_); refine box_event ?hg (N := 3) ?hd (cs := #[.int .i64 2, .int .u64 id, .int .u64 ver, .string text]) (t := 26) ?hr ?_; (case hd => rfl); (case hg => rfl); (case hr => first | (go_simp; done) | (go_simp; rfl)); intro gb hg w3 hbox hb; have HB3 := Aside0.mk hb; have BK3 := Aside0.mk hbox; have c0 : w3.cell? ⟨gb, 0, none⟩ = some (.int .i64 2) := (blk_cell hbox 0).trans rfl; have c1 : w3.cell? ⟨gb, 1, none⟩ = some (.int .u64 id) := (blk_cell hbox 1).trans rfl; have c2 : w3.cell? ⟨gb, 2, none⟩ = some (.int .u64 ver) := (blk_cell hbox 2).trans rfl; have c3 : w3.cell? ⟨gb, 3, none⟩ = some (.string text) := (blk_cell hbox 3).trans rfl; clear hg hbox hb)
    | (go_at_call 44; refine (record_Check.calls 3 _ _ _ _ _ _ HC.out).mono ?_; rintro e w4 ⟨rfl, hb4⟩; have HB4 := Aside0.mk (HB3.out.trans (hb4.mono HB3.out.size)); have BK4 := Aside0.mk (blk_below BK3.out hb4); clear c0 c1 c2 c3; have c0 : w4.cell? ⟨gb, 0, none⟩ = some (.int .i64 2) := (blk_cell BK4.out 0).trans rfl; have c1 : w4.cell? ⟨gb, 1, none⟩ = some (.int .u64 id) := (blk_cell BK4.out 1).trans rfl; have c2 : w4.cell? ⟨gb, 2, none⟩ = some (.int .u64 ver) := (blk_cell BK4.out 2).trans rfl; have c3 : w4.cell? ⟨gb, 3, none⟩ = some (.string text) := (blk_cell BK4.out 3).trans rfl; have HL4 := Aside0.mk (HH.out.below HB4.out); obtain ⟨⟨h0, h1, h2, h3⟩, hf⟩ := HL4.out.cells; have HM4 := Aside0.mk HL4.out.map; have hgl : g < w4.heap.size := (HL4.out.lt (.inl rfl)).2; have hgb : gb < w4.heap.size := blk_lt BK4.out; have HN := Aside0.mk (fun m => newest_calls (HL4.out.below (pw_below_drewN (Below.refl _ _) m))); clear hb4))
  have hl1 := look_run HM4.out.drew hk.out
  have hl2 := look_run (HM4.out.alloc (.cells #[.int .u64 0, .int .u64 0, .string ⟨#[]⟩] 42)).drew hk.out
  go_region
  all_goals go_wp2
  all_goals (go_ret; exact ⟨rfl, by repeat (first | exact HB4.out | apply Below.drew | apply below_alloc | apply pw_below_drewN | apply below_drew1)⟩)
set_option maxHeartbeats 4000000 in
set_option maxRecDepth 100000 in
theorem applies_policy {w : World} {B g b n : Nat} {v : Value} {L : LG} (h : Led w B g b n v L) {kd id ver : Int} {text : ByteArray} (hid : 0 ≤ id ∧ id ≤ 18446744073709551615) (hok : (RC.ok ⟨kd, id, ver, text⟩) = true) (hkd : kd = 3) :
    Calls Try.prog 27 #[.pointer (some ⟨g, 0, none⟩), .agg #[.int .i64 kd, .int .u64 id, .int .u64 ver, .string text]] w fun e w' => e = .returned (.bool (L.applies ⟨kd, id, ver, text⟩)) ∧ Below w.heap.size w w' := by
  have HID := Aside0.mk hid
  have HC := Aside0.mk (check_is ⟨kd, id, ver, text⟩)
  rw [hok] at HC
  have HH := Aside0.mk h
  clear h hid
  subst hkd
  have ha : L.applies ⟨3, id, ver, text⟩ = (decide (ver = L.newest + 1) && decide (ver ≤ 100)) := by unfold LG.applies; rw [hok]; rfl
  rw [ha]
  clear hok ha
  simp only [if_true] at HC
  obtain ⟨nx, hnx⟩ : ∃ nx, L.newest + 1 = nx := ⟨_, rfl⟩
  have hw : IntKind.u64.wrap (L.newest + 1) = nx := (newest_wrap HH.out.ok).trans hnx
  rw [hnx]
  by_cases e1 : ver = nx
  · have e1b : (ver == nx) = true := beq_iff_eq.2 e1
    rw [show decide (ver = nx) = true from decide_eq_true e1, Bool.true_and]
    clear e1 hnx
    go_enter Try.func27, Try.ntmps27
    go_wp2_with (first
      | ((with_reducible refine gate_dst (N := 3) rfl ?_); refine box_event ?hg (N := 3) ?hd (cs := #[.int .i64 3, .int .u64 id, .int .u64 ver, .string text]) (t := 26) ?hr ?_; (case hd => rfl); (case hg => rfl); (case hr => first | (go_simp; done) | (go_simp; rfl)); intro gb hg w3 hbox hb; have HB3 := Aside0.mk hb; have BK3 := Aside0.mk hbox; have c0 : w3.cell? ⟨gb, 0, none⟩ = some (.int .i64 3) := (blk_cell hbox 0).trans rfl; have c1 : w3.cell? ⟨gb, 1, none⟩ = some (.int .u64 id) := (blk_cell hbox 1).trans rfl; have c2 : w3.cell? ⟨gb, 2, none⟩ = some (.int .u64 ver) := (blk_cell hbox 2).trans rfl; have c3 : w3.cell? ⟨gb, 3, none⟩ = some (.string text) := (blk_cell hbox 3).trans rfl; clear hg hbox hb)
      | (go_at_call 44; refine (record_Check.calls 3 _ _ _ _ _ _ HC.out).mono ?_; rintro e w4 ⟨rfl, hb4⟩; have HB4 := Aside0.mk (HB3.out.trans (hb4.mono HB3.out.size)); have BK4 := Aside0.mk (blk_below BK3.out hb4); clear c0 c1 c2 c3; have c0 : w4.cell? ⟨gb, 0, none⟩ = some (.int .i64 3) := (blk_cell BK4.out 0).trans rfl; have c1 : w4.cell? ⟨gb, 1, none⟩ = some (.int .u64 id) := (blk_cell BK4.out 1).trans rfl; have c2 : w4.cell? ⟨gb, 2, none⟩ = some (.int .u64 ver) := (blk_cell BK4.out 2).trans rfl; have c3 : w4.cell? ⟨gb, 3, none⟩ = some (.string text) := (blk_cell BK4.out 3).trans rfl; have HL4 := Aside0.mk (HH.out.below HB4.out); obtain ⟨⟨h0, h1, h2, h3⟩, hf⟩ := HL4.out.cells; have HM4 := Aside0.mk HL4.out.map; have hgl : g < w4.heap.size := (HL4.out.lt (.inl rfl)).2; have hgb : gb < w4.heap.size := blk_lt BK4.out; have HN := Aside0.mk (fun m => newest_calls (HL4.out.below (pw_below_drewN (Below.refl _ _) m))); clear hb4))
    go_quiet ((go_at_call 26; refine Calls.quiet_of_same (HN.out _)))
    go_wp2
    go_ret
    exact ⟨rfl, by repeat (first | exact HB4.out | apply Below.drew | apply below_alloc | apply pw_below_drewN | apply below_drew1)⟩
  · have e1b : (ver == nx) = false := beq_eq_false_iff_ne.2 e1
    rw [show decide (ver = nx) = false from decide_eq_false e1, Bool.false_and]
    clear e1 hnx
    go_enter Try.func27, Try.ntmps27
    go_wp2_with (first
      | ((with_reducible refine gate_dst (N := 3) rfl ?_); refine box_event ?hg (N := 3) ?hd (cs := #[.int .i64 3, .int .u64 id, .int .u64 ver, .string text]) (t := 26) ?hr ?_; (case hd => rfl); (case hg => rfl); (case hr => first | (go_simp; done) | (go_simp; rfl)); intro gb hg w3 hbox hb; have HB3 := Aside0.mk hb; have BK3 := Aside0.mk hbox; have c0 : w3.cell? ⟨gb, 0, none⟩ = some (.int .i64 3) := (blk_cell hbox 0).trans rfl; have c1 : w3.cell? ⟨gb, 1, none⟩ = some (.int .u64 id) := (blk_cell hbox 1).trans rfl; have c2 : w3.cell? ⟨gb, 2, none⟩ = some (.int .u64 ver) := (blk_cell hbox 2).trans rfl; have c3 : w3.cell? ⟨gb, 3, none⟩ = some (.string text) := (blk_cell hbox 3).trans rfl; clear hg hbox hb)
      | (go_at_call 44; refine (record_Check.calls 3 _ _ _ _ _ _ HC.out).mono ?_; rintro e w4 ⟨rfl, hb4⟩; have HB4 := Aside0.mk (HB3.out.trans (hb4.mono HB3.out.size)); have BK4 := Aside0.mk (blk_below BK3.out hb4); clear c0 c1 c2 c3; have c0 : w4.cell? ⟨gb, 0, none⟩ = some (.int .i64 3) := (blk_cell BK4.out 0).trans rfl; have c1 : w4.cell? ⟨gb, 1, none⟩ = some (.int .u64 id) := (blk_cell BK4.out 1).trans rfl; have c2 : w4.cell? ⟨gb, 2, none⟩ = some (.int .u64 ver) := (blk_cell BK4.out 2).trans rfl; have c3 : w4.cell? ⟨gb, 3, none⟩ = some (.string text) := (blk_cell BK4.out 3).trans rfl; have HL4 := Aside0.mk (HH.out.below HB4.out); obtain ⟨⟨h0, h1, h2, h3⟩, hf⟩ := HL4.out.cells; have HM4 := Aside0.mk HL4.out.map; have hgl : g < w4.heap.size := (HL4.out.lt (.inl rfl)).2; have hgb : gb < w4.heap.size := blk_lt BK4.out; have HN := Aside0.mk (fun m => newest_calls (HL4.out.below (pw_below_drewN (Below.refl _ _) m))); clear hb4))
    go_quiet ((go_at_call 26; refine Calls.quiet_of_same (HN.out _)))
    go_wp2
    go_ret
    exact ⟨rfl, by repeat (first | exact HB4.out | apply Below.drew | apply below_alloc | apply pw_below_drewN | apply below_drew1)⟩
set_option maxHeartbeats 4000000 in
set_option maxRecDepth 100000 in
theorem applies_convert {w : World} {B g b n : Nat} {v : Value} {L : LG} (h : Led w B g b n v L) {kd id ver : Int} {text : ByteArray} (hid : 0 ≤ id ∧ id ≤ 18446744073709551615) (hok : (RC.ok ⟨kd, id, ver, text⟩) = true) (hkd : kd = 4) :
    Calls Try.prog 27 #[.pointer (some ⟨g, 0, none⟩), .agg #[.int .i64 kd, .int .u64 id, .int .u64 ver, .string text]] w fun e w' => e = .returned (.bool (L.applies ⟨kd, id, ver, text⟩)) ∧ Below w.heap.size w w' := by
  have HID := Aside0.mk hid
  have HC := Aside0.mk (check_is ⟨kd, id, ver, text⟩)
  rw [hok] at HC
  have HH := Aside0.mk h
  clear h hid
  subst hkd
  have ha : L.applies ⟨4, id, ver, text⟩ = (L.stale.isSome && decide (L.staleP.id = id) && decide (ver = L.newest)) := by
    unfold LG.applies
    rw [hok]
    unfold LG.staleP
    cases L.stale <;> rfl
  rw [ha]
  clear hok ha
  simp only [if_true] at HC
  obtain ⟨sp, hsp⟩ : ∃ sp, L.staleP = sp := ⟨_, rfl⟩
  obtain ⟨si, hsi⟩ : ∃ si, L.stale.isSome = si := ⟨_, rfl⟩
  have HS := fun (w' : World) (h' : Led w' B g b n v L) => Stale_calls h'
  rw [hsp, hsi] at *
  have HS' := Aside0.mk HS
  clear HS hsp hsi
  obtain ⟨s1, s2, s3⟩ := sp
  cases si
  · rw [Bool.false_and, Bool.false_and]
    go_enter Try.func27, Try.ntmps27
    go_wp2_with (first
      | ((with_reducible refine gate_dst (N := 3) rfl ?_); refine box_event ?hg (N := 3) ?hd (cs := #[.int .i64 4, .int .u64 id, .int .u64 ver, .string text]) (t := 26) ?hr ?_; (case hd => rfl); (case hg => rfl); (case hr => first | (go_simp; done) | (go_simp; rfl)); intro gb hg w3 hbox hb; have HB3 := Aside0.mk hb; have BK3 := Aside0.mk hbox; have c0 : w3.cell? ⟨gb, 0, none⟩ = some (.int .i64 4) := (blk_cell hbox 0).trans rfl; have c1 : w3.cell? ⟨gb, 1, none⟩ = some (.int .u64 id) := (blk_cell hbox 1).trans rfl; have c2 : w3.cell? ⟨gb, 2, none⟩ = some (.int .u64 ver) := (blk_cell hbox 2).trans rfl; have c3 : w3.cell? ⟨gb, 3, none⟩ = some (.string text) := (blk_cell hbox 3).trans rfl; clear hg hbox hb)
      | (go_at_call 44; refine (record_Check.calls 3 _ _ _ _ _ _ HC.out).mono ?_; rintro e w4 ⟨rfl, hb4⟩; have HB4 := Aside0.mk (HB3.out.trans (hb4.mono HB3.out.size)); have BK4 := Aside0.mk (blk_below BK3.out hb4); clear c0 c1 c2 c3; have c0 : w4.cell? ⟨gb, 0, none⟩ = some (.int .i64 4) := (blk_cell BK4.out 0).trans rfl; have c1 : w4.cell? ⟨gb, 1, none⟩ = some (.int .u64 id) := (blk_cell BK4.out 1).trans rfl; have c2 : w4.cell? ⟨gb, 2, none⟩ = some (.int .u64 ver) := (blk_cell BK4.out 2).trans rfl; have c3 : w4.cell? ⟨gb, 3, none⟩ = some (.string text) := (blk_cell BK4.out 3).trans rfl; have HL4 := Aside0.mk (HH.out.below HB4.out); obtain ⟨⟨h0, h1, h2, h3⟩, hf⟩ := HL4.out.cells; have HM4 := Aside0.mk HL4.out.map; have hgl : g < w4.heap.size := (HL4.out.lt (.inl rfl)).2; have hgb : gb < w4.heap.size := blk_lt BK4.out; have HN := Aside0.mk (fun m => newest_calls (HL4.out.below (pw_below_drewN (Below.refl _ _) m))); clear hb4)
      | (go_at_call 16; refine (HS'.out _ HL4.out).mono ?_; rintro e w5 ⟨rfl, hb5⟩; unfold postV; have HB5 := Aside0.mk (HB4.out.trans (hb5.mono HB4.out.size)); have BK5 := Aside0.mk (blk_below BK4.out hb5); have HL5 := Aside0.mk (HL4.out.below hb5); clear c0 c1 c2 c3 h0 h1 h2 h3 hf hgl hgb HN; have c1 : w5.cell? ⟨gb, 1, none⟩ = some (.int .u64 id) := (blk_cell BK5.out 1).trans rfl; have c2 : w5.cell? ⟨gb, 2, none⟩ = some (.int .u64 ver) := (blk_cell BK5.out 2).trans rfl; have hgb : gb < w5.heap.size := blk_lt BK5.out; have HN := Aside0.mk (fun m => newest_calls ((HL5.out.below (below_alloc (Below.refl _ _) (.cells #[.int .u64 s1, .int .u64 s2, .string s3] 42))).below (pw_below_drewN (Below.refl _ _) m))); clear hb5))
    go_quiet ((go_at_call 26; refine Calls.quiet_of_same (HN.out _)))
    go_wp2
    go_ret
    exact ⟨rfl, by repeat (first | exact HB5.out | apply Below.drew | apply below_alloc | apply pw_below_drewN | apply below_drew1)⟩
  · by_cases e1 : s1 = id
    · have e1b : (s1 == id) = true := beq_iff_eq.2 e1
      rw [show decide (s1 = id) = true from decide_eq_true e1, Bool.true_and, Bool.true_and, show decide (ver = L.newest) = (ver == L.newest) from rfl]
      clear e1
      go_enter Try.func27, Try.ntmps27
      go_wp2_with (first
        | ((with_reducible refine gate_dst (N := 3) rfl ?_); refine box_event ?hg (N := 3) ?hd (cs := #[.int .i64 4, .int .u64 id, .int .u64 ver, .string text]) (t := 26) ?hr ?_; (case hd => rfl); (case hg => rfl); (case hr => first | (go_simp; done) | (go_simp; rfl)); intro gb hg w3 hbox hb; have HB3 := Aside0.mk hb; have BK3 := Aside0.mk hbox; have c0 : w3.cell? ⟨gb, 0, none⟩ = some (.int .i64 4) := (blk_cell hbox 0).trans rfl; have c1 : w3.cell? ⟨gb, 1, none⟩ = some (.int .u64 id) := (blk_cell hbox 1).trans rfl; have c2 : w3.cell? ⟨gb, 2, none⟩ = some (.int .u64 ver) := (blk_cell hbox 2).trans rfl; have c3 : w3.cell? ⟨gb, 3, none⟩ = some (.string text) := (blk_cell hbox 3).trans rfl; clear hg hbox hb)
        | (go_at_call 44; refine (record_Check.calls 3 _ _ _ _ _ _ HC.out).mono ?_; rintro e w4 ⟨rfl, hb4⟩; have HB4 := Aside0.mk (HB3.out.trans (hb4.mono HB3.out.size)); have BK4 := Aside0.mk (blk_below BK3.out hb4); clear c0 c1 c2 c3; have c0 : w4.cell? ⟨gb, 0, none⟩ = some (.int .i64 4) := (blk_cell BK4.out 0).trans rfl; have c1 : w4.cell? ⟨gb, 1, none⟩ = some (.int .u64 id) := (blk_cell BK4.out 1).trans rfl; have c2 : w4.cell? ⟨gb, 2, none⟩ = some (.int .u64 ver) := (blk_cell BK4.out 2).trans rfl; have c3 : w4.cell? ⟨gb, 3, none⟩ = some (.string text) := (blk_cell BK4.out 3).trans rfl; have HL4 := Aside0.mk (HH.out.below HB4.out); obtain ⟨⟨h0, h1, h2, h3⟩, hf⟩ := HL4.out.cells; have HM4 := Aside0.mk HL4.out.map; have hgl : g < w4.heap.size := (HL4.out.lt (.inl rfl)).2; have hgb : gb < w4.heap.size := blk_lt BK4.out; have HN := Aside0.mk (fun m => newest_calls (HL4.out.below (pw_below_drewN (Below.refl _ _) m))); clear hb4)
        | (go_at_call 16; refine (HS'.out _ HL4.out).mono ?_; rintro e w5 ⟨rfl, hb5⟩; unfold postV; have HB5 := Aside0.mk (HB4.out.trans (hb5.mono HB4.out.size)); have BK5 := Aside0.mk (blk_below BK4.out hb5); have HL5 := Aside0.mk (HL4.out.below hb5); clear c0 c1 c2 c3 h0 h1 h2 h3 hf hgl hgb HN; have c1 : w5.cell? ⟨gb, 1, none⟩ = some (.int .u64 id) := (blk_cell BK5.out 1).trans rfl; have c2 : w5.cell? ⟨gb, 2, none⟩ = some (.int .u64 ver) := (blk_cell BK5.out 2).trans rfl; have hgb : gb < w5.heap.size := blk_lt BK5.out; have HN := Aside0.mk (fun m => newest_calls ((HL5.out.below (below_alloc (Below.refl _ _) (.cells #[.int .u64 s1, .int .u64 s2, .string s3] 42))).below (pw_below_drewN (Below.refl _ _) m))); clear hb5))
      go_quiet ((go_at_call 26; refine Calls.quiet_of_same (HN.out _)))
      go_wp2
      go_ret
      exact ⟨rfl, by repeat (first | exact HB5.out | apply Below.drew | apply below_alloc | apply pw_below_drewN | apply below_drew1)⟩
    · have e1b : (s1 == id) = false := beq_eq_false_iff_ne.2 e1
      rw [show decide (s1 = id) = false from decide_eq_false e1, Bool.true_and, Bool.false_and]
      clear e1
      go_enter Try.func27, Try.ntmps27
      go_wp2_with (first
        | ((with_reducible refine gate_dst (N := 3) rfl ?_); refine box_event ?hg (N := 3) ?hd (cs := #[.int .i64 4, .int .u64 id, .int .u64 ver, .string text]) (t := 26) ?hr ?_; (case hd => rfl); (case hg => rfl); (case hr => first | (go_simp; done) | (go_simp; rfl)); intro gb hg w3 hbox hb; have HB3 := Aside0.mk hb; have BK3 := Aside0.mk hbox; have c0 : w3.cell? ⟨gb, 0, none⟩ = some (.int .i64 4) := (blk_cell hbox 0).trans rfl; have c1 : w3.cell? ⟨gb, 1, none⟩ = some (.int .u64 id) := (blk_cell hbox 1).trans rfl; have c2 : w3.cell? ⟨gb, 2, none⟩ = some (.int .u64 ver) := (blk_cell hbox 2).trans rfl; have c3 : w3.cell? ⟨gb, 3, none⟩ = some (.string text) := (blk_cell hbox 3).trans rfl; clear hg hbox hb)
        | (go_at_call 44; refine (record_Check.calls 3 _ _ _ _ _ _ HC.out).mono ?_; rintro e w4 ⟨rfl, hb4⟩; have HB4 := Aside0.mk (HB3.out.trans (hb4.mono HB3.out.size)); have BK4 := Aside0.mk (blk_below BK3.out hb4); clear c0 c1 c2 c3; have c0 : w4.cell? ⟨gb, 0, none⟩ = some (.int .i64 4) := (blk_cell BK4.out 0).trans rfl; have c1 : w4.cell? ⟨gb, 1, none⟩ = some (.int .u64 id) := (blk_cell BK4.out 1).trans rfl; have c2 : w4.cell? ⟨gb, 2, none⟩ = some (.int .u64 ver) := (blk_cell BK4.out 2).trans rfl; have c3 : w4.cell? ⟨gb, 3, none⟩ = some (.string text) := (blk_cell BK4.out 3).trans rfl; have HL4 := Aside0.mk (HH.out.below HB4.out); obtain ⟨⟨h0, h1, h2, h3⟩, hf⟩ := HL4.out.cells; have HM4 := Aside0.mk HL4.out.map; have hgl : g < w4.heap.size := (HL4.out.lt (.inl rfl)).2; have hgb : gb < w4.heap.size := blk_lt BK4.out; have HN := Aside0.mk (fun m => newest_calls (HL4.out.below (pw_below_drewN (Below.refl _ _) m))); clear hb4)
        | (go_at_call 16; refine (HS'.out _ HL4.out).mono ?_; rintro e w5 ⟨rfl, hb5⟩; unfold postV; have HB5 := Aside0.mk (HB4.out.trans (hb5.mono HB4.out.size)); have BK5 := Aside0.mk (blk_below BK4.out hb5); have HL5 := Aside0.mk (HL4.out.below hb5); clear c0 c1 c2 c3 h0 h1 h2 h3 hf hgl hgb HN; have c1 : w5.cell? ⟨gb, 1, none⟩ = some (.int .u64 id) := (blk_cell BK5.out 1).trans rfl; have c2 : w5.cell? ⟨gb, 2, none⟩ = some (.int .u64 ver) := (blk_cell BK5.out 2).trans rfl; have hgb : gb < w5.heap.size := blk_lt BK5.out; have HN := Aside0.mk (fun m => newest_calls ((HL5.out.below (below_alloc (Below.refl _ _) (.cells #[.int .u64 s1, .int .u64 s2, .string s3] 42))).below (pw_below_drewN (Below.refl _ _) m))); clear hb5))
      go_quiet ((go_at_call 26; refine Calls.quiet_of_same (HN.out _)))
      go_wp2
      go_ret
      exact ⟨rfl, by repeat (first | exact HB5.out | apply Below.drew | apply below_alloc | apply pw_below_drewN | apply below_drew1)⟩
theorem applies_calls {w : World} {B g b n : Nat} {v : Value} {L : LG} (h : Led w B g b n v L) (r : RC) (hid : 0 ≤ r.id ∧ r.id ≤ 18446744073709551615) :
    Calls Try.prog 27 #[.pointer (some ⟨g, 0, none⟩), recV r] w fun e w' => e = .returned (.bool (L.applies r)) ∧ Below w.heap.size w w' := by
  obtain ⟨kd, id, ver, text⟩ := r
  cases hok : RC.ok ⟨kd, id, ver, text⟩
  · exact applies_not h hid hok trivial
  · rcases RC.ok_kind hok with hk | hk | hk | hk
    · exact applies_post h hid hok hk
    · exact applies_delete h hid hok hk
    · exact applies_policy h hid hok hk
    · exact applies_convert h hid hok hk
structure Did (w w' : World) (B g b n : Nat) (v : Value) (L : LG) : Prop where
  led : ∃ v', Led w' B g b n v' L ∧ ∀ j, v'.ownBlock = some j → v.ownBlock = some j ∨ w.heap.size ≤ j
  mv : Mv (Owns g b v) w w'
theorem Did.same {w w' : World} {B g b n n' : Nat} {v : Value} {L : LG} (h : Led w B g b n v L) (hb : Below w.heap.size w w') (hn : n ≤ n') : Did w w' B g b n' v L :=
  ⟨⟨v, (h.below hb).mono hn, fun j hj => .inl hj⟩, .of_below hb⟩
theorem Did.cells {w w1 w2 : World} {B g b n n' : Nat} {v : Value} {L L' : LG} {cs : Array Value} (h : Led w B g b n v L) (m1 : Mv (Owns g b v) w w1) (m2 : Mv (fun j => j = g) w1 w2)
    (hg : w2.heap[g]? = some (.cells cs 69 (0, 0))) (hcs : cs = lcells b v L') (hm : w1.ownsMap Try.prog 24 postR b n' (mapD L'.posts)) (hp : L'.pols = L.pols) (hrow : w1.ownsRow B 9 1 v L.pols.length (L.pols.map Value.string)) (ok : L'.Ok) : Did w w2 B g b n' v L' := by
  obtain ⟨ne1, ne2, ne3⟩ := h.ne
  subst hcs
  refine ⟨⟨v, ⟨hg, map_mv hm m2 (fun e => ne1 e.symm), ?_, h.gB, h.bB, ok⟩, fun j hj => .inl hj⟩, m1.trans m2 (fun j hj => .inl (.inl hj))⟩
  rw [hp]
  exact own_mv hrow m2 (fun j hj e => ne2 (by rw [hj, e]))
theorem apply_of {L : LG} {r : RC} (h : L.applies r = true) : L.apply r = L.act r ∧ L.errno r = 0 := by
  unfold LG.apply LG.errno
  rw [if_pos h, if_pos h]
  exact ⟨rfl, rfl⟩
theorem apply_no {L : LG} {r : RC} (h : L.applies r = false) : L.apply r = L ∧ L.errno r = 1 := by
  unfold LG.apply LG.errno
  rw [if_neg (by rw [h]; simp), if_neg (by rw [h]; simp)]
  exact ⟨rfl, rfl⟩
set_option maxHeartbeats 4000000 in
set_option maxRecDepth 100000 in
theorem apply_not {w : World} {B g b n : Nat} {v : Value} {L : LG} (h : Led w B g b n v L) (hB : B ≤ w.heap.size) (hn : n < maxLen) {kd id ver : Int} {text : ByteArray} (hr : RC.Wf ⟨kd, id, ver, text⟩) (ha : L.applies ⟨kd, id, ver, text⟩ = false) (hkd : True) :
    Calls Try.prog 10 #[.pointer (some ⟨g, 0, none⟩), .agg #[.int .i64 kd, .int .u64 id, .int .u64 ver, .string text]] w fun e w' => e = .returned (.int .i64 (L.errno ⟨kd, id, ver, text⟩)) ∧ Did w w' B g b (n + 1) v (L.apply ⟨kd, id, ver, text⟩) := by
  have HOK := Aside0.mk (LG.apply_ok h.ok hr)
  have HID := Aside0.mk hr.id
  have HA := Aside0.mk ha
  have HH := Aside0.mk h
  have HN := Aside0.mk hn
  have HBB := Aside0.mk hB
  clear h hr hn hB
  obtain ⟨ea, ee⟩ := apply_no ha
  rw [ea, ee]
  clear ha hkd ea ee HOK
  go_enter Try.func10, Try.ntmps10
  go_wp2_with (first
    | ((with_reducible refine gate_dst (N := 3) rfl ?_); refine box_event ?hg (N := 3) ?hd (cs := #[.int .i64 kd, .int .u64 id, .int .u64 ver, .string text]) (t := 26) ?hr ?_; (case hd => rfl); (case hg => rfl); (case hr => first | (go_simp; done) | (go_simp; rfl)); intro gb hg w3 hbox hb; have HB3 := Aside0.mk hb; have BK3 := Aside0.mk hbox; have HGB := Aside0.mk (show w.heap.size ≤ gb by rw [hg]; exact Nat.le_refl _); have c0 : w3.cell? ⟨gb, 0, none⟩ = some (.int .i64 kd) := (blk_cell hbox 0).trans rfl; have c1 : w3.cell? ⟨gb, 1, none⟩ = some (.int .u64 id) := (blk_cell hbox 1).trans rfl; have c2 : w3.cell? ⟨gb, 2, none⟩ = some (.int .u64 ver) := (blk_cell hbox 2).trans rfl; have c3 : w3.cell? ⟨gb, 3, none⟩ = some (.string text) := (blk_cell hbox 3).trans rfl; clear hg hbox hb)
    | (go_at_call 27; refine (applies_calls (HH.out.below HB3.out) ⟨kd, id, ver, text⟩ HID.out).mono ?_; rintro e w4 ⟨rfl, hb4⟩; rw [HA.out]; have HB4 := Aside0.mk (HB3.out.trans (hb4.mono HB3.out.size)); have BK4 := Aside0.mk (blk_below BK3.out hb4); clear c0 c1 c2 c3; have c0 : w4.cell? ⟨gb, 0, none⟩ = some (.int .i64 kd) := (blk_cell BK4.out 0).trans rfl; have c1 : w4.cell? ⟨gb, 1, none⟩ = some (.int .u64 id) := (blk_cell BK4.out 1).trans rfl; have c2 : w4.cell? ⟨gb, 2, none⟩ = some (.int .u64 ver) := (blk_cell BK4.out 2).trans rfl; have c3 : w4.cell? ⟨gb, 3, none⟩ = some (.string text) := (blk_cell BK4.out 3).trans rfl; have HL4 := Aside0.mk (HH.out.below HB4.out); obtain ⟨⟨h0, h1, h2, h3⟩, hf⟩ := HL4.out.cells; have hgl : g < w4.heap.size := (HL4.out.lt (.inl rfl)).2; have hgb : gb < w4.heap.size := blk_lt BK4.out; clear hb4))
  go_ret
  exact ⟨rfl, .same HH.out HB4.out (Nat.le_succ _)⟩
set_option maxHeartbeats 4000000 in
set_option maxRecDepth 100000 in
theorem apply_post {w : World} {B g b n : Nat} {v : Value} {L : LG} (h : Led w B g b n v L) (hB : B ≤ w.heap.size) (hn : n < maxLen) {kd id ver : Int} {text : ByteArray} (hr : RC.Wf ⟨kd, id, ver, text⟩) (ha : L.applies ⟨kd, id, ver, text⟩ = true) (hkd : kd = 1) :
    Calls Try.prog 10 #[.pointer (some ⟨g, 0, none⟩), .agg #[.int .i64 kd, .int .u64 id, .int .u64 ver, .string text]] w fun e w' => e = .returned (.int .i64 (L.errno ⟨kd, id, ver, text⟩)) ∧ Did w w' B g b (n + 1) v (L.apply ⟨kd, id, ver, text⟩) := by
  have HOK := Aside0.mk (LG.apply_ok h.ok hr)
  have HID := Aside0.mk hr.id
  have HA := Aside0.mk ha
  have HH := Aside0.mk h
  have HN := Aside0.mk hn
  have HBB := Aside0.mk hB
  clear h hr hn hB
  obtain ⟨ea, ee⟩ := apply_of ha
  have hac : L.act ⟨kd, id, ver, text⟩ = ⟨setP L.posts ⟨id, ver, text⟩, L.pols, L.next + 1, L.cur⟩ := by simp [LG.act, hkd]
  rw [ea, hac] at HOK
  rw [ea, ee, hac]
  have hw : IntKind.u64.wrap (L.next + 1) = L.next + 1 := by
    have := HH.out.ok.next
    rcases LG.applies_cases ha with ⟨_, _, _, _, q1, q2, _⟩ | ⟨q, _⟩ | ⟨q, _⟩ | ⟨q, _⟩
    · simp only at q1 q2; simp [IntKind.wrap, IntKind.bits, IntKind.signed]; omega
    all_goals (simp only at q; omega)
  subst hkd
  clear ha ea ee hac
  go_enter Try.func10, Try.ntmps10
  go_wp2_with (first
    | ((with_reducible refine gate_dst (N := 3) rfl ?_); refine box_event ?hg (N := 3) ?hd (cs := #[.int .i64 1, .int .u64 id, .int .u64 ver, .string text]) (t := 26) ?hr ?_; (case hd => rfl); (case hg => rfl); (case hr => first | (go_simp; done) | (go_simp; rfl)); intro gb hg w3 hbox hb; have HB3 := Aside0.mk hb; have BK3 := Aside0.mk hbox; have HGB := Aside0.mk (show w.heap.size ≤ gb by rw [hg]; exact Nat.le_refl _); have c0 : w3.cell? ⟨gb, 0, none⟩ = some (.int .i64 1) := (blk_cell hbox 0).trans rfl; have c1 : w3.cell? ⟨gb, 1, none⟩ = some (.int .u64 id) := (blk_cell hbox 1).trans rfl; have c2 : w3.cell? ⟨gb, 2, none⟩ = some (.int .u64 ver) := (blk_cell hbox 2).trans rfl; have c3 : w3.cell? ⟨gb, 3, none⟩ = some (.string text) := (blk_cell hbox 3).trans rfl; clear hg hbox hb)
    | (go_at_call 27; refine (applies_calls (HH.out.below HB3.out) ⟨1, id, ver, text⟩ HID.out).mono ?_; rintro e w4 ⟨rfl, hb4⟩; rw [HA.out]; have HB4 := Aside0.mk (HB3.out.trans (hb4.mono HB3.out.size)); have BK4 := Aside0.mk (blk_below BK3.out hb4); clear c0 c1 c2 c3; have c0 : w4.cell? ⟨gb, 0, none⟩ = some (.int .i64 1) := (blk_cell BK4.out 0).trans rfl; have c1 : w4.cell? ⟨gb, 1, none⟩ = some (.int .u64 id) := (blk_cell BK4.out 1).trans rfl; have c2 : w4.cell? ⟨gb, 2, none⟩ = some (.int .u64 ver) := (blk_cell BK4.out 2).trans rfl; have c3 : w4.cell? ⟨gb, 3, none⟩ = some (.string text) := (blk_cell BK4.out 3).trans rfl; have HL4 := Aside0.mk (HH.out.below HB4.out); obtain ⟨⟨h0, h1, h2, h3⟩, hf⟩ := HL4.out.cells; have hgl : g < w4.heap.size := (HL4.out.lt (.inl rfl)).2; have hgb : gb < w4.heap.size := blk_lt BK4.out; clear hb4))
  refine region_tail 7 (by kernel_rfl) (by kernel_rfl) ?_
  simp only [List.take_succ_cons, List.take_zero, List.drop_succ_cons, List.drop_zero]
  repeat still_step
  refine wpStill_nil ?_
  have HM := Aside0.mk (show (w4.alloc (.cells #[.int .u64 id, .int .u64 ver, .string text] 42)).drew.ownsMap Try.prog 24 postR b n (mapD L.posts) from (HL4.out.map.alloc _).drew)
  have hk := Aside0.mk (keyOf_int_mk Try.underlying24 (wf64 HID.out))
  go_wp2_with (at_mapUpdate; refine wpList_mapUpdate_own _ rfl _ _ _ 67 rfl 24 42 law24 Try.underlying67 _ b n _ rfl HM.out HN.out _ _ _ rfl rfl hk.out (pd ⟨id, ver, text⟩) [] (postR_mk ⟨id, ver, text⟩) ?_; intro w6 hown6 hg6; have HO6 := Aside0.mk hown6; have HG6 := Aside0.mk hg6; have BG6 := Aside0.mk (blk_grown (blk_drew (blk_alloc HL4.out.blk _)) hg6 HL4.out.ne.1); have BB6 := Aside0.mk (blk_grown (blk_drew (blk_alloc BK4.out _)) hg6 (by have := HGB.out; have := (HH.out.lt (.inr (.inl rfl))).2; omega)); clear hown6 hg6 h0 h1 h2 h3 hf hgl c0 c1 c2 c3 hgb; have c1 : w6.cell? ⟨gb, 1, none⟩ = some (.int .u64 id) := (blk_cell BB6.out 1).trans rfl; have h2 : w6.cell? ⟨g, 2, none⟩ = some (.int .u64 L.next) := (blk_cell BG6.out 2).trans rfl; have h3 : w6.cell? ⟨g, 3, none⟩ = some (.int .u64 L.cur) := (blk_cell BG6.out 3).trans rfl; have hf2 := blk_frozen BG6.out 2; have hf3 := blk_frozen BG6.out 3; go_frame)
  go_ret
  have e1 := put_eq HL4.out.ok.rise (⟨id, ver, text⟩ : LP) (x := id) rfl (HO6.out.canon law24)
  have m46 : Mv (fun j => j = b) w4 w6 := (Mv.of_below (below_alloc (Below.refl _ _) _).drew).trans (.of_grown (S := fun j => j = b) HG6.out (fun j e => by cases e; rfl)) (fun j hj => .inl hj)
  have m1 : Mv (Owns g b v) w w6 := (Mv.of_below HB4.out).trans m46 (fun j hj => .inl (.inr (.inl hj)))
  refine ⟨rfl, Did.cells (L := L) (v := v) HH.out m1 (.set _ rfl) (blk_set BG6.out 2 _) rfl ?_ rfl ?_ HOK.out⟩
  · exact e1 ▸ HO6.out
  · exact own_mv HL4.out.row m46 (fun j hj e => HL4.out.ne.2.2 (by rw [hj, e]))
set_option maxHeartbeats 4000000 in
set_option maxRecDepth 100000 in
theorem apply_convert {w : World} {B g b n : Nat} {v : Value} {L : LG} (h : Led w B g b n v L) (hB : B ≤ w.heap.size) (hn : n < maxLen) {kd id ver : Int} {text : ByteArray} (hr : RC.Wf ⟨kd, id, ver, text⟩) (ha : L.applies ⟨kd, id, ver, text⟩ = true) (hkd : kd = 4) :
    Calls Try.prog 10 #[.pointer (some ⟨g, 0, none⟩), .agg #[.int .i64 kd, .int .u64 id, .int .u64 ver, .string text]] w fun e w' => e = .returned (.int .i64 (L.errno ⟨kd, id, ver, text⟩)) ∧ Did w w' B g b (n + 1) v (L.apply ⟨kd, id, ver, text⟩) := by
  have HOK := Aside0.mk (LG.apply_ok h.ok hr)
  have HID := Aside0.mk hr.id
  have HA := Aside0.mk ha
  have HH := Aside0.mk h
  have HN := Aside0.mk hn
  have HBB := Aside0.mk hB
  clear h hr hn hB
  obtain ⟨ea, ee⟩ := apply_of ha
  have hac : L.act ⟨kd, id, ver, text⟩ = ⟨setP L.posts ⟨id, ver, text⟩, L.pols, L.next, id⟩ := by simp [LG.act, hkd]
  rw [ea, hac] at HOK
  rw [ea, ee, hac]
  subst hkd
  clear ha ea ee hac
  go_enter Try.func10, Try.ntmps10
  go_wp2_with (first
    | ((with_reducible refine gate_dst (N := 3) rfl ?_); refine box_event ?hg (N := 3) ?hd (cs := #[.int .i64 4, .int .u64 id, .int .u64 ver, .string text]) (t := 26) ?hr ?_; (case hd => rfl); (case hg => rfl); (case hr => first | (go_simp; done) | (go_simp; rfl)); intro gb hg w3 hbox hb; have HB3 := Aside0.mk hb; have BK3 := Aside0.mk hbox; have HGB := Aside0.mk (show w.heap.size ≤ gb by rw [hg]; exact Nat.le_refl _); have c0 : w3.cell? ⟨gb, 0, none⟩ = some (.int .i64 4) := (blk_cell hbox 0).trans rfl; have c1 : w3.cell? ⟨gb, 1, none⟩ = some (.int .u64 id) := (blk_cell hbox 1).trans rfl; have c2 : w3.cell? ⟨gb, 2, none⟩ = some (.int .u64 ver) := (blk_cell hbox 2).trans rfl; have c3 : w3.cell? ⟨gb, 3, none⟩ = some (.string text) := (blk_cell hbox 3).trans rfl; clear hg hbox hb)
    | (go_at_call 27; refine (applies_calls (HH.out.below HB3.out) ⟨4, id, ver, text⟩ HID.out).mono ?_; rintro e w4 ⟨rfl, hb4⟩; rw [HA.out]; have HB4 := Aside0.mk (HB3.out.trans (hb4.mono HB3.out.size)); have BK4 := Aside0.mk (blk_below BK3.out hb4); clear c0 c1 c2 c3; have c0 : w4.cell? ⟨gb, 0, none⟩ = some (.int .i64 4) := (blk_cell BK4.out 0).trans rfl; have c1 : w4.cell? ⟨gb, 1, none⟩ = some (.int .u64 id) := (blk_cell BK4.out 1).trans rfl; have c2 : w4.cell? ⟨gb, 2, none⟩ = some (.int .u64 ver) := (blk_cell BK4.out 2).trans rfl; have c3 : w4.cell? ⟨gb, 3, none⟩ = some (.string text) := (blk_cell BK4.out 3).trans rfl; have HL4 := Aside0.mk (HH.out.below HB4.out); obtain ⟨⟨h0, h1, h2, h3⟩, hf⟩ := HL4.out.cells; have hgl : g < w4.heap.size := (HL4.out.lt (.inl rfl)).2; have hgb : gb < w4.heap.size := blk_lt BK4.out; clear hb4))
  refine region_tail 7 (by kernel_rfl) (by kernel_rfl) ?_
  simp only [List.take_succ_cons, List.take_zero, List.drop_succ_cons, List.drop_zero]
  repeat still_step
  refine wpStill_nil ?_
  have HM := Aside0.mk (show (w4.alloc (.cells #[.int .u64 id, .int .u64 ver, .string text] 42)).drew.ownsMap Try.prog 24 postR b n (mapD L.posts) from (HL4.out.map.alloc _).drew)
  have hk := Aside0.mk (keyOf_int_mk Try.underlying24 (wf64 HID.out))
  go_wp2_with (at_mapUpdate; refine wpList_mapUpdate_own _ rfl _ _ _ 67 rfl 24 42 law24 Try.underlying67 _ b n _ rfl HM.out HN.out _ _ _ rfl rfl hk.out (pd ⟨id, ver, text⟩) [] (postR_mk ⟨id, ver, text⟩) ?_; intro w6 hown6 hg6; have HO6 := Aside0.mk hown6; have HG6 := Aside0.mk hg6; have BG6 := Aside0.mk (blk_grown (blk_drew (blk_alloc HL4.out.blk _)) hg6 HL4.out.ne.1); have BB6 := Aside0.mk (blk_grown (blk_drew (blk_alloc BK4.out _)) hg6 (by have := HGB.out; have := (HH.out.lt (.inr (.inl rfl))).2; omega)); clear hown6 hg6 h0 h1 h2 h3 hf hgl c0 c1 c2 c3 hgb; have c1 : w6.cell? ⟨gb, 1, none⟩ = some (.int .u64 id) := (blk_cell BB6.out 1).trans rfl; have h2 : w6.cell? ⟨g, 2, none⟩ = some (.int .u64 L.next) := (blk_cell BG6.out 2).trans rfl; have h3 : w6.cell? ⟨g, 3, none⟩ = some (.int .u64 L.cur) := (blk_cell BG6.out 3).trans rfl; have hf2 := blk_frozen BG6.out 2; have hf3 := blk_frozen BG6.out 3; go_frame)
  go_ret
  have e1 := put_eq HL4.out.ok.rise (⟨id, ver, text⟩ : LP) (x := id) rfl (HO6.out.canon law24)
  have m46 : Mv (fun j => j = b) w4 w6 := (Mv.of_below (below_alloc (Below.refl _ _) _).drew).trans (.of_grown (S := fun j => j = b) HG6.out (fun j e => by cases e; rfl)) (fun j hj => .inl hj)
  have m1 : Mv (Owns g b v) w w6 := (Mv.of_below HB4.out).trans m46 (fun j hj => .inl (.inr (.inl hj)))
  refine ⟨rfl, Did.cells (L := L) (v := v) HH.out m1 (.set _ rfl) (blk_set BG6.out 3 _) rfl ?_ rfl ?_ HOK.out⟩
  · exact e1 ▸ HO6.out
  · exact own_mv HL4.out.row m46 (fun j hj e => HL4.out.ne.2.2 (by rw [hj, e]))
set_option maxHeartbeats 4000000 in
set_option maxRecDepth 100000 in
theorem apply_delete {w : World} {B g b n : Nat} {v : Value} {L : LG} (h : Led w B g b n v L) (hB : B ≤ w.heap.size) (hn : n < maxLen) {kd id ver : Int} {text : ByteArray} (hr : RC.Wf ⟨kd, id, ver, text⟩) (ha : L.applies ⟨kd, id, ver, text⟩ = true) (hkd : kd = 2) :
    Calls Try.prog 10 #[.pointer (some ⟨g, 0, none⟩), .agg #[.int .i64 kd, .int .u64 id, .int .u64 ver, .string text]] w fun e w' => e = .returned (.int .i64 (L.errno ⟨kd, id, ver, text⟩)) ∧ Did w w' B g b (n + 1) v (L.apply ⟨kd, id, ver, text⟩) := by
  have HOK := Aside0.mk (LG.apply_ok h.ok hr)
  have HID := Aside0.mk hr.id
  have HA := Aside0.mk ha
  have HH := Aside0.mk h
  have HN := Aside0.mk hn
  have HBB := Aside0.mk hB
  clear h hr hn hB
  obtain ⟨ea, ee⟩ := apply_of ha
  have hac : L.act ⟨kd, id, ver, text⟩ = ⟨delP L.posts id, L.pols, L.next, L.cur⟩ := by simp [LG.act, hkd]
  rw [ea, hac] at HOK
  rw [ea, ee, hac]
  subst hkd
  clear ha ea ee hac
  go_enter Try.func10, Try.ntmps10
  go_wp2_with (first
    | ((with_reducible refine gate_dst (N := 3) rfl ?_); refine box_event ?hg (N := 3) ?hd (cs := #[.int .i64 2, .int .u64 id, .int .u64 ver, .string text]) (t := 26) ?hr ?_; (case hd => rfl); (case hg => rfl); (case hr => first | (go_simp; done) | (go_simp; rfl)); intro gb hg w3 hbox hb; have HB3 := Aside0.mk hb; have BK3 := Aside0.mk hbox; have HGB := Aside0.mk (show w.heap.size ≤ gb by rw [hg]; exact Nat.le_refl _); have c0 : w3.cell? ⟨gb, 0, none⟩ = some (.int .i64 2) := (blk_cell hbox 0).trans rfl; have c1 : w3.cell? ⟨gb, 1, none⟩ = some (.int .u64 id) := (blk_cell hbox 1).trans rfl; have c2 : w3.cell? ⟨gb, 2, none⟩ = some (.int .u64 ver) := (blk_cell hbox 2).trans rfl; have c3 : w3.cell? ⟨gb, 3, none⟩ = some (.string text) := (blk_cell hbox 3).trans rfl; clear hg hbox hb)
    | (go_at_call 27; refine (applies_calls (HH.out.below HB3.out) ⟨2, id, ver, text⟩ HID.out).mono ?_; rintro e w4 ⟨rfl, hb4⟩; rw [HA.out]; have HB4 := Aside0.mk (HB3.out.trans (hb4.mono HB3.out.size)); have BK4 := Aside0.mk (blk_below BK3.out hb4); clear c0 c1 c2 c3; have c0 : w4.cell? ⟨gb, 0, none⟩ = some (.int .i64 2) := (blk_cell BK4.out 0).trans rfl; have c1 : w4.cell? ⟨gb, 1, none⟩ = some (.int .u64 id) := (blk_cell BK4.out 1).trans rfl; have c2 : w4.cell? ⟨gb, 2, none⟩ = some (.int .u64 ver) := (blk_cell BK4.out 2).trans rfl; have c3 : w4.cell? ⟨gb, 3, none⟩ = some (.string text) := (blk_cell BK4.out 3).trans rfl; have HL4 := Aside0.mk (HH.out.below HB4.out); obtain ⟨⟨h0, h1, h2, h3⟩, hf⟩ := HL4.out.cells; have hgl : g < w4.heap.size := (HL4.out.lt (.inl rfl)).2; have hgb : gb < w4.heap.size := blk_lt BK4.out; clear hb4))
  refine region_tail 6 (by kernel_rfl) (by kernel_rfl) ?_
  simp only [List.take_succ_cons, List.take_zero, List.drop_succ_cons, List.drop_zero]
  repeat still_step
  refine wpStill_nil ?_
  have HM := Aside0.mk (show (w4.alloc (.cells #[.int .u64 id, .int .u64 ver, .string text] 42)).drew.ownsMap Try.prog 24 postR b n (mapD L.posts) from (HL4.out.map.alloc _).drew)
  have hk := Aside0.mk (keyOf_int_mk Try.underlying24 (wf64 HID.out))
  go_wp2_with (at_delete; refine wpList_delete_own _ rfl _ _ 67 24 rfl 42 law24 Try.underlying67 postR b n _ rfl HM.out _ _ rfl hk.out ?_; intro w6 hown6 hturn6; have HO6 := Aside0.mk hown6; have HG6 := Aside0.mk hturn6.grown; clear hown6 hturn6 h0 h1 h2 h3 hf hgl c0 c1 c2 c3 hgb; go_frame)
  go_ret
  rw [del_eq] at HO6
  have m46 : Mv (fun j => j = b) w4 w6 := (Mv.of_below (below_alloc (Below.refl _ _) _).drew).trans (.of_grown (S := fun j => j = b) HG6.out (fun j e => by cases e; rfl)) (fun j hj => .inl hj)
  have m1 : Mv (Owns g b v) w w6 := (Mv.of_below HB4.out).trans m46 (fun j hj => .inl (.inr (.inl hj)))
  refine ⟨rfl, ⟨v, ⟨(m46.block g (blk_lt HL4.out.blk) HL4.out.ne.1).trans HL4.out.blk, HO6.out.mono (Nat.le_succ _), own_mv HL4.out.row m46 (fun j hj e => HL4.out.ne.2.2 (by rw [hj, e])), HH.out.gB, HH.out.bB, HOK.out⟩, fun j hj => .inl hj⟩, m1⟩
set_option maxHeartbeats 4000000 in
set_option maxRecDepth 100000 in
theorem apply_policy {w : World} {B g b n : Nat} {v : Value} {L : LG} (h : Led w B g b n v L) (hB : B ≤ w.heap.size) (hn : n < maxLen) {kd id ver : Int} {text : ByteArray} (hr : RC.Wf ⟨kd, id, ver, text⟩) (ha : L.applies ⟨kd, id, ver, text⟩ = true) (hkd : kd = 3) :
    Calls Try.prog 10 #[.pointer (some ⟨g, 0, none⟩), .agg #[.int .i64 kd, .int .u64 id, .int .u64 ver, .string text]] w fun e w' => e = .returned (.int .i64 (L.errno ⟨kd, id, ver, text⟩)) ∧ Did w w' B g b (n + 1) v (L.apply ⟨kd, id, ver, text⟩) := by
  have HOK := Aside0.mk (LG.apply_ok h.ok hr)
  have HID := Aside0.mk hr.id
  have HA := Aside0.mk ha
  have HH := Aside0.mk h
  have HN := Aside0.mk hn
  have HBB := Aside0.mk hB
  clear h hr hn hB
  obtain ⟨ea, ee⟩ := apply_of ha
  have hac : L.act ⟨kd, id, ver, text⟩ = ⟨L.posts, L.pols ++ [text], L.next, 0⟩ := by simp [LG.act, hkd]
  rw [ea, hac] at HOK
  rw [ea, ee, hac]
  subst hkd
  clear ha ea ee hac
  obtain ⟨i9, hi9, hz9, hs9, hb9⟩ := info_parts info9
  have I9 := Aside0.mk (And.intro hi9 (And.intro hz9 (And.intro hs9 hb9)))
  clear hi9 hz9 hs9 hb9
  go_enter Try.func10, Try.ntmps10
  go_wp2_with (first
    | ((with_reducible refine gate_dst (N := 3) rfl ?_); refine box_event ?hg (N := 3) ?hd (cs := #[.int .i64 3, .int .u64 id, .int .u64 ver, .string text]) (t := 26) ?hr ?_; (case hd => rfl); (case hg => rfl); (case hr => first | (go_simp; done) | (go_simp; rfl)); intro gb hg w3 hbox hb; have HB3 := Aside0.mk hb; have BK3 := Aside0.mk hbox; have HGB := Aside0.mk (show w.heap.size ≤ gb by rw [hg]; exact Nat.le_refl _); have c0 : w3.cell? ⟨gb, 0, none⟩ = some (.int .i64 3) := (blk_cell hbox 0).trans rfl; have c1 : w3.cell? ⟨gb, 1, none⟩ = some (.int .u64 id) := (blk_cell hbox 1).trans rfl; have c2 : w3.cell? ⟨gb, 2, none⟩ = some (.int .u64 ver) := (blk_cell hbox 2).trans rfl; have c3 : w3.cell? ⟨gb, 3, none⟩ = some (.string text) := (blk_cell hbox 3).trans rfl; clear hg hbox hb)
    | (go_at_call 27; refine (applies_calls (HH.out.below HB3.out) ⟨3, id, ver, text⟩ HID.out).mono ?_; rintro e w4 ⟨rfl, hb4⟩; rw [HA.out]; have HB4 := Aside0.mk (HB3.out.trans (hb4.mono HB3.out.size)); have BK4 := Aside0.mk (blk_below BK3.out hb4); clear c0 c1 c2 c3; have c0 : w4.cell? ⟨gb, 0, none⟩ = some (.int .i64 3) := (blk_cell BK4.out 0).trans rfl; have c1 : w4.cell? ⟨gb, 1, none⟩ = some (.int .u64 id) := (blk_cell BK4.out 1).trans rfl; have c2 : w4.cell? ⟨gb, 2, none⟩ = some (.int .u64 ver) := (blk_cell BK4.out 2).trans rfl; have c3 : w4.cell? ⟨gb, 3, none⟩ = some (.string text) := (blk_cell BK4.out 3).trans rfl; have HL4 := Aside0.mk (HH.out.below HB4.out); obtain ⟨⟨h0, h1, h2, h3⟩, hf⟩ := HL4.out.cells; have hgl : g < w4.heap.size := (HL4.out.lt (.inl rfl)).2; have hgb : gb < w4.heap.size := blk_lt BK4.out; clear hb4))
  have HR6 := Aside0.mk (show ((w4.alloc (.cells #[.int .u64 id, .int .u64 ver, .string text] 42)).alloc (.cells #[.string text] 9)).drew.ownsRow B 9 1 v L.pols.length (L.pols.map Value.string) from own_mv (S := fun _ => False) HL4.out.row (.of_below (below_alloc (below_alloc (Below.refl _ _) _) _).drew) (fun _ _ q => q))
  have HP := Aside0.mk HL4.out.ok.pols
  have e2 : ((w4.alloc (.cells #[.int .u64 id, .int .u64 ver, .string text] 42)).alloc (.cells #[.string text] 9)).drew.heap.size = w4.heap.size + 2 := by simp
  have HS2 := Aside0.mk e2
  have HBW := Aside0.mk (show B ≤ w4.heap.size from Nat.le_trans HBB.out HB4.out.size)
  have hnb := World.news_of_block (w := ((w4.alloc (.cells #[.int .u64 id, .int .u64 ver, .string text] 42)).alloc (.cells #[.string text] 9)).drew) (B := w4.heap.size + 1) (cs := #[.string text]) (t := 9) (fr := (0, 0)) (by have := blk_drew (blk_new (w4.alloc (.cells #[.int .u64 id, .int .u64 ver, .string text] 42)) (.cells #[.string text] 9)); rwa [show (w4.alloc (.cells #[.int .u64 id, .int .u64 ver, .string text] 42)).heap.size = w4.heap.size + 1 by simp] at this)
  have HNB := Aside0.mk hnb
  clear e2 hnb
  go_region_law (first | (refine step_append_lies _ rfl (.tmp 53) (.tmp 56) 56 rfl B 9 i9 (.string ⟨#[]⟩) 1 16 Try.underlying56 I9.out.1 I9.out.2.1 I9.out.2.2.1 I9.out.2.2.2 rfl (by decide) v L.pols.length (L.pols.map Value.string) rfl HR6.out ⟨w4.heap.size + 1, 0, none⟩ 1 1 [.string text] rfl rfl HNB.out (by simp [Value.oneCell']) (by decide) (by have := HP.out; unfold maxLen; omega) (by have := HP.out; omega) (by rw [HS2.out]; have := HBW.out; omega) (w4.heap.size + 2) HS2.out ?_; intro g6 cap6 w6 hown6 hg6 hloc6 hlt6; have HO6 := Aside0.mk hown6; have HG6 := Aside0.mk hg6; have HL6 := Aside0.mk hloc6; have BG6 := Aside0.mk ((hg6.block g (by rw [HS2.out]; omega) (fun q => HL4.out.ne.2.1 q.symm)).trans (blk_drew (blk_alloc (blk_alloc HL4.out.blk _) _))); clear h0 h1 h2 h3 hf; have h1 : w6.cell? ⟨g, 1, none⟩ = some v := (blk_cell BG6.out 1).trans rfl; have hf1 := blk_frozen BG6.out 1; have h3 : w6.cell? ⟨g, 3, none⟩ = some (.int .u64 L.cur) := (blk_cell BG6.out 3).trans rfl; have hf3 := blk_frozen BG6.out 3; clear hown6 hg6 hloc6 hlt6))
  all_goals
    have BG7 := Aside0.mk (blk_set BG6.out 1 (.slice (some ⟨g6, 0, none⟩) (L.pols.length + 1) cap6))
    go_wp2
    go_ret
    have hlen : (L.pols ++ [text]).length = L.pols.length + 1 := by simp
    have m46 : Mv (fun j => v.ownBlock = some j) w4 w6 := (Mv.of_below (below_alloc (below_alloc (Below.refl _ _) _) _).drew).trans (.of_grown (S := fun j => v.ownBlock = some j) HG6.out (fun j e => e)) (fun j hj => .inl hj)
    have m67 : Mv (fun j => j = g) w6 ((w6.setCell ⟨g, 1, none⟩ (.slice (some ⟨g6, 0, none⟩) (L.pols.length + 1) cap6)).setCell ⟨g, 3, none⟩ (.int .u64 0)) := (Mv.set (S := fun j => j = g) _ rfl).trans (.set (S := fun j => j = g) _ rfl) (S' := fun j => j = g) (fun j hj => .inl hj)
    have m1 : Mv (Owns g b v) w ((w6.setCell ⟨g, 1, none⟩ (.slice (some ⟨g6, 0, none⟩) (L.pols.length + 1) cap6)).setCell ⟨g, 3, none⟩ (.int .u64 0)) := ((Mv.of_below HB4.out).trans m46 (fun j hj => .inl (.inr (.inr hj)))).trans m67 (fun j hj => .inl (.inl hj))
    have hg6g : g6 ≠ g := by
      rcases HL6.out with q | q
      · exact fun e => HL4.out.ne.2.1 (by rw [q, e])
      · omega
    refine ⟨rfl, ⟨.slice (some ⟨g6, 0, none⟩) (L.pols.length + 1) cap6, ⟨blk_set BG7.out 3 _, ?_, ?_, HH.out.gB, HH.out.bB, HOK.out⟩, fun j hj => ?_⟩, m1⟩
    · exact (map_mv (map_mv HL4.out.map m46 HL4.out.ne.2.2) m67 (fun e => HL4.out.ne.1 e.symm)).mono (Nat.le_succ _)
    · have := own_mv HO6.out m67 (fun j hj e => hg6g (by simp [Value.ownBlock] at hj; omega))
      rw [hlen, List.map_append]
      exact this
    · have hj' : g6 = j := by simpa [Value.ownBlock] using hj
      subst hj'
      rcases HL6.out with q | q
      · exact .inl q
      · exact .inr (by have := HB4.out.size; omega)
theorem Apply_calls {w : World} {B g b n : Nat} {v : Value} {L : LG} (h : Led w B g b n v L) (hB : B ≤ w.heap.size) (hn : n < maxLen) (r : RC) (hr : r.Wf) :
    Calls Try.prog 10 #[.pointer (some ⟨g, 0, none⟩), recV r] w fun e w' => e = .returned (.int .i64 (L.errno r)) ∧ Did w w' B g b (n + 1) v (L.apply r) := by
  obtain ⟨kd, id, ver, text⟩ := r
  cases ha : LG.applies L ⟨kd, id, ver, text⟩
  · exact apply_not h hB hn hr ha trivial
  · rcases RC.ok_kind (LG.applies_ok ha) with hk | hk | hk | hk
    · exact apply_post h hB hn hr ha hk
    · exact apply_delete h hB hn hr ha hk
    · exact apply_policy h hB hn hr ha hk
    · exact apply_convert h hB hn hr ha hk
end Go.Proofs.Ytjfkenjmjoncbaa.Lg

end
