-- Written by a program of this session (hprint.py: the kit's print over several laws at once, with functions proved by hand). Lean checks it.
import Derived.Test.YtjfkenjmjoncbaaProg
import Derived.Below
import Derived.Deep.Draws
import Derived.Deep.AppendLies
import Derived.Maps.AppendAt
import Derived.OwnWalk
import Derived.Laws.BytesArg
import Derived.Laws.MakeOwn
import Derived.Laws.OwnMore
import Derived.Deep.OwnRows
import Derived.Tactics
import Derived.Lib.ConvBytes
import Derived.Laws.Slices
import Derived.WalkKit
import Derived.KernelRfl
import Derived.RowKit3
import Derived.Deep.LoopGhost
import Derived.Deep.QuietTactic
import Derived.BigQuiet
import Derived.WideLaws
import Derived.Deep.DeepCutAuto
import Derived.Deep.CutBlock
import Derived.Deep.RegionHeld3
import Derived.Laws.Rows
import Derived.Lib.AppendStr
import Derived.ArgAppend
import Derived.Laws.IdiomCopy
import Derived.OrdersHeld
import Derived.Laws.BitsLemmas
import Derived.RowKit
import Derived.Test.YtjfkenjmjoncbaaWWords
import Derived.Test.YtjfkenjmjoncbaaWLast
import Derived.Test.YtjfkenjmjoncbaaWTab
import Derived.Test.YtjfkenjmjoncbaaWFour
import Derived.Test.YtjfkenjmjoncbaaWQPut
import Derived.Test.YtjfkenjmjoncbaaWApart
import Derived.Test.YtjfkenjmjoncbaaWArr
import Derived.Test.YtjfkenjmjoncbaaWZeros
import Derived.Test.YtjfkenjmjoncbaaWFoot
import Derived.Test.YtjfkenjmjoncbaaWKept
import Derived.Test.YtjfkenjmjoncbaaWShare
import Derived.Test.YtjfkenjmjoncbaaWN
import Derived.Test.YtjfkenjmjoncbaaWFootNe
import Derived.Test.YtjfkenjmjoncbaaWAt
import Derived.Test.YtjfkenjmjoncbaaWEqStruct
import Derived.Test.YtjfkenjmjoncbaaWRepsOne
import Derived.Test.YtjfkenjmjoncbaaWInv
import Derived.Test.YtjfkenjmjoncbaaWInvWords
import Derived.Test.YtjfkenjmjoncbaaWGuard
import Derived.Test.YtjfkenjmjoncbaaWNEv
import Derived.Test.YtjfkenjmjoncbaaWMore
namespace Go.Proofs.Ytjfkenjmjoncbaa.PAll
open Go.RowKit Go.Proofs.YtjfkenjmjoncbaaW.PrintWords Go.Proofs.YtjfkenjmjoncbaaW.PrintLast Go.Proofs.YtjfkenjmjoncbaaW.PrintMore
attribute [local go_sem] max2_int min2_int max_two min_two max_three min_three max_four min_four   -- for this text's walks alone
set_option linter.unusedVariables false
set_option linter.unusedSimpArgs false



def errW : Option Int → Value
  | none => .nilIface
  | some c => .iface 0 (.int .i64 c)
theorem errW_none : errW none = .nilIface := rfl
theorem errW_some (c : Int) : errW (some c) = .iface 0 (.int .i64 c) := rfl

theorem info5 : (Try.prog.info? 5).map (fun i => (i.zero, i.size, i.bytes)) = some (some (.int .u8 0), 1, 1) := by kernel_rfl
theorem info9 : (Try.prog.info? 9).map (fun i => (i.zero, i.size, i.bytes)) = some (some (.string ⟨#[]⟩), 1, 16) := by kernel_rfl
theorem info24 : (Try.prog.info? 24).map (fun i => (i.zero, i.size, i.bytes)) = some (some (.int .u64 0), 1, 8) := by kernel_rfl
-- the values' own types
def rd_L2 (xs : List (List Int)) (i : Int) : (List Int) := xs.getD i.toNat ([] : List Int)
theorem at_L2 {w : World} {A : Option Addr} {n : Nat} {xs : List (List Int)} (h : Kd.C (Kd.slice 5 (Kd.int .u8)) w A n xs) (i : Int) (h0 : 0 ≤ i) (h1 : i < n) : ∃ ad A0 c0, A = some ad ∧ w.cell? (ad.add i.toNat) = some (.slice A0 (rd_L2 xs i).length c0) ∧ (rd_L2 xs i).length ≤ c0 ∧ (Kd.int .u8).C w A0 (rd_L2 xs i).length (rd_L2 xs i) := by
  obtain ⟨ad, c, e, _, hK, hc0⟩ := Kd.C_get h ([] : List Int) i h0 h1
  have hc : ∀ j u, c[j]? = some u → w.cell? (ad.add (i.toNat * 1 + j)) = some u := hc0
  obtain ⟨A0, c0, rfl, l0, g0⟩ := hK
  exact ⟨ad, A0, c0, e, by have hq := hc 0 _ rfl; rwa [Nat.mul_one, Nat.add_zero] at hq, l0, g0⟩

/-! #### struct type 52 -/
structure S52 where
  f0 : Int
  f1 : (List Int)
def z52 : S52 := ⟨(0 : Int), ([] : List Int)⟩
def k52 : Kd S52 := Kd.iso (Kd.pair (Kd.int .u64) (Kd.slice 5 (Kd.int .u8))) (fun x : S52 => (x.f0, x.f1))
theorem k52_open {w : World} {x : S52} {cs : List Value} (h : k52.K w x cs) : ∃ A1 c1, cs = [.int .u64 x.f0, .slice A1 x.f1.length c1] ∧ x.f1.length ≤ c1 ∧ (Kd.int .u8).C w A1 x.f1.length x.f1 := by
  obtain ⟨_, _, rfl, rfl, ⟨A1, c1, rfl, l1, g1⟩⟩ := h
  exact ⟨A1, c1, rfl, l1, g1⟩
theorem k52_openM {w : World} {base : Nat} {ok : Nat → Prop} {x : S52} {cs : List Value} (h : k52.M w base ok x cs) : ∃ v1, cs = [.int .u64 x.f0, v1] ∧ (Kd.int .u8).R 5 w base ok v1 x.f1 := by
  obtain ⟨_, _, rfl, rfl, ⟨v1, rfl, g1⟩⟩ := h
  exact ⟨v1, rfl, g1⟩
theorem k52_mk (w : World) (x : S52) {A1 : Option Addr} {c1 : Nat} (l1 : x.f1.length ≤ c1) (g1 : (Kd.int .u8).C w A1 x.f1.length x.f1) : k52.K w x [.int .u64 x.f0, .slice A1 x.f1.length c1] := ⟨[.int .u64 x.f0], [.slice A1 x.f1.length c1], rfl, rfl, ⟨A1, c1, rfl, l1, g1⟩⟩
theorem k52_mkM (w : World) (base : Nat) (ok : Nat → Prop) (x : S52) {v1 : Value} (g1 : (Kd.int .u8).R 5 w base ok v1 x.f1) : k52.M w base ok x [.int .u64 x.f0, v1] := ⟨[.int .u64 x.f0], [v1], rfl, rfl, ⟨v1, rfl, g1⟩⟩
def rd_T52 (xs : List S52) (i : Int) : S52 := xs.getD i.toNat z52
theorem at_T52 {w : World} {A : Option Addr} {n : Nat} {xs : List S52} (h : Kd.C k52 w A n xs) (i : Int) (h0 : 0 ≤ i) (h1 : i < n) : ∃ ad A1 c1, A = some ad ∧ w.cell? (ad.add (i.toNat * 2)) = some (.int .u64 (rd_T52 xs i).f0) ∧ w.cell? ⟨(ad.add (i.toNat * 2)).block, (ad.add (i.toNat * 2)).off + 1, none⟩ = some (.slice A1 (rd_T52 xs i).f1.length c1) ∧ (rd_T52 xs i).f1.length ≤ c1 ∧ (Kd.int .u8).C w A1 (rd_T52 xs i).f1.length (rd_T52 xs i).f1 := by
  obtain ⟨ad, c, e, _, hK, hc0⟩ := Kd.C_get h z52 i h0 h1
  have hc : ∀ j u, c[j]? = some u → w.cell? (ad.add (i.toNat * 2 + j)) = some u := hc0
  obtain ⟨A1, c1, rfl, l1, g1⟩ := k52_open hK
  exact ⟨ad, A1, c1, e, hc 0 _ rfl, by rw [← add_field _ _ 1 (by omega)]; exact hc 1 _ rfl, l1, g1⟩

/-! #### struct type 42 -/
structure S42 where
  f0 : Int
  f1 : Int
  f2 : ByteArray
def z42 : S42 := ⟨(0 : Int), (0 : Int), (⟨#[]⟩ : ByteArray)⟩
def k42 : Kd S42 := Kd.iso (Kd.pair (Kd.int .u64) (Kd.pair (Kd.int .u64) Kd.string)) (fun x : S42 => (x.f0, x.f1, x.f2))
theorem k42_open {w : World} {x : S42} {cs : List Value} (h : k42.K w x cs) : cs = [.int .u64 x.f0, .int .u64 x.f1, .string x.f2] := by
  obtain ⟨_, _, rfl, rfl, ⟨_, _, rfl, rfl, rfl⟩⟩ := h
  exact rfl
theorem k42_openM {w : World} {base : Nat} {ok : Nat → Prop} {x : S42} {cs : List Value} (h : k42.M w base ok x cs) : cs = [.int .u64 x.f0, .int .u64 x.f1, .string x.f2] := by
  obtain ⟨_, _, rfl, rfl, ⟨_, _, rfl, rfl, rfl⟩⟩ := h
  exact rfl
theorem k42_mk (w : World) (x : S42)  : k42.K w x [.int .u64 x.f0, .int .u64 x.f1, .string x.f2] := ⟨[.int .u64 x.f0], [.int .u64 x.f1, .string x.f2], rfl, rfl, ⟨[.int .u64 x.f1], [.string x.f2], rfl, rfl, rfl⟩⟩
theorem k42_mkM (w : World) (base : Nat) (ok : Nat → Prop) (x : S42)  : k42.M w base ok x [.int .u64 x.f0, .int .u64 x.f1, .string x.f2] := ⟨[.int .u64 x.f0], [.int .u64 x.f1, .string x.f2], rfl, rfl, ⟨[.int .u64 x.f1], [.string x.f2], rfl, rfl, rfl⟩⟩
def rd_T42 (xs : List S42) (i : Int) : S42 := xs.getD i.toNat z42
theorem at_T42 {w : World} {A : Option Addr} {n : Nat} {xs : List S42} (h : Kd.C k42 w A n xs) (i : Int) (h0 : 0 ≤ i) (h1 : i < n) : ∃ ad , A = some ad ∧ w.cell? (ad.add (i.toNat * 3)) = some (.int .u64 (rd_T42 xs i).f0) ∧ w.cell? ⟨(ad.add (i.toNat * 3)).block, (ad.add (i.toNat * 3)).off + 1, none⟩ = some (.int .u64 (rd_T42 xs i).f1) ∧ w.cell? ⟨(ad.add (i.toNat * 3)).block, (ad.add (i.toNat * 3)).off + 2, none⟩ = some (.string (rd_T42 xs i).f2) := by
  obtain ⟨ad, c, e, _, hK, hc0⟩ := Kd.C_get h z42 i h0 h1
  have hc : ∀ j u, c[j]? = some u → w.cell? (ad.add (i.toNat * 3 + j)) = some u := hc0
  obtain rfl := k42_open hK
  exact ⟨ad, e, hc 0 _ rfl, by rw [← add_field _ _ 1 (by omega)]; exact hc 1 _ rfl, by rw [← add_field _ _ 2 (by omega)]; exact hc 2 _ rfl⟩

end Go.Proofs.Ytjfkenjmjoncbaa.PAll
