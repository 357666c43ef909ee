-- Laid together by a program of this session (merge.py) out of its own texts and of the print's, for one law. Lean checks it.
import Derived.Test.YtnbghhddmlohoaaDoorProg
import Derived.Shelf.Strings.Split
import Derived.Shelf.Lays
import Derived.Shelf.Slices.Clone
import Derived.Shelf.SlicesE.DeleteFunc
import Derived.KernelRfl
import Derived.Tactics
import Derived.WalkKit
import Derived.Below
import Derived.Deep.Draws
import Derived.Deep.AppendLies
import Derived.Maps.AppendAt
import Derived.OwnWalk
import Derived.Laws.BytesArg
import Derived.Laws.MakeOwn
import Derived.Laws.OwnMore
import Derived.Deep.OwnRows
import Derived.Lib.ConvBytes
import Derived.Laws.Slices
import Derived.RowKit3
import Derived.Deep.LoopGhost
import Derived.Deep.QuietTactic
import Derived.BigQuiet
import Derived.WideLaws
import Derived.Deep.DeepCutAuto
import Derived.Deep.CutBlock
import Derived.Deep.RegionHeld3
import Derived.Laws.Rows
import Derived.Lib.AppendStr
import Derived.ArgAppend
import Derived.Laws.IdiomCopy
import Derived.OrdersHeld
import Derived.Laws.BitsLemmas
import Derived.RowKit
import Derived.Shelf.Strings.Search1
import Derived.Shelf.Strings.Search2
import Derived.Shelf.Strings.Builder1
import Derived.Lib.Builder
import Derived.Tactics2
import Derived.Defers
import Derived.Recover
import Derived.Laws.Pointers
import Derived.ProofKit
import Derived.OpenShut
import Derived.Lib.SmallJoins
import Derived.Deep.Slices
import Derived.Test.YtnbghhddmlohoaaDoorRows
import Derived.Lay
import Derived.LaidMore
import Derived.SevenTiedAt
import Derived.Stop.Joined
import Derived.Shelf.Vars
import Derived.Test.YtnbghhddmlohoaaDoorCards
import Derived.Test.YtnbghhddmlohoaaDoorTie
import Derived.ShutString
import Derived.ChangeOld
import Derived.SizedLaws
import Derived.Test.YtnbghhddmlohoaaDoorWApart
import Derived.Test.YtnbghhddmlohoaaDoorWArr
import Derived.Test.YtnbghhddmlohoaaDoorWFoot
import Derived.Test.YtnbghhddmlohoaaDoorWGuard
import Derived.Test.YtnbghhddmlohoaaDoorWInv
import Derived.Test.YtnbghhddmlohoaaDoorWKept
import Derived.Test.YtnbghhddmlohoaaDoorWLast
import Derived.Test.YtnbghhddmlohoaaDoorWMore
import Derived.Test.YtnbghhddmlohoaaDoorWN
import Derived.Test.YtnbghhddmlohoaaDoorWNEv
import Derived.Test.YtnbghhddmlohoaaDoorWQPut
import Derived.Test.YtnbghhddmlohoaaDoorWRepsOne
import Derived.Test.YtnbghhddmlohoaaDoorWShare
import Derived.Test.YtnbghhddmlohoaaDoorWTab
import Derived.Test.YtnbghhddmlohoaaDoorWWords
import Derived.Test.YtnbghhddmlohoaaDoorWZeros
section
namespace Go.Proofs.YtnbghhddmlohoaaDoor.PAll
open Go.RowKit Go.Shelf
set_option linter.unusedVariables false
def pl_lays146_ren : Go.Shelf.Ren := ⟨fun | 146 => 37 | 221 => 72 | 268 => 91 | 138 => 92 | 143 => 93 | 195 => 101 | 197 => 102 | 218 => 103 | 219 => 97 | 260 => 109 | 217 => 104 | 225 => 105 | 224 => 106 | 267 => 107 | 266 => 110 | 314 => 111 | n => n, fun | 9 => 9 | 31 => 23 | 3 => 3 | 4 => 4 | 0 => 0 | 105 => 102 | 21 => 21 | 5 => 5 | 46 => 106 | 119 => 112 | 139 => 115 | 138 => 114 | 146 => 110 | 51 => 109 | n => n, fun | 1 => 0 | 3 => 1 | 4 => 2 | n => n⟩
theorem pl_lays146 : Go.Proofs.Lays.n146 Tryd.prog pl_lays146_ren := {
  mixed := by kernel_rfl
  f138 := Tryd.func92.trans (congrArg some (by kernel_rfl))
  f143 := Tryd.func93.trans (congrArg some (by kernel_rfl))
  f146 := Tryd.func37.trans (congrArg some (by kernel_rfl))
  f195 := Tryd.func101.trans (congrArg some (by kernel_rfl))
  f197 := Tryd.func102.trans (congrArg some (by kernel_rfl))
  f217 := Tryd.func104.trans (congrArg some (by kernel_rfl))
  f218 := Tryd.func103.trans (congrArg some (by kernel_rfl))
  f219 := Tryd.func97.trans (congrArg some (by kernel_rfl))
  f221 := Tryd.func72.trans (congrArg some (by kernel_rfl))
  f224 := Tryd.func106.trans (congrArg some (by kernel_rfl))
  f225 := Tryd.func105.trans (congrArg some (by kernel_rfl))
  f260 := Tryd.func109.trans (congrArg some (by kernel_rfl))
  f266 := Tryd.func110.trans (congrArg some (by kernel_rfl))
  f267 := Tryd.func107.trans (congrArg some (by kernel_rfl))
  f268 := Tryd.func91.trans (congrArg some (by kernel_rfl))
  f314 := Tryd.func111.trans (congrArg some (by kernel_rfl))
  t0 := Tryd.underlying0
  a0 := Tryd.isAgg0
  z0 := Tryd.sizeOf0
  v0 := Tryd.zeroValue0
  t3 := Tryd.underlying3
  a3 := Tryd.isAgg3
  z3 := Tryd.sizeOf3
  v3 := Tryd.zeroValue3
  t4 := Tryd.underlying4
  a4 := Tryd.isAgg4
  z4 := Tryd.sizeOf4
  v4 := Tryd.zeroValue4
  t5 := Tryd.underlying5
  a5 := Tryd.isAgg5
  z5 := Tryd.sizeOf5
  v5 := Tryd.zeroValue5
  t9 := Tryd.underlying9
  a9 := Tryd.isAgg9
  z9 := Tryd.sizeOf9
  v9 := Tryd.zeroValue9
  t21 := Tryd.underlying21
  a21 := Tryd.isAgg21
  z21 := Tryd.sizeOf21
  v21 := Tryd.zeroValue21
  t31 := Tryd.underlying23
  a31 := Tryd.isAgg23
  z31 := Tryd.sizeOf23
  v31 := Tryd.zeroValue23
  t46 := Tryd.underlying106
  a46 := Tryd.isAgg106
  z46 := Tryd.sizeOf106
  v46 := Tryd.zeroValue106
  t51 := Tryd.underlying109
  a51 := Tryd.isAgg109
  z51 := Tryd.sizeOf109
  v51 := Tryd.zeroValue109
  t105 := Tryd.underlying102
  a105 := Tryd.isAgg102
  z105 := Tryd.sizeOf102
  v105 := Tryd.zeroValue102
  t119 := Tryd.underlying112
  a119 := Tryd.isAgg112
  z119 := Tryd.sizeOf112
  t138 := Tryd.underlying114
  a138 := Tryd.isAgg114
  z138 := Tryd.sizeOf114
  v138 := Tryd.zeroValue114
  t139 := Tryd.underlying115
  a139 := Tryd.isAgg115
  z139 := Tryd.sizeOf115
  v139 := Tryd.zeroValue115
  t146 := Tryd.underlying110
  a146 := Tryd.isAgg110
  z146 := Tryd.sizeOf110
  v146 := Tryd.zeroValue110
  g1 := by kernel_rfl
  g3 := by kernel_rfl
  g4 := by kernel_rfl }

def pl_laysNm216_ren : Go.Shelf.Ren := ⟨fun | 16 => 90 | n => n, fun | 24 => 23 | 9 => 9 | 4 => 4 | n => n, fun | n => n⟩
theorem pl_laysNm216 : Go.Proofs.Lays2.n16 Tryd.prog pl_laysNm216_ren := {
  mixed := by kernel_rfl
  f16 := Tryd.func90.trans (congrArg some (by kernel_rfl))
  t4 := Tryd.underlying4
  a4 := Tryd.isAgg4
  z4 := Tryd.sizeOf4
  v4 := Tryd.zeroValue4
  t9 := Tryd.underlying9
  a9 := Tryd.isAgg9
  z9 := Tryd.sizeOf9
  v9 := Tryd.zeroValue9
  t24 := Tryd.underlying23
  a24 := Tryd.isAgg23
  z24 := Tryd.sizeOf23
  v24 := Tryd.zeroValue23
  i9 := by kernel_rfl }

def pl_sl10_ren : Go.Shelf.Ren := ⟨fun | 10 => 99 | 6 => 64 | n => n, fun | 22 => 23 | 23 => 9 | 25 => 33 | 3 => 3 | 4 => 4 | 0 => 0 | n => n, fun | n => n⟩
theorem pl_sl10 : Go.Proofs.SlLaysH.n10 Tryd.prog pl_sl10_ren := {
  mixed := by kernel_rfl
  f6 := ⟨Tryd.f64.name, by decide, Tryd.func64.trans (congrArg some (by kernel_rfl))⟩
  f10 := ⟨Tryd.f99.name, by decide, Tryd.func99.trans (congrArg some (by kernel_rfl))⟩
  t0 := Tryd.underlying0
  a0 := Tryd.isAgg0
  z0 := Tryd.sizeOf0
  v0 := Tryd.zeroValue0
  t3 := Tryd.underlying3
  a3 := Tryd.isAgg3
  z3 := Tryd.sizeOf3
  v3 := Tryd.zeroValue3
  t4 := Tryd.underlying4
  a4 := Tryd.isAgg4
  z4 := Tryd.sizeOf4
  v4 := Tryd.zeroValue4
  t22 := Tryd.underlying23
  a22 := Tryd.isAgg23
  z22 := Tryd.sizeOf23
  v22 := Tryd.zeroValue23
  a23 := Tryd.isAgg9
  z23 := Tryd.sizeOf9
  t25 := Tryd.underlying33
  a25 := Tryd.isAgg33
  z25 := Tryd.sizeOf33
  v25 := Tryd.zeroValue33 }

structure PlAside (p : Prop) : Prop where
  out : p
def plPieces (c : UInt8) (s : ByteArray) : List ByteArray := Lib.splitB ⟨#[c]⟩ 0 (Lib.countB s ⟨#[c]⟩) s
theorem plPieces_len (c : UInt8) (s : ByteArray) : (plPieces c s).length = Lib.countB s ⟨#[c]⟩ + 1 := Lib.splitB_all ⟨#[c]⟩ (Nat.le_refl 1) 0 _ s rfl
theorem pl_split (c : UInt8) (s : ByteArray) (m : Int) (w : World) (hs : s.size < 4294967281) (hm : w.cell? ⟨0, 0, none⟩ = some (.int .i64 m)) :
    Calls Tryd.prog 37 #[.string s, .string ⟨#[c]⟩] w fun e w' => e = .returned (.slice (some ⟨w.heap.size, 0, none⟩) (plPieces c s).length (plPieces c s).length) ∧ w' = w.alloc (.cells ((plPieces c s).map Value.string).toArray 9) := by
  refine (Any.strings_Split pl_lays146 (by kernel_rfl) s ⟨#[c]⟩ m w hs hm (Nat.le_refl 1)).mono ?_
  rintro e w' ⟨rfl, rfl⟩
  rw [plPieces_len]
  exact ⟨rfl, rfl⟩
theorem pl_clone (b off n c : Nat) (zs : List ByteArray) (w : World) (hz : n ≤ zs.length) (hbig : n * 16 ≤ 140737488355328) (hc : ∀ j, j < zs.length → w.cell? ⟨b, off + j, none⟩ = some (.string (zs.getD j ByteArray.empty))) :
    Calls Tryd.prog 90 #[.slice (some ⟨b, off, none⟩) n c] w fun e w' => ∃ v', e = .returned v' ∧ w'.ownsRow w.heap.size 9 1 v' n ((zs.take n).map Value.string) ∧ Below w.heap.size w w' :=
  (Any.slices_Clone_string pl_laysNm216 b off n c zs w hz hbig hc).mono fun e w' ⟨v, he, ho, _, hb⟩ => ⟨v, he, ho, hb⟩
def plEmpty (x : ByteArray) : Bool := x.toList.isEmpty
theorem pl_w1 (x : ByteArray) (W : World) : FnGives Tryd.prog 100 #[] #[.string x] (.bool (plEmpty x)) W := by
  show Calls Tryd.prog 100 #[.string x] W _
  go_enter Tryd.func100, Tryd.ntmps100
  go_wp2
  all_goals (go_ret; exact ⟨by first | rfl | simp_all [plEmpty], 0, rfl⟩)
def plWords (s : ByteArray) : List ByteArray := (plPieces 32 s).filter fun x => !plEmpty x
theorem pl_put (d : Array ByteArray) (c : Array Value) (h : d.size = c.size) : Sort.putCells Value.string 0 d c = d.map Value.string := by
  unfold Sort.putCells
  apply Array.ext
  · simp [h]
  · intro i h1 h2
    have : i < d.size := by simpa using h2
    simp [this]
theorem pl_words (s : ByteArray) (m : Int) (w : World) (hs : s.size < 4294967281) (hm : w.cell? ⟨0, 0, none⟩ = some (.int .i64 m)) :
    Calls Tryd.prog 87 #[.string s] w fun e w' => ∃ cap, e = .returned (.slice (some ⟨w.heap.size, 0, none⟩) (plWords s).length cap) ∧ w'.ownsRow w.heap.size 9 1 (.slice (some ⟨w.heap.size, 0, none⟩) (plWords s).length cap) (plWords s).length ((plWords s).map Value.string) ∧ Below w.heap.size w w' := by
  have eg : ∀ args w, (callFunc 100 args).run Tryd.prog w = .ok (.enter 100 args) w := enters_of Tryd.func100 (by kernel_rfl) rfl
  have hsp := pl_split 32 s m w hs hm
  obtain ⟨l, hl⟩ : ∃ l, l = plPieces 32 s := ⟨_, rfl⟩
  have hw : plWords s = l.filter fun x => !plEmpty x := by rw [hl]; rfl
  rw [hw]
  rw [← hl] at hsp
  have hlen : l.length ≤ 9223372036854775807 := by
    have h1 := plPieces_len 32 s
    have h2 := Lib.countB_le ⟨#[32]⟩ (Nat.le_refl 1) s.size s (Nat.le_refl _)
    rw [hl]; omega
  have hblk : (w.alloc (.cells (l.map Value.string).toArray 9)).heap[w.heap.size]? = some (.cells (l.map Value.string).toArray 9) := by
    show (w.heap.push _)[w.heap.size]? = _
    simp
  have hH : Sort.Holds Value.string (w.alloc (.cells (l.map Value.string).toArray 9)) w.heap.size 0 l.toArray := by
    intro j hj
    have hj' : j < l.length := by simpa using hj
    constructor
    · rw [Nat.zero_add]
      simp only [World.cell?, hblk]
      simp [hj']
    · rw [Nat.zero_add]
      simp only [World.frozen?, hblk]
      simp
  have hdf := AnyE.slices_DeleteFunc pl_sl10 Value.string (fun _ => rfl) plEmpty 100 #[] eg ByteArray.empty Tryd.zeroValue9 w.heap.size 0 l.length l.toArray (w.alloc (.cells (l.map Value.string).toArray 9))
    (fun W x _ => pl_w1 x W) (fun n os dk x _ => pl_w1 x _) hH (by simpa using hlen) (by simp)
  change Calls Tryd.prog 99 _ _ _ at hdf
  obtain ⟨r, hr⟩ : ∃ r, r = l.filter fun x => !plEmpty x := ⟨_, rfl⟩
  have hrl : r.length ≤ l.length := by rw [hr]; exact List.length_filter_le _ _
  simp only [List.size_toArray] at hdf
  rw [← hr] at hdf ⊢
  have hend : ∀ q, (Sort.putRow Value.string (Sort.ahead (w.alloc (.cells (l.map Value.string).toArray 9)) q) w.heap.size 0 (r ++ List.replicate (l.length - r.length) ByteArray.empty).toArray).ownsRow w.heap.size 9 1 (.slice (some ⟨w.heap.size, 0, none⟩) r.length l.length) r.length (r.map Value.string) ∧ Below w.heap.size w (Sort.putRow Value.string (Sort.ahead (w.alloc (.cells (l.map Value.string).toArray 9)) q) w.heap.size 0 (r ++ List.replicate (l.length - r.length) ByteArray.empty).toArray) := by
    intro q
    constructor
    · refine ⟨by simp, .inr ⟨w.heap.size, l.length, (r ++ List.replicate (l.length - r.length) ByteArray.empty).toArray.map Value.string, rfl, Nat.le_refl _, ?_, hrl, hlen, by simp; omega, by simp⟩⟩
      show ((w.alloc (.cells (l.map Value.string).toArray 9)).heap.modify w.heap.size _)[w.heap.size]? = _
      rw [Array.getElem?_modify, if_pos rfl, hblk]
      simp only [Option.map_some, Sort.onCells]
      rw [pl_put _ _ (by simp; omega)]
    · refine ⟨rfl, rfl, rfl, by rw [Sort.size_putRow]; show w.heap.size ≤ (w.heap.push _).size; simp, fun i hi => ?_⟩
      show ((w.alloc (.cells (l.map Value.string).toArray 9)).heap.modify w.heap.size _)[i]? = _
      rw [Array.getElem?_modify, if_neg (by omega)]
      show (w.heap.push _)[i]? = _
      rw [Array.getElem?_push, if_neg (by omega)]
  clear hH hblk hw hl hs hm eg hr
  have HE := PlAside.mk hend
  clear hend
  go_enter Tryd.func87, Tryd.ntmps87
  go_wp2_with (first | (go_at_call 37; refine hsp.mono ?_; rintro e w' ⟨rfl, rfl⟩) | (go_at_call 99; refine hdf.mono ?_; rintro e w' ⟨rfl, q, rfl⟩))
  go_ret
  exact ⟨l.length, rfl, (HE.out q).1, (HE.out q).2⟩
end Go.Proofs.YtnbghhddmlohoaaDoor.PAll

end

section
namespace Go.Proofs.YtnbghhddmlohoaaDoor.PAll
open Go.RowKit Go.Proofs.YtnbghhddmlohoaaDoorW.PrintWords Go.Proofs.YtnbghhddmlohoaaDoorW.PrintLast Go.Proofs.YtnbghhddmlohoaaDoorW.PrintMore
attribute [local go_sem] max2_int min2_int max_two min_two max_three min_three max_four min_four   -- for this text's walks alone
set_option linter.unusedVariables false
set_option linter.unusedSimpArgs false



def errW : Option Int → Value
  | none => .nilIface
  | some c => .iface 0 (.int .i64 c)
theorem errW_none : errW none = .nilIface := rfl
theorem errW_some (c : Int) : errW (some c) = .iface 0 (.int .i64 c) := rfl

theorem info9 : (Tryd.prog.info? 9).map (fun i => (i.zero, i.size, i.bytes)) = some (some (.string ⟨#[]⟩), 1, 16) := by kernel_rfl
theorem info49 : (Tryd.prog.info? 49).map (fun i => (i.zero, i.size, i.bytes)) = some (some (.agg #[(.int .i64 0), (.int .i64 0), (.string ⟨#[]⟩), (.slice none 0 0), (.string ⟨#[]⟩), (.slice none 0 0)]), 6, 96) := by kernel_rfl
theorem info53 : (Tryd.prog.info? 53).map (fun i => (i.zero, i.size, i.bytes)) = some (some (.agg #[(.string ⟨#[]⟩), (.slice none 0 0)]), 2, 40) := by kernel_rfl
structure S53 where
  f0 : ByteArray
  f1 : (List ByteArray)
def z53 : S53 := ⟨(⟨#[]⟩ : ByteArray), ([] : List ByteArray)⟩
def k53 : Kd S53 := Kd.iso (Kd.pair Kd.string (Kd.slice 9 Kd.string)) (fun x : S53 => (x.f0, x.f1))
theorem k53_heap : Kd.Heap k53 := Kd.heap_iso _ (Kd.heap_pair Kd.heap_string (Kd.heap_slice 9 Kd.heap_string))
theorem k53_open {w : World} {x : S53} {cs : List Value} (h : k53.K w x cs) : ∃ A1 c1, cs = [.string x.f0, .slice A1 x.f1.length c1] ∧ x.f1.length ≤ c1 ∧ Kd.string.C w A1 x.f1.length x.f1 := by
  obtain ⟨_, _, rfl, rfl, ⟨A1, c1, rfl, l1, g1⟩⟩ := h
  exact ⟨A1, c1, rfl, l1, g1⟩
theorem k53_mkM (w : World) (base : Nat) (ok : Nat → Prop) (x : S53) {v1 : Value} (g1 : Kd.string.R 9 w base ok v1 x.f1) : k53.M w base ok x [.string x.f0, v1] := ⟨[.string x.f0], [v1], rfl, rfl, ⟨v1, rfl, g1⟩⟩
theorem k53_openF {W : World} {ok : Nat → Prop} {x : S53} {cs : List Value} (h : Kd.FK k53 W ok x cs) : ∃ A1 c1, cs = [.string x.f0, .slice A1 x.f1.length c1] ∧ x.f1.length ≤ c1 ∧ Kd.F Kd.string W ok A1 x.f1.length x.f1 := by
  obtain ⟨A1, c1, rfl, l1, _⟩ := k53_open (Kd.FK_now h)
  exact ⟨A1, c1, rfl, l1, (fun W' hW => by obtain ⟨A1_, c1_, he, l1_, g1_⟩ := k53_open (h W' hW); injection (Option.some.inj (show some (Value.slice A1 x.f1.length c1) = some (Value.slice A1_ x.f1.length c1_) from congrArg (fun l => l[1]?) he)) with ha_ _ _; rw [ha_]; exact g1_)⟩
def rd_T53 (xs : List S53) (i : Int) : S53 := xs.getD i.toNat z53
theorem at_T53 {w : World} {A : Option Addr} {n : Nat} {xs : List S53} (h : Kd.C k53 w A n xs) (i : Int) (h0 : 0 ≤ i) (h1 : i < n) : ∃ ad A1 c1, A = some ad ∧ w.cell? (ad.add (i.toNat * 2)) = some (.string (rd_T53 xs i).f0) ∧ w.cell? ⟨(ad.add (i.toNat * 2)).block, (ad.add (i.toNat * 2)).off + 1, none⟩ = some (.slice A1 (rd_T53 xs i).f1.length c1) ∧ (rd_T53 xs i).f1.length ≤ c1 ∧ Kd.string.C w A1 (rd_T53 xs i).f1.length (rd_T53 xs i).f1 := by
  obtain ⟨ad, c, e, _, hK, hc0⟩ := Kd.C_get h z53 i h0 h1
  have hc : ∀ j u, c[j]? = some u → w.cell? (ad.add (i.toNat * 2 + j)) = some u := hc0
  obtain ⟨A1, c1, rfl, l1, g1⟩ := k53_open hK
  exact ⟨ad, A1, c1, e, hc 0 _ rfl, by rw [← add_field _ _ 1 (by omega)]; exact hc 1 _ rfl, l1, g1⟩

structure S25 where
  f0 : (List S53)
  f1 : (List ByteArray)
  f2 : (List ByteArray)
  f3 : (List ByteArray)
  f4 : Int
def k25 : Kd S25 := Kd.iso (Kd.pair (Kd.slice 53 k53) (Kd.pair (Kd.slice 9 Kd.string) (Kd.pair (Kd.slice 9 Kd.string) (Kd.pair (Kd.slice 9 Kd.string) (Kd.int .i64))))) (fun x : S25 => (x.f0, x.f1, x.f2, x.f3, x.f4))
theorem k25_open {w : World} {x : S25} {cs : List Value} (h : k25.K w x cs) : ∃ A0 c0 A1 c1 A2 c2 A3 c3, cs = [.slice A0 x.f0.length c0, .slice A1 x.f1.length c1, .slice A2 x.f2.length c2, .slice A3 x.f3.length c3, .int .i64 x.f4] ∧ x.f0.length ≤ c0 ∧ k53.C w A0 x.f0.length x.f0 ∧ x.f1.length ≤ c1 ∧ Kd.string.C w A1 x.f1.length x.f1 ∧ x.f2.length ≤ c2 ∧ Kd.string.C w A2 x.f2.length x.f2 ∧ x.f3.length ≤ c3 ∧ Kd.string.C w A3 x.f3.length x.f3 := by
  obtain ⟨_, _, rfl, ⟨A0, c0, rfl, l0, g0⟩, ⟨_, _, rfl, ⟨A1, c1, rfl, l1, g1⟩, ⟨_, _, rfl, ⟨A2, c2, rfl, l2, g2⟩, ⟨_, _, rfl, ⟨A3, c3, rfl, l3, g3⟩, rfl⟩⟩⟩⟩ := h
  exact ⟨A0, c0, A1, c1, A2, c2, A3, c3, rfl, l0, g0, l1, g1, l2, g2, l3, g3⟩
structure S35 where
  f0 : ByteArray
  f1 : ByteArray
def z35 : S35 := ⟨(⟨#[]⟩ : ByteArray), (⟨#[]⟩ : ByteArray)⟩
def k35 : Kd S35 := Kd.iso (Kd.pair Kd.string Kd.string) (fun x : S35 => (x.f0, x.f1))
theorem k35_open {w : World} {x : S35} {cs : List Value} (h : k35.K w x cs) : cs = [.string x.f0, .string x.f1] := by
  obtain ⟨_, _, rfl, rfl, rfl⟩ := h
  exact rfl
def rd_T35 (xs : List S35) (i : Int) : S35 := xs.getD i.toNat z35
theorem at_T35 {w : World} {A : Option Addr} {n : Nat} {xs : List S35} (h : Kd.C k35 w A n xs) (i : Int) (h0 : 0 ≤ i) (h1 : i < n) : ∃ ad , A = some ad ∧ w.cell? (ad.add (i.toNat * 2)) = some (.string (rd_T35 xs i).f0) ∧ w.cell? ⟨(ad.add (i.toNat * 2)).block, (ad.add (i.toNat * 2)).off + 1, none⟩ = some (.string (rd_T35 xs i).f1) := by
  obtain ⟨ad, c, e, _, hK, hc0⟩ := Kd.C_get h z35 i h0 h1
  have hc : ∀ j u, c[j]? = some u → w.cell? (ad.add (i.toNat * 2 + j)) = some u := hc0
  obtain rfl := k35_open hK
  exact ⟨ad, e, hc 0 _ rfl, by rw [← add_field _ _ 1 (by omega)]; exact hc 1 _ rfl⟩

structure S49 where
  f0 : Int
  f1 : Int
  f2 : ByteArray
  f3 : (List S35)
  f4 : ByteArray
  f5 : (List S49)
def z49 : S49 := ⟨(0 : Int), (0 : Int), (⟨#[]⟩ : ByteArray), ([] : List S35), (⟨#[]⟩ : ByteArray), ([] : List S49)⟩
def F49 (d : Kd S49) : Kd S49 := Kd.iso (Kd.pair (Kd.int .i64) (Kd.pair (Kd.int .i64) (Kd.pair Kd.string (Kd.pair (Kd.slice 35 k35) (Kd.pair Kd.string (Kd.slice 49 d)))))) (fun x : S49 => (x.f0, x.f1, x.f2, x.f3, x.f4, x.f5))
theorem sub49 : Kd.Sub F49 [35, 49] := Kd.sub_iso _ (Kd.sub_pair (Kd.sub_const _ (by decide)) (Kd.sub_pair (Kd.sub_const _ (by decide)) (Kd.sub_pair (Kd.sub_const _ (by decide)) (Kd.sub_pair (Kd.sub_const _ (by decide)) (Kd.sub_pair (Kd.sub_const _ (by decide)) (Kd.sub_slice 49 (by decide) Kd.sub_id))))))
theorem sz49 : ∀ n, (Kd.upto F49 6 [35, 49] n).sz = 6 := Kd.upto_sz (fun _ => rfl)
def k49 : Kd S49 := Kd.fix F49 6 [35, 49] sz49 (Kd.upto_E sub49)
theorem k49_open {w : World} {x : S49} {cs : List Value} (h : k49.K w x cs) : ∃ A3 c3 A5 c5, cs = [.int .i64 x.f0, .int .i64 x.f1, .string x.f2, .slice A3 x.f3.length c3, .string x.f4, .slice A5 x.f5.length c5] ∧ x.f3.length ≤ c3 ∧ k35.C w A3 x.f3.length x.f3 ∧ x.f5.length ≤ c5 ∧ k49.C w A5 x.f5.length x.f5 := by
  obtain ⟨n, h⟩ := h
  cases n with
  | zero => exact h.elim
  | succ n =>
    obtain ⟨_, _, rfl, rfl, ⟨_, _, rfl, rfl, ⟨_, _, rfl, rfl, ⟨_, _, rfl, ⟨A3, c3, rfl, l3, g3⟩, ⟨_, _, rfl, rfl, ⟨A5, c5, rfl, l5, g5⟩⟩⟩⟩⟩⟩ := h
    exact ⟨A3, c3, A5, c5, rfl, l3, g3, l5, Kd.fix_C g5⟩
def rd_T49 (xs : List S49) (i : Int) : S49 := xs.getD i.toNat z49
theorem at_T49 {w : World} {A : Option Addr} {n : Nat} {xs : List S49} (h : Kd.C k49 w A n xs) (i : Int) (h0 : 0 ≤ i) (h1 : i < n) : ∃ ad A3 c3 A5 c5, A = some ad ∧ w.cell? (ad.add (i.toNat * 6)) = some (.int .i64 (rd_T49 xs i).f0) ∧ w.cell? ⟨(ad.add (i.toNat * 6)).block, (ad.add (i.toNat * 6)).off + 1, none⟩ = some (.int .i64 (rd_T49 xs i).f1) ∧ w.cell? ⟨(ad.add (i.toNat * 6)).block, (ad.add (i.toNat * 6)).off + 2, none⟩ = some (.string (rd_T49 xs i).f2) ∧ w.cell? ⟨(ad.add (i.toNat * 6)).block, (ad.add (i.toNat * 6)).off + 3, none⟩ = some (.slice A3 (rd_T49 xs i).f3.length c3) ∧ w.cell? ⟨(ad.add (i.toNat * 6)).block, (ad.add (i.toNat * 6)).off + 4, none⟩ = some (.string (rd_T49 xs i).f4) ∧ w.cell? ⟨(ad.add (i.toNat * 6)).block, (ad.add (i.toNat * 6)).off + 5, none⟩ = some (.slice A5 (rd_T49 xs i).f5.length c5) ∧ (rd_T49 xs i).f3.length ≤ c3 ∧ k35.C w A3 (rd_T49 xs i).f3.length (rd_T49 xs i).f3 ∧ (rd_T49 xs i).f5.length ≤ c5 ∧ k49.C w A5 (rd_T49 xs i).f5.length (rd_T49 xs i).f5 := by
  obtain ⟨ad, c, e, _, hK, hc0⟩ := Kd.C_get h z49 i h0 h1
  have hc : ∀ j u, c[j]? = some u → w.cell? (ad.add (i.toNat * 6 + j)) = some u := hc0
  obtain ⟨A3, c3, A5, c5, rfl, l3, g3, l5, g5⟩ := k49_open hK
  exact ⟨ad, A3, c3, A5, c5, e, hc 0 _ rfl, by rw [← add_field _ _ 1 (by omega)]; exact hc 1 _ rfl, by rw [← add_field _ _ 2 (by omega)]; exact hc 2 _ rfl, by rw [← add_field _ _ 3 (by omega)]; exact hc 3 _ rfl, by rw [← add_field _ _ 4 (by omega)]; exact hc 4 _ rfl, by rw [← add_field _ _ 5 (by omega)]; exact hc 5 _ rfl, l3, g3, l5, g5⟩

theorem Bw {n : Nat} {a b : World} (h : Below n a b := by repeat (first | (with_reducible first | exact HB.out | apply below_alloc | apply pw_below_drewN | apply below_drew1 | refine below_set ?_ (Aside0.out (by assumption))) | exact HB.out)) : Below n a b := h
theorem Bk {w w' : World} {g : Nat} {o : Obj} (b : Aside0 (w.heap[g]? = some o)) (h : w.heap[g]? = some o → w'.heap[g]? = some o := by intro hb_; (with_reducible repeat (first | refine blk_drewN ?_ _ | refine blk_drew ?_ | refine blk_alloc ?_ _)); exact hb_) : w'.heap[g]? = some o := h b.out
theorem Bb {w w1 w2 : World} {g : Nat} {o : Obj} (b : Aside0 (w.heap[g]? = some o)) (hb : Below w1.heap.size w1 w2) (h : w.heap[g]? = some o → w1.heap[g]? = some o := by intro hb_; (with_reducible repeat (first | refine blk_drewN ?_ _ | refine blk_drew ?_ | refine blk_alloc ?_ _)); exact hb_) : Aside0 (w2.heap[g]? = some o) := ⟨blk_below (h b.out) hb⟩
theorem Bs {w w1 w2 : World} (hb : Below w1.heap.size w1 w2) (h : Below w.heap.size w w1 := by repeat (first | (with_reducible first | exact HB.out | apply below_alloc | apply pw_below_drewN | apply below_drew1 | refine below_set ?_ (Aside0.out (by assumption))) | exact HB.out)) : Aside0 (Below w.heap.size w w2) := ⟨below_step h hb⟩
theorem Fd {w w' : World} {g : Nat} {o : Obj} (x : w.heap[g]? = some o) (h : w.heap[g]? = some o → w'.heap[g]? = some o := by intro hb_; (with_reducible repeat (first | refine blk_drewN ?_ _ | refine blk_drew ?_ | refine blk_alloc ?_ _)); exact hb_) : w'.heap[g]? = some o := h x
theorem Rk {α : Type} {d : Kd α} {e : Nat} {w w' : World} {base : Nat} {ok : Nat → Prop} {v : Value} {xs : List α} (x : Kd.R d e w base ok v xs) (h : Kd.R d e w base ok v xs → Kd.R d e w' base ok v xs := by intro hb_; (with_reducible repeat (first | apply Kd.R_alloc | apply Kd.R_drewN | apply Kd.R_drew)); exact hb_) : Kd.R d e w' base ok v xs := h x
theorem Sk {α : Type} {d : Kd α} {e : Nat} {w w' : World} {base : Nat} {ok : Nat → Prop} {v : Value} {xs : List α} (x : Kd.S d e w base ok v xs) (h : Kd.S d e w base ok v xs → Kd.S d e w' base ok v xs := by intro hb_; (with_reducible repeat (first | apply Kd.S_alloc | apply Kd.S_drewN | apply Kd.S_drew)); exact hb_) : Kd.S d e w' base ok v xs := h x
theorem Vk {α : Type} {d : Kd α} {e : Nat} {w w' : World} {base : Nat} {ok : Nat → Prop} {v : Value} {xs : List α} (x : Kd.V d e w base ok v xs) (h : Kd.V d e w base ok v xs → Kd.V d e w' base ok v xs := by intro hb_; (with_reducible repeat (first | apply Kd.V_alloc | apply Kd.V_drewN | apply Kd.V_drew)); exact hb_) : Kd.V d e w' base ok v xs := h x
theorem Cd {α : Type} {d : Kd α} {w w1 : World} {xs : List α} {A : Option Addr} {n : Nat} (c : Kd.C d w A n xs) (h : Kd.C d w A n xs → Kd.C d w1 A n xs := by intro hb_; repeat (first | exact hb_ | (with_reducible refine Kd.C_alloc ?_ _) | (with_reducible refine Kd.C_drewN ?_ _) | (with_reducible refine Kd.C_drew ?_))) : Kd.C d w1 A n xs := h c
theorem Bf {w w' : World} {g : Nat} {t : TypeId} {cs : Array Value} (b : Aside0 (w.heap[g]? = some (.cells cs t (0, 0)))) (h : w.heap[g]? = some (.cells cs t (0, 0)) → w'.heap[g]? = some (.cells cs t (0, 0)) := by intro hb_; (with_reducible repeat (first | refine blk_drewN ?_ _ | refine blk_drew ?_ | refine blk_alloc ?_ _ | refine blk_far ?_ (Aside0.out (by assumption)) _)); exact hb_) : w'.heap[g]? = some (.cells cs t (0, 0)) := h b.out
theorem Nl {w W : World} {g g' : Nat} {o : Obj} (hg : g' = W.heap.size) (b : Aside0 (w.heap[g]? = some o)) (h : w.heap[g]? = some o → W.heap[g]? = some o := by intro hb_; (with_reducible repeat (first | refine blk_drewN ?_ _ | refine blk_drew ?_ | refine blk_alloc ?_ _)); exact hb_) : Aside0 (g ≠ g') := ⟨by rw [hg]; exact Nat.ne_of_lt (blk_lt (h b.out))⟩
theorem Ng {w W : World} {g g' : Nat} {o : Obj} (hg : g' = W.heap.size) (b : Aside0 (w.heap[g]? = some o)) (h : w.heap[g]? = some o → W.heap[g]? = some o := by intro hb_; (with_reducible repeat (first | refine blk_drewN ?_ _ | refine blk_drew ?_ | refine blk_alloc ?_ _)); exact hb_) : Aside0 (g' ≠ g) := ⟨by rw [hg]; exact Nat.ne_of_gt (blk_lt (h b.out))⟩
theorem Cs {α : Type} {d : Kd α} {w w1 : World} {xs : List α} {A : Option Addr} {n : Nat} (c : Aside0 (Kd.C d w A n xs)) (h : Below w.heap.size w w1 := by repeat (first | (with_reducible first | exact HB.out | apply below_alloc | apply pw_below_drewN | apply below_drew1 | refine below_set ?_ (Aside0.out (by assumption))) | exact HB.out)) : Kd.C d w1 A n xs := Kd.C_below c.out h
theorem Hx {w w1 : World} {a : Addr} {v : Value} (h : w.cell? a = some v) (b : Below w.heap.size w w1 := by exact HB.out) : w1.cell? a = some v := (b.cell (World.block_lt_of_cell? w _ h)).trans h
theorem Gg {w0 W : World} {g : Nat} (hg : g = W.heap.size) (b : Below w0.heap.size w0 W := by repeat (first | (with_reducible first | exact HB.out | apply below_alloc | apply pw_below_drewN | apply below_drew1 | refine below_set ?_ (Aside0.out (by assumption))) | exact HB.out)) : w0.heap.size ≤ g := by rw [hg]; exact below_size b
theorem Dw {a b : World} (h : Drawn0 a b := by repeat (first | exact Drawn0.refl _ | apply Drawn0.step)) : Drawn0 a b := h
theorem Re {p : Prop} (h : p := by first | rfl | (simp [errW_none, errW_some] <;> rfl) | (simp [*, errW_none, errW_some] <;> rfl)) : p := h
theorem Rs {p : Prop} (h : p := by first | rfl | (simp; done) | (simp [*]; done)) : p := h
theorem On {p : Prop} (h : p := by first | omega | exact Nat.le_refl _) : p := h
section
variable {P : Program} {ops : Array Oper} {Q : Exit → Act → World → Prop}
theorem pureS {md : Region.Mode} {S : World → Prop} {ds : List Nat} {oi : Oper} {v : Value} {fuel : Nat} {l : Array Bool} {a a' : Act} {w : World} (i N : Nat) (l' : Array Bool)
    (h : wpAnyLast P md ops Q S ds fuel l' a' w) (hi : ops[i]? = some oi := by rfl) (hN : oi.dst = some N := by rfl) (hc : anyB md ops l l' i = true := by first | exact any_of HT_.out (by kernel_rfl) | kernel_rfl)
    (hQ : ∀ (c : List PanicEntry) (a : Act) (w : World), Q (.panic c) (a.put oi.dst v) w → Q (.panic c) a w := by exact fun _ _ _ h => h) (hy : Yields P ops oi v a := by exact Or.inl ⟨by rfl, by intro w'; go_simp; with_reducible rfl⟩)
    (ha : a.put (some N) v = a' := by simp only [Act.put, List.setIfInBounds_toArray, List.set_cons_zero, List.set_cons_succ, i64_w, i32_w]; rfl) : wpAnyLast P md ops Q S ds (fuel + 1) l a w := pure_ l' hi hN hc hQ hy ha h
theorem pureU {md : Region.Mode} {S : World → Prop} {ds : List Nat} {oi : Oper} {fuel : Nat} {l : Array Bool} {a a' : Act} {w : World} (i N : Nat) (l' : Array Bool)
    (h : wpAnyLast P md ops Q S ds fuel l' a' w) (hi : ops[i]? = some oi := by rfl) (hN : oi.dst = some N := by rfl) (hc : anyB md ops l l' i = true := by first | exact any_of HT_.out (by kernel_rfl) | kernel_rfl)
    (hQ : ∀ (c : List PanicEntry) (a : Act) (w : World), Q (.panic c) (a.put oi.dst undef) w → Q (.panic c) a w := by exact fun _ _ _ h => h) (hy : Yields P ops oi undef a := by exact Or.inr ⟨by rfl, rfl⟩)
    (ha : a.put (some N) undef = a' := by simp only [Act.put, List.setIfInBounds_toArray, List.set_cons_zero, List.set_cons_succ, i64_w, i32_w]; rfl) : wpAnyLast P md ops Q S ds (fuel + 1) l a w := pure_ l' hi hN hc hQ hy ha h
theorem goL {rest : List Oper} {oi : Oper} {a : Act} {w : World} (N : Option Tmp) {f : FuncId} {fn : Func} {as_ : Array Operand} {ts : Array TypeId} (hf : P.funcs[f]? = some fn) (args : Array Value)
    (h : Calls P f args w fun e w' => ∃ v, e = .returned v ∧ wpList P ops Q rest (a.put N v) w') (hd : oi.dst = N := by rfl) (hg : oi.guard = none := by rfl) (hname : (fn.name == "runtime.NumGoroutine") = false := by kernel_rfl) (hb : fn.body.isSome = true := by rfl)
    (hop : oi.op = .call { callee := .value (.func f), args := as_, argTypes := ts } := by rfl) (hargs : as_.map a.eval = args := by (try simp only [List.map_toArray, List.map_cons, List.map_nil]); first | done | rfl | (simp only [List.length_drop, List.length_take]; rfl)) : wpList P ops Q (oi :: rest) a w := goesL_ N hd hg hf hname hb args hop hargs h
theorem goG {oi : Oper} {N : Option Tmp} {a : Act} {w : World} {K : Act → World → Prop} {f : FuncId} {fn : Func} {as_ : Array Operand} {ts : Array TypeId} (hf : P.funcs[f]? = some fn) (args : Array Value)
    (h : Calls P f args w fun e w' => ∃ v, e = .returned v ∧ K (a.put N v) w') (hname : (fn.name == "runtime.NumGoroutine") = false := by kernel_rfl) (hb : fn.body.isSome = true := by rfl) (hw : Region.wanted oi (yielded ops a.tmps) = true := by rfl) (hN : oi.dst = N := by rfl)
    (hop : oi.op = .call { callee := .value (.func f), args := as_, argTypes := ts } := by rfl) (hargs : as_.map a.eval = args := by (try simp only [List.map_toArray, List.map_cons, List.map_nil]); first | done | rfl | (simp only [List.length_drop, List.length_take]; rfl)) :
    if Region.wanted oi (yielded ops a.tmps) = true then Oper.wp P oi a w K Q else K (a.put N undef) w := goes_ hf hname hb args hw hN hop hargs h
theorem boxE {rest : List Oper} {o : Oper} {a : Act} {W : World} {cs : Array Value} (t : TypeId) (N : Tmp)
    (h : ∀ g, g = W.heap.size → ∀ w1, w1.heap[g]? = some (.cells cs t (0, 0)) → Below W.heap.size W w1 → wpList P ops Q rest (a.put o.dst (.pointer (some ⟨g, 0, none⟩))) w1)
    (hgd : o.guard = none := by rfl) (hd : o.dst = some N := by rfl)
    (hrun : (execOp a.eval o).run P W = .ok (.value (.pointer (some ⟨W.heap.size, 0, none⟩))) (W.alloc (.cells cs t (0, 0))) := by first | (go_simp; done) | (go_simp; rfl)) : wpList P ops Q (o :: rest) a W := box_event hgd hd hrun h
theorem takeS {md : Region.Mode} {S : World → Prop} {ds : List Nat} {oi : Oper} {v : Value} {fuel : Nat} {l : Array Bool} {a a' : Act} {w : World} (i N : Nat) (l' : Array Bool) (hS : S w)
    (h : wpAnyLast P md ops Q S ds fuel l' a' w) (hi : ops[i]? = some oi := by rfl) (hN : oi.dst = some N := by rfl) (hc : takeB md ops ds l l' i = true := by exact take_ofW HT_.out HW_.out (by kernel_rfl))
    (hQ : ∀ (c : List PanicEntry) (a : Act) (w : World), Q (.panic c) (a.put oi.dst v) w → Q (.panic c) a w := by exact fun _ _ _ h => h) (hy : YieldsIf P ops S oi v a := by exact Or.inl ⟨by rfl, by intro w' hs_; (repeat (obtain ⟨s_, hs_⟩ : _ ∧ _ := hs_)); go_simp; with_reducible rfl⟩)
    (ha : a.put (some N) v = a' := by simp only [Act.put, List.setIfInBounds_toArray, List.set_cons_zero, List.set_cons_succ, i64_w, i32_w]; rfl) : wpAnyLast P md ops Q S ds (fuel + 1) l a w := take_ l' hi hN hc hQ hy hS ha h
theorem box5 {rest : List Oper} {o : Oper} {a : Act} {w0 W : World} {cs : Array Value} (t : TypeId) (N : Tmp)
    (h : ∀ g (w1 : World), Aside0 (Below w0.heap.size w0 w1) → Aside0 (w1.heap[g]? = some (.cells cs t (0, 0))) → Aside0 (w0.heap.size ≤ g) → wpList P ops Q rest (a.put o.dst (.pointer (some ⟨g, 0, none⟩))) w1)
    (hb : Below w0.heap.size w0 W := by repeat (first | (with_reducible first | exact HB.out | apply below_alloc | apply pw_below_drewN | apply below_drew1 | refine below_set ?_ (Aside0.out (by assumption))) | exact HB.out))
    (hgd : o.guard = none := by rfl) (hd : o.dst = some N := by rfl)
    (hrun : (execOp a.eval o).run P W = .ok (.value (.pointer (some ⟨W.heap.size, 0, none⟩))) (W.alloc (.cells cs t (0, 0))) := by first | (go_simp; done) | (go_simp; rfl)) : wpList P ops Q (o :: rest) a W :=
  box_event hgd hd hrun fun g hg w1 hbox hb1 => h g w1 ⟨below_step hb hb1⟩ ⟨hbox⟩ ⟨by rw [hg]; exact below_size hb⟩
end
theorem cells2 {w : World} {g : Nat} {t : TypeId} {v0 v1 : Value} (h : Aside0 (w.heap[g]? = some (.cells #[v0, v1] t (0, 0)))) : w.cell? ⟨g, 0, none⟩ = some v0 ∧ w.cell? ⟨g, 1, none⟩ = some v1 ∧ w.frozen? ⟨g, 0, none⟩ = false ∧ w.frozen? ⟨g, 1, none⟩ = false :=
  ⟨(blk_cell h.out 0).trans rfl, (blk_cell h.out 1).trans rfl, blk_frozen h.out 0, blk_frozen h.out 1⟩
theorem cells5 {w : World} {g : Nat} {t : TypeId} {v0 v1 v2 v3 v4 : Value} (h : Aside0 (w.heap[g]? = some (.cells #[v0, v1, v2, v3, v4] t (0, 0)))) : w.cell? ⟨g, 0, none⟩ = some v0 ∧ w.cell? ⟨g, 1, none⟩ = some v1 ∧ w.cell? ⟨g, 2, none⟩ = some v2 ∧ w.cell? ⟨g, 3, none⟩ = some v3 ∧ w.cell? ⟨g, 4, none⟩ = some v4 ∧
    w.frozen? ⟨g, 0, none⟩ = false ∧ w.frozen? ⟨g, 1, none⟩ = false ∧ w.frozen? ⟨g, 2, none⟩ = false ∧ w.frozen? ⟨g, 3, none⟩ = false ∧ w.frozen? ⟨g, 4, none⟩ = false :=
  ⟨(blk_cell h.out 0).trans rfl, (blk_cell h.out 1).trans rfl, (blk_cell h.out 2).trans rfl, (blk_cell h.out 3).trans rfl, (blk_cell h.out 4).trans rfl, blk_frozen h.out 0, blk_frozen h.out 1, blk_frozen h.out 2, blk_frozen h.out 3, blk_frozen h.out 4⟩
theorem cells6 {w : World} {g : Nat} {t : TypeId} {v0 v1 v2 v3 v4 v5 : Value} (h : Aside0 (w.heap[g]? = some (.cells #[v0, v1, v2, v3, v4, v5] t (0, 0)))) : w.cell? ⟨g, 0, none⟩ = some v0 ∧ w.cell? ⟨g, 1, none⟩ = some v1 ∧ w.cell? ⟨g, 2, none⟩ = some v2 ∧ w.cell? ⟨g, 3, none⟩ = some v3 ∧ w.cell? ⟨g, 4, none⟩ = some v4 ∧ w.cell? ⟨g, 5, none⟩ = some v5 ∧
    w.frozen? ⟨g, 0, none⟩ = false ∧ w.frozen? ⟨g, 1, none⟩ = false ∧ w.frozen? ⟨g, 2, none⟩ = false ∧ w.frozen? ⟨g, 3, none⟩ = false ∧ w.frozen? ⟨g, 4, none⟩ = false ∧ w.frozen? ⟨g, 5, none⟩ = false :=
  ⟨(blk_cell h.out 0).trans rfl, (blk_cell h.out 1).trans rfl, (blk_cell h.out 2).trans rfl, (blk_cell h.out 3).trans rfl, (blk_cell h.out 4).trans rfl, (blk_cell h.out 5).trans rfl, blk_frozen h.out 0, blk_frozen h.out 1, blk_frozen h.out 2, blk_frozen h.out 3, blk_frozen h.out 4, blk_frozen h.out 5⟩
def bl (n m : Nat) : Array Bool := ((List.range n).map m.testBit).toArray
theorem and5 {w : World} {g : Nat} {t : TypeId} {v0 v1 v2 v3 v4 : Value} {R : Prop} (h : Aside0 (w.heap[g]? = some (.cells #[v0, v1, v2, v3, v4] t (0, 0)))) (r : R) : w.cell? ⟨g, 0, none⟩ = some v0 ∧ w.cell? ⟨g, 1, none⟩ = some v1 ∧ w.cell? ⟨g, 2, none⟩ = some v2 ∧ w.cell? ⟨g, 3, none⟩ = some v3 ∧ w.cell? ⟨g, 4, none⟩ = some v4 ∧ R :=
  ⟨(blk_cell h.out 0).trans rfl, (blk_cell h.out 1).trans rfl, (blk_cell h.out 2).trans rfl, (blk_cell h.out 3).trans rfl, (blk_cell h.out 4).trans rfl, r⟩
theorem eqb {α : Type} [BEq α] [LawfulBEq α] {a b : α} (h : a = b) : (a == b) = true ∧ (a != b) = false := ⟨beq_iff_eq.mpr h, bne_eq_false_iff_eq.mpr h⟩
theorem neb {α : Type} [BEq α] [LawfulBEq α] {a b : α} (h : ¬ a = b) : (a == b) = false ∧ (a != b) = true := ⟨beq_eq_false_iff_ne.mpr h, bne_iff_ne.mpr h⟩
theorem dgt {a b : Int} (h : a > b) : decide (b < a) = true := decide_eq_true h
theorem ngt {a b : Int} (h : ¬ a > b) : decide (b < a) = false := decide_eq_false h
theorem dge {a b : Int} (h : a ≥ b) : decide (b ≤ a) = true := decide_eq_true h
theorem nge {a b : Int} (h : ¬ a ≥ b) : decide (b ≤ a) = false := decide_eq_false h
theorem bx {α β : Type} {o : Option α} {f : α → Option β} {r : β} (h : o.bind f = some r) : ∃ t, Aside0 (o = some t) ∧ f t = some r := by
  obtain ⟨t, h1, h2⟩ := Option.bind_eq_some_iff.mp h
  exact ⟨t, ⟨h1⟩, h2⟩
theorem si {α : Type} {a b : α} (h : some a = some b) : a = b := Option.some.inj h
theorem bf {b : Bool} (h : ¬ b = true) : b = false := Bool.eq_false_iff.mpr h
theorem Od {p : Prop} [Decidable p] (h : decide p = true := by first | (with_reducible assumption) | assumption) : p := of_decide_eq_true h
theorem at'_T53 {w w1 : World} {A : Option Addr} {n : Nat} {xs : List S53} (h : Kd.C k53 w A n xs) (i : Int) (h0 : 0 ≤ i) (h1 : i < n) (b : Below w.heap.size w w1 := by exact HB.out) : ∃ ad A1 c1, A = some ad ∧ w1.cell? (ad.add (i.toNat * 2)) = some (.string (rd_T53 xs i).f0) ∧ w1.cell? ⟨(ad.add (i.toNat * 2)).block, (ad.add (i.toNat * 2)).off + 1, none⟩ = some (.slice A1 (rd_T53 xs i).f1.length c1) ∧ Aside0 ((rd_T53 xs i).f1.length ≤ c1) ∧ Aside0 (Kd.string.C w A1 (rd_T53 xs i).f1.length (rd_T53 xs i).f1) := by
  obtain ⟨ad, A1, c1, q0, q1, q2, q3, q4⟩ := at_T53 h i h0 h1
  exact ⟨ad, A1, c1, q0, Hx q1 b, Hx q2 b, ⟨q3⟩, ⟨q4⟩⟩
theorem at'_T35 {w w1 : World} {A : Option Addr} {n : Nat} {xs : List S35} (h : Kd.C k35 w A n xs) (i : Int) (h0 : 0 ≤ i) (h1 : i < n) (b : Below w.heap.size w w1 := by exact HB.out) : ∃ ad , A = some ad ∧ w1.cell? (ad.add (i.toNat * 2)) = some (.string (rd_T35 xs i).f0) ∧ w1.cell? ⟨(ad.add (i.toNat * 2)).block, (ad.add (i.toNat * 2)).off + 1, none⟩ = some (.string (rd_T35 xs i).f1) := by
  obtain ⟨ad, q0, q1, q2⟩ := at_T35 h i h0 h1
  exact ⟨ad, q0, Hx q1 b, Hx q2 b⟩
theorem at'_T49 {w w1 : World} {A : Option Addr} {n : Nat} {xs : List S49} (h : Kd.C k49 w A n xs) (i : Int) (h0 : 0 ≤ i) (h1 : i < n) (b : Below w.heap.size w w1 := by exact HB.out) : ∃ ad A3 c3 A5 c5, A = some ad ∧ w1.cell? (ad.add (i.toNat * 6)) = some (.int .i64 (rd_T49 xs i).f0) ∧ w1.cell? ⟨(ad.add (i.toNat * 6)).block, (ad.add (i.toNat * 6)).off + 1, none⟩ = some (.int .i64 (rd_T49 xs i).f1) ∧ w1.cell? ⟨(ad.add (i.toNat * 6)).block, (ad.add (i.toNat * 6)).off + 2, none⟩ = some (.string (rd_T49 xs i).f2) ∧ w1.cell? ⟨(ad.add (i.toNat * 6)).block, (ad.add (i.toNat * 6)).off + 3, none⟩ = some (.slice A3 (rd_T49 xs i).f3.length c3) ∧ w1.cell? ⟨(ad.add (i.toNat * 6)).block, (ad.add (i.toNat * 6)).off + 4, none⟩ = some (.string (rd_T49 xs i).f4) ∧ w1.cell? ⟨(ad.add (i.toNat * 6)).block, (ad.add (i.toNat * 6)).off + 5, none⟩ = some (.slice A5 (rd_T49 xs i).f5.length c5) ∧ Aside0 ((rd_T49 xs i).f3.length ≤ c3) ∧ Aside0 (k35.C w A3 (rd_T49 xs i).f3.length (rd_T49 xs i).f3) ∧ Aside0 ((rd_T49 xs i).f5.length ≤ c5) ∧ Aside0 (k49.C w A5 (rd_T49 xs i).f5.length (rd_T49 xs i).f5) := by
  obtain ⟨ad, A3, c3, A5, c5, q0, q1, q2, q3, q4, q5, q6, q7, q8, q9, q10⟩ := at_T49 h i h0 h1
  exact ⟨ad, A3, c3, A5, c5, q0, Hx q1 b, Hx q2 b, Hx q3 b, Hx q4 b, Hx q5 b, Hx q6 b, ⟨q7⟩, ⟨q8⟩, ⟨q9⟩, ⟨q10⟩⟩
end Go.Proofs.YtnbghhddmlohoaaDoor.PAll

end
