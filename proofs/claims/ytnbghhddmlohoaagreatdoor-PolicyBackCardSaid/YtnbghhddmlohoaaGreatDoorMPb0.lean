-- Laid together by a program of this session (merge.py) out of its own texts and of the print's, for one law. Lean checks it.
import Derived.Test.YtnbghhddmlohoaaGreatDoorProg
import Derived.Shelf.Strings.Split
import Derived.Shelf.Lays
import Derived.Shelf.Slices.Clone
import Derived.Shelf.SlicesE.DeleteFunc
import Derived.KernelRfl
import Derived.Tactics
import Derived.WalkKit
import Derived.Shelf.Strings.OnBuilder
import Derived.Shelf.Strconv.Itoa3
import Derived.Below
import Derived.Deep.Draws
import Derived.Deep.AppendLies
import Derived.Maps.AppendAt
import Derived.OwnWalk
import Derived.Laws.BytesArg
import Derived.Laws.MakeOwn
import Derived.Laws.OwnMore
import Derived.Deep.OwnRows
import Derived.Lib.ConvBytes
import Derived.Laws.Slices
import Derived.RowKit3
import Derived.Deep.LoopGhost
import Derived.Deep.QuietTactic
import Derived.BigQuiet
import Derived.WideLaws
import Derived.Deep.DeepCutAuto
import Derived.Deep.CutBlock
import Derived.Deep.RegionHeld3
import Derived.Laws.Rows
import Derived.Lib.AppendStr
import Derived.ArgAppend
import Derived.Laws.IdiomCopy
import Derived.OrdersHeld
import Derived.Laws.BitsLemmas
import Derived.RowKit
import Derived.Shelf.Strings.Search1
import Derived.Shelf.Strings.Search2
import Derived.Shelf.Strings.Builder1
import Derived.Lib.Builder
import Derived.Tactics2
import Derived.Defers
import Derived.Recover
import Derived.Laws.Pointers
import Derived.ProofKit
import Derived.OpenShut
import Derived.Lib.SmallJoins
import Derived.Deep.Slices
import Derived.Test.YtnbghhddmlohoaaGreatDoorRows
import Derived.Lay
import Derived.LaidMore
import Derived.SevenTiedAt
import Derived.Stop.Joined
import Derived.Shelf.Vars
import Derived.Test.YtnbghhddmlohoaaGreatDoorCards
import Derived.Test.YtnbghhddmlohoaaGreatDoorTie
import Derived.ShutString
import Derived.ChangeOld
import Derived.SizedLaws
import Derived.Test.YtnbghhddmlohoaaGreatDoorWApart
import Derived.Test.YtnbghhddmlohoaaGreatDoorWArr
import Derived.Test.YtnbghhddmlohoaaGreatDoorWFoot
import Derived.Test.YtnbghhddmlohoaaGreatDoorWGuard
import Derived.Test.YtnbghhddmlohoaaGreatDoorWKept
import Derived.Test.YtnbghhddmlohoaaGreatDoorWLast
import Derived.Test.YtnbghhddmlohoaaGreatDoorWMore
import Derived.Test.YtnbghhddmlohoaaGreatDoorWN
import Derived.Test.YtnbghhddmlohoaaGreatDoorWNEv
import Derived.Test.YtnbghhddmlohoaaGreatDoorWQPut
import Derived.Test.YtnbghhddmlohoaaGreatDoorWRepsOne
import Derived.Test.YtnbghhddmlohoaaGreatDoorWShare
import Derived.Test.YtnbghhddmlohoaaGreatDoorWWords
import Derived.Test.YtnbghhddmlohoaaGreatDoorWZeros
set_option maxHeartbeats 16000000
set_option maxRecDepth 100000
theorem Am {p : Prop} (h : p) : Go.Proofs.YtnbghhddmlohoaaGreatDoorW.PrintWords.Aside0 p := ⟨h⟩
section
namespace Go.Proofs.YtnbghhddmlohoaaGreatDoor.PAll
open Go.RowKit Go.Shelf
set_option linter.unusedVariables false
def pl_lays146_ren : Go.Shelf.Ren := ⟨fun | 146 => 32 | 221 => 52 | 268 => 79 | 138 => 80 | 143 => 81 | 195 => 92 | 197 => 93 | 218 => 94 | 219 => 95 | 260 => 106 | 217 => 107 | 225 => 108 | 224 => 109 | 267 => 110 | 266 => 115 | 314 => 116 | n => n, fun | 9 => 9 | 31 => 23 | 3 => 3 | 4 => 4 | 0 => 0 | 105 => 113 | 21 => 21 | 5 => 5 | 46 => 125 | 119 => 129 | 139 => 132 | 138 => 131 | 146 => 133 | 51 => 122 | n => n, fun | 1 => 0 | 3 => 2 | 4 => 3 | n => n⟩
theorem pl_lays146 : Go.Proofs.Lays.n146 Tryz.prog pl_lays146_ren := {
 mixed := by kernel_rfl
 f138 := Tryz.func80.trans (congrArg some (by kernel_rfl))
 f143 := Tryz.func81.trans (congrArg some (by kernel_rfl))
 f146 := Tryz.func32.trans (congrArg some (by kernel_rfl))
 f195 := Tryz.func92.trans (congrArg some (by kernel_rfl))
 f197 := Tryz.func93.trans (congrArg some (by kernel_rfl))
 f217 := Tryz.func107.trans (congrArg some (by kernel_rfl))
 f218 := Tryz.func94.trans (congrArg some (by kernel_rfl))
 f219 := Tryz.func95.trans (congrArg some (by kernel_rfl))
 f221 := Tryz.func52.trans (congrArg some (by kernel_rfl))
 f224 := Tryz.func109.trans (congrArg some (by kernel_rfl))
 f225 := Tryz.func108.trans (congrArg some (by kernel_rfl))
 f260 := Tryz.func106.trans (congrArg some (by kernel_rfl))
 f266 := Tryz.func115.trans (congrArg some (by kernel_rfl))
 f267 := Tryz.func110.trans (congrArg some (by kernel_rfl))
 f268 := Tryz.func79.trans (congrArg some (by kernel_rfl))
 f314 := Tryz.func116.trans (congrArg some (by kernel_rfl))
 t0 := Tryz.underlying0
 a0 := Tryz.isAgg0
 z0 := Tryz.sizeOf0
 v0 := Tryz.zeroValue0
 t3 := Tryz.underlying3
 a3 := Tryz.isAgg3
 z3 := Tryz.sizeOf3
 v3 := Tryz.zeroValue3
 t4 := Tryz.underlying4
 a4 := Tryz.isAgg4
 z4 := Tryz.sizeOf4
 v4 := Tryz.zeroValue4
 t5 := Tryz.underlying5
 a5 := Tryz.isAgg5
 z5 := Tryz.sizeOf5
 v5 := Tryz.zeroValue5
 t9 := Tryz.underlying9
 a9 := Tryz.isAgg9
 z9 := Tryz.sizeOf9
 v9 := Tryz.zeroValue9
 t21 := Tryz.underlying21
 a21 := Tryz.isAgg21
 z21 := Tryz.sizeOf21
 v21 := Tryz.zeroValue21
 t31 := Tryz.underlying23
 a31 := Tryz.isAgg23
 z31 := Tryz.sizeOf23
 v31 := Tryz.zeroValue23
 t46 := Tryz.underlying125
 a46 := Tryz.isAgg125
 z46 := Tryz.sizeOf125
 v46 := Tryz.zeroValue125
 t51 := Tryz.underlying122
 a51 := Tryz.isAgg122
 z51 := Tryz.sizeOf122
 v51 := Tryz.zeroValue122
 t105 := Tryz.underlying113
 a105 := Tryz.isAgg113
 z105 := Tryz.sizeOf113
 v105 := Tryz.zeroValue113
 t119 := Tryz.underlying129
 a119 := Tryz.isAgg129
 z119 := Tryz.sizeOf129
 t138 := Tryz.underlying131
 a138 := Tryz.isAgg131
 z138 := Tryz.sizeOf131
 v138 := Tryz.zeroValue131
 t139 := Tryz.underlying132
 a139 := Tryz.isAgg132
 z139 := Tryz.sizeOf132
 v139 := Tryz.zeroValue132
 t146 := Tryz.underlying133
 a146 := Tryz.isAgg133
 z146 := Tryz.sizeOf133
 v146 := Tryz.zeroValue133
 g1 := by kernel_rfl
 g3 := by kernel_rfl
 g4 := by kernel_rfl }

def pl_laysNm216_ren : Go.Shelf.Ren := ⟨fun | 16 => 78 | n => n, fun | 24 => 23 | 9 => 9 | 4 => 4 | n => n, fun | n => n⟩
theorem pl_laysNm216 : Go.Proofs.Lays2.n16 Tryz.prog pl_laysNm216_ren := {
 mixed := by kernel_rfl
 f16 := Tryz.func78.trans (congrArg some (by kernel_rfl))
 t4 := Tryz.underlying4
 a4 := Tryz.isAgg4
 z4 := Tryz.sizeOf4
 v4 := Tryz.zeroValue4
 t9 := Tryz.underlying9
 a9 := Tryz.isAgg9
 z9 := Tryz.sizeOf9
 v9 := Tryz.zeroValue9
 t24 := Tryz.underlying23
 a24 := Tryz.isAgg23
 z24 := Tryz.sizeOf23
 v24 := Tryz.zeroValue23
 i9 := by kernel_rfl }

def pl_sl10_ren : Go.Shelf.Ren := ⟨fun | 10 => 90 | 6 => 46 | n => n, fun | 22 => 23 | 23 => 9 | 25 => 57 | 3 => 3 | 4 => 4 | 0 => 0 | n => n, fun | n => n⟩
theorem pl_sl10 : Go.Proofs.SlLaysH.n10 Tryz.prog pl_sl10_ren := {
 mixed := by kernel_rfl
 f6 := ⟨Tryz.f46.name, by decide, Tryz.func46.trans (congrArg some (by kernel_rfl))⟩
 f10 := ⟨Tryz.f90.name, by decide, Tryz.func90.trans (congrArg some (by kernel_rfl))⟩
 t0 := Tryz.underlying0
 a0 := Tryz.isAgg0
 z0 := Tryz.sizeOf0
 v0 := Tryz.zeroValue0
 t3 := Tryz.underlying3
 a3 := Tryz.isAgg3
 z3 := Tryz.sizeOf3
 v3 := Tryz.zeroValue3
 t4 := Tryz.underlying4
 a4 := Tryz.isAgg4
 z4 := Tryz.sizeOf4
 v4 := Tryz.zeroValue4
 t22 := Tryz.underlying23
 a22 := Tryz.isAgg23
 z22 := Tryz.sizeOf23
 v22 := Tryz.zeroValue23
 a23 := Tryz.isAgg9
 z23 := Tryz.sizeOf9
 t25 := Tryz.underlying57
 a25 := Tryz.isAgg57
 z25 := Tryz.sizeOf57
 v25 := Tryz.zeroValue57 }

structure PlAside (p : Prop) : Prop where
  out : p
def plPieces (c : UInt8) (s : ByteArray) : List ByteArray := Lib.splitB ⟨#[c]⟩ 0 (Lib.countB s ⟨#[c]⟩) s
theorem plPieces_len (c : UInt8) (s : ByteArray) : (plPieces c s).length = Lib.countB s ⟨#[c]⟩ + 1 := Lib.splitB_all ⟨#[c]⟩ (Nat.le_refl 1) 0 _ s rfl
theorem pl_split (c : UInt8) (s : ByteArray) (m : Int) (w : World) (hs : s.size < 4294967281) (hm : w.cell? ⟨0, 0, none⟩ = some (.int .i64 m)) :
  Calls Tryz.prog 32 #[.string s, .string ⟨#[c]⟩] w fun e w' => e = .returned (.slice (some ⟨w.heap.size, 0, none⟩) (plPieces c s).length (plPieces c s).length) ∧ w' = w.alloc (.cells ((plPieces c s).map Value.string).toArray 9) := by
 refine (Any.strings_Split pl_lays146 (by kernel_rfl) s ⟨#[c]⟩ m w hs hm (Nat.le_refl 1)).mono ?_;rintro e w' ⟨rfl, rfl⟩;rw [plPieces_len];exact ⟨rfl, rfl⟩
theorem pl_clone (b off n c : Nat) (zs : List ByteArray) (w : World) (hz : n ≤ zs.length) (hbig : n * 16 ≤ 140737488355328) (hc : ∀ j, j < zs.length → w.cell? ⟨b, off + j, none⟩ = some (.string (zs.getD j ByteArray.empty))) :
  Calls Tryz.prog 78 #[.slice (some ⟨b, off, none⟩) n c] w fun e w' => ∃ v', e = .returned v' ∧ w'.ownsRow w.heap.size 9 1 v' n ((zs.take n).map Value.string) ∧ Below w.heap.size w w' :=
 (Any.slices_Clone_string pl_laysNm216 b off n c zs w hz hbig hc).mono fun e w' ⟨v, he, ho, _, hb⟩ => ⟨v, he, ho, hb⟩
def plEmpty (x : ByteArray) : Bool := x.toList.isEmpty
theorem pl_w1 (x : ByteArray) (W : World) : FnGives Tryz.prog 91 #[] #[.string x] (.bool (plEmpty x)) W := by
  show Calls Tryz.prog 91 #[.string x] W _
  go_enter Tryz.func91, Tryz.ntmps91
  go_wp2
  all_goals (go_ret; exact ⟨by first | rfl | simp_all [plEmpty], 0, rfl⟩)
def plWords (s : ByteArray) : List ByteArray := (plPieces 32 s).filter fun x => !plEmpty x
theorem pl_put (d : Array ByteArray) (c : Array Value) (h : d.size = c.size) : Sort.putCells Value.string 0 d c = d.map Value.string := by
  unfold Sort.putCells
  apply Array.ext
  · simp [h]
  · intro i h1 h2
    have : i < d.size := by simpa using h2
    simp [this]
theorem pl_words (s : ByteArray) (m : Int) (w : World) (hs : s.size < 4294967281) (hm : w.cell? ⟨0, 0, none⟩ = some (.int .i64 m)) :
  Calls Tryz.prog 75 #[.string s] w fun e w' => ∃ cap, e = .returned (.slice (some ⟨w.heap.size, 0, none⟩) (plWords s).length cap) ∧ w'.ownsRow w.heap.size 9 1 (.slice (some ⟨w.heap.size, 0, none⟩) (plWords s).length cap) (plWords s).length ((plWords s).map Value.string) ∧ Below w.heap.size w w' := by
 have eg : ∀ args w, (callFunc 91 args).run Tryz.prog w = .ok (.enter 91 args) w := enters_of Tryz.func91 (by kernel_rfl) rfl;have hsp := pl_split 32 s m w hs hm;obtain ⟨l, hl⟩ : ∃ l, l = plPieces 32 s := ⟨_, rfl⟩;have hw : plWords s = l.filter fun x => !plEmpty x := by rw [hl]; rfl
 rw [hw];rw [← hl] at hsp
 have hlen : l.length ≤ 9223372036854775807 := by
  have h1 := plPieces_len 32 s;have h2 := Lib.countB_le ⟨#[32]⟩ (Nat.le_refl 1) s.size s (Nat.le_refl _);rw [hl]; omega
 have hblk : (w.alloc (.cells (l.map Value.string).toArray 9)).heap[w.heap.size]? = some (.cells (l.map Value.string).toArray 9) := by
  show (w.heap.push _)[w.heap.size]? = _
  simp
 have hH : Sort.Holds Value.string (w.alloc (.cells (l.map Value.string).toArray 9)) w.heap.size 0 l.toArray := by
  intro j hj;have hj' : j < l.length := by simpa using hj
  constructor
  ·rw [Nat.zero_add];simp only [World.cell?, hblk]
   simp [hj']
  rw [Nat.zero_add];simp only [World.frozen?, hblk]
  simp
 have hdf := AnyE.slices_DeleteFunc pl_sl10 Value.string (fun _ => rfl) plEmpty 91 #[] eg ByteArray.empty Tryz.zeroValue9 w.heap.size 0 l.length l.toArray (w.alloc (.cells (l.map Value.string).toArray 9))
  (fun W x _ => pl_w1 x W) (fun n os dk x _ => pl_w1 x _) hH (by simpa using hlen) (by simp)
 change Calls Tryz.prog 90 _ _ _ at hdf
 obtain ⟨r, hr⟩ : ∃ r, r = l.filter fun x => !plEmpty x := ⟨_, rfl⟩
 have hrl : r.length ≤ l.length := by rw [hr]; exact List.length_filter_le _ _
 simp only [List.size_toArray] at hdf;rw [← hr] at hdf ⊢
 have hend : ∀ q, (Sort.putRow Value.string (Sort.ahead (w.alloc (.cells (l.map Value.string).toArray 9)) q) w.heap.size 0 (r ++ List.replicate (l.length - r.length) ByteArray.empty).toArray).ownsRow w.heap.size 9 1 (.slice (some ⟨w.heap.size, 0, none⟩) r.length l.length) r.length (r.map Value.string) ∧ Below w.heap.size w (Sort.putRow Value.string (Sort.ahead (w.alloc (.cells (l.map Value.string).toArray 9)) q) w.heap.size 0 (r ++ List.replicate (l.length - r.length) ByteArray.empty).toArray) := by
  intro q
  constructor
  ·refine ⟨by simp, .inr ⟨w.heap.size, l.length, (r ++ List.replicate (l.length - r.length) ByteArray.empty).toArray.map Value.string, rfl, Nat.le_refl _, ?_, hrl, hlen, by simp; omega, by simp⟩⟩;show ((w.alloc (.cells (l.map Value.string).toArray 9)).heap.modify w.heap.size _)[w.heap.size]? = _;rw [Array.getElem?_modify, if_pos rfl, hblk];simp only [Option.map_some, Sort.onCells];rw [pl_put _ _ (by simp; omega)]
  refine ⟨rfl, rfl, rfl, by rw [Sort.size_putRow]; show w.heap.size ≤ (w.heap.push _).size; simp, fun i hi => ?_⟩;show ((w.alloc (.cells (l.map Value.string).toArray 9)).heap.modify w.heap.size _)[i]? = _;rw [Array.getElem?_modify, if_neg (by omega)];show (w.heap.push _)[i]? = _;rw [Array.getElem?_push, if_neg (by omega)]
 clear hH hblk hw hl hs hm eg hr;have HE := PlAside.mk hend;clear hend;go_enter Tryz.func75, Tryz.ntmps75;go_wp2_with (first | (go_at_call 32; refine hsp.mono ?_; rintro e w' ⟨rfl, rfl⟩) | (go_at_call 90; refine hdf.mono ?_; rintro e w' ⟨rfl, q, rfl⟩));go_ret;exact ⟨l.length, rfl, (HE.out q).1, (HE.out q).2⟩
def pr_lays156_ren : Go.Shelf.Ren := ⟨fun | 156 => 18 | 165 => 38 | 166 => 17 | 169 => 21 | 240 => 37 | 241 => 57 | 276 => 56 | 277 => 83 | n => n, fun | 31 => 23 | 9 => 9 | 3 => 3 | 4 => 4 | 0 => 0 | 20 => 20 | 72 => 46 | 76 => 49 | 70 => 43 | 37 => 44 | 75 => 48 | 127 => 69 | 164 => 88 | 5 => 5 | 80 => 54 | n => n, fun | n => n⟩
theorem pr_lays156 : Go.Proofs.Lays.n156 Tryz.prog pr_lays156_ren := {
 mixed := by kernel_rfl
 f156 := Tryz.func18.trans (congrArg some (by kernel_rfl))
 f165 := Tryz.func38.trans (congrArg some (by kernel_rfl))
 f166 := Tryz.func17.trans (congrArg some (by kernel_rfl))
 f169 := Tryz.func21.trans (congrArg some (by kernel_rfl))
 f240 := Tryz.func37.trans (congrArg some (by kernel_rfl))
 f241 := Tryz.func57.trans (congrArg some (by kernel_rfl))
 f276 := Tryz.func56.trans (congrArg some (by kernel_rfl))
 f277 := Tryz.func83.trans (congrArg some (by kernel_rfl))
 t0 := Tryz.underlying0
 a0 := Tryz.isAgg0
 z0 := Tryz.sizeOf0
 v0 := Tryz.zeroValue0
 t3 := Tryz.underlying3
 a3 := Tryz.isAgg3
 z3 := Tryz.sizeOf3
 v3 := Tryz.zeroValue3
 t4 := Tryz.underlying4
 a4 := Tryz.isAgg4
 z4 := Tryz.sizeOf4
 v4 := Tryz.zeroValue4
 t9 := Tryz.underlying9
 a9 := Tryz.isAgg9
 z9 := Tryz.sizeOf9
 v9 := Tryz.zeroValue9
 t20 := Tryz.underlying20
 a20 := Tryz.isAgg20
 z20 := Tryz.sizeOf20
 v20 := Tryz.zeroValue20
 t31 := Tryz.underlying23
 a31 := Tryz.isAgg23
 z31 := Tryz.sizeOf23
 v31 := Tryz.zeroValue23
 t37 := Tryz.underlying44
 a37 := Tryz.isAgg44
 z37 := Tryz.sizeOf44
 v37 := Tryz.zeroValue44
 t70 := Tryz.underlying43
 a70 := Tryz.isAgg43
 z70 := Tryz.sizeOf43
 v70 := Tryz.zeroValue43
 t72 := Tryz.underlying46
 a72 := Tryz.isAgg46
 z72 := Tryz.sizeOf46
 v72 := Tryz.zeroValue46
 t75 := Tryz.underlying48
 a75 := Tryz.isAgg48
 z75 := Tryz.sizeOf48
 v75 := Tryz.zeroValue48
 t76 := Tryz.underlying49
 a76 := Tryz.isAgg49
 z76 := Tryz.sizeOf49
 v76 := Tryz.zeroValue49
 t127 := Tryz.underlying69
 a127 := Tryz.isAgg69
 z127 := Tryz.sizeOf69
 v127 := Tryz.zeroValue69
 t164 := Tryz.underlying88
 a164 := Tryz.isAgg88
 z164 := Tryz.sizeOf88
 v164 := Tryz.zeroValue88 }
theorem pr_Builder_Extra_156 : Builder.Extra Tryz.prog pr_lays156_ren := {
  sizeBuilder := by kernel_rfl
  liesBuilder := by kernel_rfl
  t5 := Tryz.underlying5
  a5 := Tryz.isAgg5
  z5 := Tryz.sizeOf5
  v5 := Tryz.zeroValue5
  infoByte := by kernel_rfl
  cellsByte := by kernel_rfl
  sizeByte := by kernel_rfl
  neB5 := by decide }

def pr_lays171_ren : Go.Shelf.Ren := ⟨fun | 171 => 19 | 243 => 39 | 246 => 58 | 283 => 84 | 284 => 85 | 285 => 86 | 286 => 87 | 129 => 102 | 317 => 101 | 318 => 103 | 319 => 104 | 320 => 105 | 337 => 113 | 338 => 114 | n => n, fun | 3 => 3 | 9 => 9 | 2 => 2 | 4 => 4 | 171 => 103 | 0 => 0 | 53 => 104 | 37 => 44 | 5 => 5 | 173 => 107 | 212 => 121 | 51 => 122 | 20 => 20 | 213 => 123 | 46 => 125 | 232 => 135 | 233 => 136 | n => n, fun | 17 => 1 | 18 => 4 | 19 => 5 | n => n⟩
theorem pr_lays171 : Go.Proofs.Lays.n171 Tryz.prog pr_lays171_ren := {
 mixed := by kernel_rfl
 f129 := Tryz.func102.trans (congrArg some (by kernel_rfl))
 f171 := Tryz.func19.trans (congrArg some (by kernel_rfl))
 f243 := Tryz.func39.trans (congrArg some (by kernel_rfl))
 f246 := Tryz.func58.trans (congrArg some (by kernel_rfl))
 f283 := Tryz.func84.trans (congrArg some (by kernel_rfl))
 f284 := Tryz.func85.trans (congrArg some (by kernel_rfl))
 f285 := Tryz.func86.trans (congrArg some (by kernel_rfl))
 f286 := Tryz.func87.trans (congrArg some (by kernel_rfl))
 f317 := Tryz.func101.trans (congrArg some (by kernel_rfl))
 f318 := Tryz.func103.trans (congrArg some (by kernel_rfl))
 f319 := Tryz.func104.trans (congrArg some (by kernel_rfl))
 f320 := Tryz.func105.trans (congrArg some (by kernel_rfl))
 f337 := Tryz.func113.trans (congrArg some (by kernel_rfl))
 f338 := Tryz.func114.trans (congrArg some (by kernel_rfl))
 t0 := Tryz.underlying0
 a0 := Tryz.isAgg0
 z0 := Tryz.sizeOf0
 v0 := Tryz.zeroValue0
 t2 := Tryz.underlying2
 a2 := Tryz.isAgg2
 z2 := Tryz.sizeOf2
 v2 := Tryz.zeroValue2
 t3 := Tryz.underlying3
 a3 := Tryz.isAgg3
 z3 := Tryz.sizeOf3
 v3 := Tryz.zeroValue3
 t4 := Tryz.underlying4
 a4 := Tryz.isAgg4
 z4 := Tryz.sizeOf4
 v4 := Tryz.zeroValue4
 t5 := Tryz.underlying5
 a5 := Tryz.isAgg5
 z5 := Tryz.sizeOf5
 v5 := Tryz.zeroValue5
 t9 := Tryz.underlying9
 a9 := Tryz.isAgg9
 z9 := Tryz.sizeOf9
 v9 := Tryz.zeroValue9
 t20 := Tryz.underlying20
 a20 := Tryz.isAgg20
 z20 := Tryz.sizeOf20
 v20 := Tryz.zeroValue20
 t37 := Tryz.underlying44
 a37 := Tryz.isAgg44
 z37 := Tryz.sizeOf44
 v37 := Tryz.zeroValue44
 t46 := Tryz.underlying125
 a46 := Tryz.isAgg125
 z46 := Tryz.sizeOf125
 v46 := Tryz.zeroValue125
 t51 := Tryz.underlying122
 a51 := Tryz.isAgg122
 z51 := Tryz.sizeOf122
 v51 := Tryz.zeroValue122
 t53 := Tryz.underlying104
 a53 := Tryz.isAgg104
 z53 := Tryz.sizeOf104
 v53 := Tryz.zeroValue104
 t171 := Tryz.underlying103
 a171 := Tryz.isAgg103
 z171 := Tryz.sizeOf103
 v171 := Tryz.zeroValue103
 t173 := Tryz.underlying107
 a173 := Tryz.isAgg107
 z173 := Tryz.sizeOf107
 v173 := Tryz.zeroValue107
 t212 := Tryz.underlying121
 a212 := Tryz.isAgg121
 z212 := Tryz.sizeOf121
 v212 := Tryz.zeroValue121
 t213 := Tryz.underlying123
 a213 := Tryz.isAgg123
 z213 := Tryz.sizeOf123
 t232 := Tryz.underlying135
 a232 := Tryz.isAgg135
 z232 := Tryz.sizeOf135
 v232 := Tryz.zeroValue135
 t233 := Tryz.underlying136
 a233 := Tryz.isAgg136
 z233 := Tryz.sizeOf136
 v233 := Tryz.zeroValue136
 g17 := by kernel_rfl
 g18 := by kernel_rfl
 g19 := by kernel_rfl }

theorem pr_join (bk o c : Nat) (xs : List ByteArray) (sep : ByteArray) (w : World) (hcells : ∀ (j : Nat) x, xs[j]? = some x → w.cell? ⟨bk, o + j, none⟩ = some (.string x)) (hbk : bk < w.heap.size) (hN : xs.length ≤ 140737488355328) (hcap : xs.length ≤ c) (hlen : (Lib.join (xs.map (·.data.toList)) sep.data.toList).length ≤ 140737488355328) :
  Calls Tryz.prog 18 #[.slice (some ⟨bk, o, none⟩) xs.length c, .string sep] w fun e w' => e = .returned (.string ⟨(Lib.join (xs.map (·.data.toList)) sep.data.toList).toArray⟩) ∧ Below w.heap.size w w' := Any.strings_Join pr_lays156 pr_Builder_Extra_156 bk o c xs sep w hcells hbk hN hcap hlen
theorem pr_itoa (i : Nat) (hi : i < 100) (w : World) :
    Calls Tryz.prog 19 #[.int .i64 i] w fun e w' => e = .returned (.string ⟨(Lib.decDigits i).toArray⟩) ∧ w' = w := Any.strconv_Itoa_small pr_lays171 i hi w
end Go.Proofs.YtnbghhddmlohoaaGreatDoor.PAll

end

section
namespace Go.Proofs.YtnbghhddmlohoaaGreatDoor.PAll
open Go.RowKit Go.Proofs.YtnbghhddmlohoaaGreatDoorW.PrintWords Go.Proofs.YtnbghhddmlohoaaGreatDoorW.PrintLast Go.Proofs.YtnbghhddmlohoaaGreatDoorW.PrintMore
attribute [local go_sem] max2_int min2_int max_two min_two max_three min_three max_four min_four   -- for this text's walks alone
set_option linter.unusedVariables false
set_option linter.unusedSimpArgs false



def errW : Option Int → Value
  | none => .nilIface
  | some c => .iface 0 (.int .i64 c)
theorem errW_none : errW none = .nilIface := rfl
theorem errW_some (c : Int) : errW (some c) = .iface 0 (.int .i64 c) := rfl

theorem info9 : (Tryz.prog.info? 9).map (fun i => (i.zero, i.size, i.bytes)) = some (some (.string ⟨#[]⟩), 1, 16) := by kernel_rfl
structure S38 where
  f0 : ByteArray
  f1 : (List ByteArray)
def z38 : S38 := ⟨(⟨#[]⟩ : ByteArray), ([] : List ByteArray)⟩
def k38 : Kd S38 := Kd.iso (Kd.pair Kd.string (Kd.slice 9 Kd.string)) (fun x : S38 => (x.f0, x.f1))
theorem k38_heap : Kd.Heap k38 := Kd.heap_iso _ (Kd.heap_pair Kd.heap_string (Kd.heap_slice 9 Kd.heap_string))
theorem k38_open {w : World} {x : S38} {cs : List Value} (h : k38.K w x cs) : ∃ A1 c1, cs = [.string x.f0, .slice A1 x.f1.length c1] ∧ x.f1.length ≤ c1 ∧ Kd.string.C w A1 x.f1.length x.f1 := by
  obtain ⟨_, _, rfl, rfl, ⟨A1, c1, rfl, l1, g1⟩⟩ := h
  exact ⟨A1, c1, rfl, l1, g1⟩
theorem k38_mkM (w : World) (base : Nat) (ok : Nat → Prop) (x : S38) {v1 : Value} (g1 : Kd.string.R 9 w base ok v1 x.f1) : k38.M w base ok x [.string x.f0, v1] := ⟨[.string x.f0], [v1], rfl, rfl, ⟨v1, rfl, g1⟩⟩
theorem k38_openF {W : World} {ok : Nat → Prop} {x : S38} {cs : List Value} (h : Kd.FK k38 W ok x cs) : ∃ A1 c1, cs = [.string x.f0, .slice A1 x.f1.length c1] ∧ x.f1.length ≤ c1 ∧ Kd.F Kd.string W ok A1 x.f1.length x.f1 := by
  obtain ⟨A1, c1, rfl, l1, _⟩ := k38_open (Kd.FK_now h)
  exact ⟨A1, c1, rfl, l1, (fun W' hW => by obtain ⟨A1_, c1_, he, l1_, g1_⟩ := k38_open (h W' hW); injection (Option.some.inj (show some (Value.slice A1 x.f1.length c1) = some (Value.slice A1_ x.f1.length c1_) from congrArg (fun l => l[1]?) he)) with ha_ _ _; rw [ha_]; exact g1_)⟩
def rd_T38 (xs : List S38) (i : Int) : S38 := xs.getD i.toNat z38
theorem at_T38 {w : World} {A : Option Addr} {n : Nat} {xs : List S38} (h : Kd.C k38 w A n xs) (i : Int) (h0 : 0 ≤ i) (h1 : i < n) : ∃ ad A1 c1, A = some ad ∧ w.cell? (ad.add (i.toNat * 2)) = some (.string (rd_T38 xs i).f0) ∧ w.cell? ⟨(ad.add (i.toNat * 2)).block, (ad.add (i.toNat * 2)).off + 1, none⟩ = some (.slice A1 (rd_T38 xs i).f1.length c1) ∧ (rd_T38 xs i).f1.length ≤ c1 ∧ Kd.string.C w A1 (rd_T38 xs i).f1.length (rd_T38 xs i).f1 := by
  obtain ⟨ad, c, e, _, hK, hc0⟩ := Kd.C_get h z38 i h0 h1
  have hc : ∀ j u, c[j]? = some u → w.cell? (ad.add (i.toNat * 2 + j)) = some u := hc0
  obtain ⟨A1, c1, rfl, l1, g1⟩ := k38_open hK
  exact ⟨ad, A1, c1, e, hc 0 _ rfl, by rw [← add_field _ _ 1 (by omega)]; exact hc 1 _ rfl, l1, g1⟩

structure S25 where
  f0 : (List S38)
  f1 : (List ByteArray)
  f2 : (List ByteArray)
  f3 : (List ByteArray)
  f4 : Int
def k25 : Kd S25 := Kd.iso (Kd.pair (Kd.slice 38 k38) (Kd.pair (Kd.slice 9 Kd.string) (Kd.pair (Kd.slice 9 Kd.string) (Kd.pair (Kd.slice 9 Kd.string) (Kd.int .i64))))) (fun x : S25 => (x.f0, x.f1, x.f2, x.f3, x.f4))
theorem k25_open {w : World} {x : S25} {cs : List Value} (h : k25.K w x cs) : ∃ A0 c0 A1 c1 A2 c2 A3 c3, cs = [.slice A0 x.f0.length c0, .slice A1 x.f1.length c1, .slice A2 x.f2.length c2, .slice A3 x.f3.length c3, .int .i64 x.f4] ∧ x.f0.length ≤ c0 ∧ k38.C w A0 x.f0.length x.f0 ∧ x.f1.length ≤ c1 ∧ Kd.string.C w A1 x.f1.length x.f1 ∧ x.f2.length ≤ c2 ∧ Kd.string.C w A2 x.f2.length x.f2 ∧ x.f3.length ≤ c3 ∧ Kd.string.C w A3 x.f3.length x.f3 := by
  obtain ⟨_, _, rfl, ⟨A0, c0, rfl, l0, g0⟩, ⟨_, _, rfl, ⟨A1, c1, rfl, l1, g1⟩, ⟨_, _, rfl, ⟨A2, c2, rfl, l2, g2⟩, ⟨_, _, rfl, ⟨A3, c3, rfl, l3, g3⟩, rfl⟩⟩⟩⟩ := h
  exact ⟨A0, c0, A1, c1, A2, c2, A3, c3, rfl, l0, g0, l1, g1, l2, g2, l3, g3⟩
structure S41 where
  f0 : ByteArray
  f1 : ByteArray
def k41 : Kd S41 := Kd.iso (Kd.pair Kd.string Kd.string) (fun x : S41 => (x.f0, x.f1))
structure S85 where
  f0 : Int
  f1 : Int
  f2 : ByteArray
  f3 : (List S41)
  f4 : ByteArray
  f5 : (List S85)
def F85 (d : Kd S85) : Kd S85 := Kd.iso (Kd.pair (Kd.int .i64) (Kd.pair (Kd.int .i64) (Kd.pair Kd.string (Kd.pair (Kd.slice 41 k41) (Kd.pair Kd.string (Kd.slice 85 d)))))) (fun x : S85 => (x.f0, x.f1, x.f2, x.f3, x.f4, x.f5))
theorem sub85 : Kd.Sub F85 [41, 85] := Kd.sub_iso _ (Kd.sub_pair (Kd.sub_const _ (by decide)) (Kd.sub_pair (Kd.sub_const _ (by decide)) (Kd.sub_pair (Kd.sub_const _ (by decide)) (Kd.sub_pair (Kd.sub_const _ (by decide)) (Kd.sub_pair (Kd.sub_const _ (by decide)) (Kd.sub_slice 85 (by decide) Kd.sub_id))))))
theorem sz85 : ∀ n, (Kd.upto F85 6 [41, 85] n).sz = 6 := Kd.upto_sz (fun _ => rfl)
def k85 : Kd S85 := Kd.fix F85 6 [41, 85] sz85 (Kd.upto_E sub85)
theorem Bw {n : Nat} {a b : World} (h : Below n a b := by repeat (first | (with_reducible first | exact HB.out | apply below_alloc | apply pw_below_drewN | apply below_drew1 | refine below_set ?_ (Aside0.out (by assumption))) | exact HB.out)) : Below n a b := h
theorem Bk {w w' : World} {g : Nat} {o : Obj} (b : Aside0 (w.heap[g]? = some o)) (h : w.heap[g]? = some o → w'.heap[g]? = some o := by intro hb_; (with_reducible repeat (first | refine blk_drewN ?_ _ | refine blk_drew ?_ | refine blk_alloc ?_ _)); exact hb_) : w'.heap[g]? = some o := h b.out
theorem Bb {w w1 w2 : World} {g : Nat} {o : Obj} (b : Aside0 (w.heap[g]? = some o)) (hb : Below w1.heap.size w1 w2) (h : w.heap[g]? = some o → w1.heap[g]? = some o := by intro hb_; (with_reducible repeat (first | refine blk_drewN ?_ _ | refine blk_drew ?_ | refine blk_alloc ?_ _)); exact hb_) : Aside0 (w2.heap[g]? = some o) := ⟨blk_below (h b.out) hb⟩
theorem Bs {w w1 w2 : World} (hb : Below w1.heap.size w1 w2) (h : Below w.heap.size w w1 := by repeat (first | (with_reducible first | exact HB.out | apply below_alloc | apply pw_below_drewN | apply below_drew1 | refine below_set ?_ (Aside0.out (by assumption))) | exact HB.out)) : Aside0 (Below w.heap.size w w2) := ⟨below_step h hb⟩
theorem Rk {α : Type} {d : Kd α} {e : Nat} {w w' : World} {base : Nat} {ok : Nat → Prop} {v : Value} {xs : List α} (x : Kd.R d e w base ok v xs) (h : Kd.R d e w base ok v xs → Kd.R d e w' base ok v xs := by intro hb_; (with_reducible repeat (first | apply Kd.R_alloc | apply Kd.R_drewN | apply Kd.R_drew)); exact hb_) : Kd.R d e w' base ok v xs := h x
theorem Sk {α : Type} {d : Kd α} {e : Nat} {w w' : World} {base : Nat} {ok : Nat → Prop} {v : Value} {xs : List α} (x : Kd.S d e w base ok v xs) (h : Kd.S d e w base ok v xs → Kd.S d e w' base ok v xs := by intro hb_; (with_reducible repeat (first | apply Kd.S_alloc | apply Kd.S_drewN | apply Kd.S_drew)); exact hb_) : Kd.S d e w' base ok v xs := h x
theorem Vk {α : Type} {d : Kd α} {e : Nat} {w w' : World} {base : Nat} {ok : Nat → Prop} {v : Value} {xs : List α} (x : Kd.V d e w base ok v xs) (h : Kd.V d e w base ok v xs → Kd.V d e w' base ok v xs := by intro hb_; (with_reducible repeat (first | apply Kd.V_alloc | apply Kd.V_drewN | apply Kd.V_drew)); exact hb_) : Kd.V d e w' base ok v xs := h x
theorem Cd {α : Type} {d : Kd α} {w w1 : World} {xs : List α} {A : Option Addr} {n : Nat} (c : Kd.C d w A n xs) (h : Kd.C d w A n xs → Kd.C d w1 A n xs := by intro hb_; repeat (first | exact hb_ | (with_reducible refine Kd.C_alloc ?_ _) | (with_reducible refine Kd.C_drewN ?_ _) | (with_reducible refine Kd.C_drew ?_))) : Kd.C d w1 A n xs := h c
theorem Bf {w w' : World} {g : Nat} {t : TypeId} {cs : Array Value} (b : Aside0 (w.heap[g]? = some (.cells cs t (0, 0)))) (h : w.heap[g]? = some (.cells cs t (0, 0)) → w'.heap[g]? = some (.cells cs t (0, 0)) := by intro hb_; (with_reducible repeat (first | refine blk_drewN ?_ _ | refine blk_drew ?_ | refine blk_alloc ?_ _ | refine blk_far ?_ (Aside0.out (by assumption)) _)); exact hb_) : w'.heap[g]? = some (.cells cs t (0, 0)) := h b.out
theorem Bp {w w' : World} {g : Nat} {t : TypeId} {cs0 c1 cs : Array Value} (b : Aside0 (w.heap[g]? = some (.cells cs0 t (0, 0)))) (h : w.heap[g]? = some (.cells cs0 t (0, 0)) → w'.heap[g]? = some (.cells c1 t (0, 0)) := by intro hb_; (with_reducible repeat (first | refine blk_drewN ?_ _ | refine blk_drew ?_ | refine blk_alloc ?_ _ | apply blk_set | (apply blk_far; (case hp => exact Aside0.out (by assumption))))); exact hb_) (e : c1 = cs := by rfl) : w'.heap[g]? = some (.cells cs t (0, 0)) := e ▸ h b.out
theorem Nl {w W : World} {g g' : Nat} {o : Obj} (hg : g' = W.heap.size) (b : Aside0 (w.heap[g]? = some o)) (h : w.heap[g]? = some o → W.heap[g]? = some o := by intro hb_; (with_reducible repeat (first | refine blk_drewN ?_ _ | refine blk_drew ?_ | refine blk_alloc ?_ _)); exact hb_) : Aside0 (g ≠ g') := ⟨by rw [hg]; exact Nat.ne_of_lt (blk_lt (h b.out))⟩
theorem Ng {w W : World} {g g' : Nat} {o : Obj} (hg : g' = W.heap.size) (b : Aside0 (w.heap[g]? = some o)) (h : w.heap[g]? = some o → W.heap[g]? = some o := by intro hb_; (with_reducible repeat (first | refine blk_drewN ?_ _ | refine blk_drew ?_ | refine blk_alloc ?_ _)); exact hb_) : Aside0 (g' ≠ g) := ⟨by rw [hg]; exact Nat.ne_of_gt (blk_lt (h b.out))⟩
theorem Cs {α : Type} {d : Kd α} {w w1 : World} {xs : List α} {A : Option Addr} {n : Nat} (c : Aside0 (Kd.C d w A n xs)) (h : Below w.heap.size w w1 := by repeat (first | (with_reducible first | exact HB.out | apply below_alloc | apply pw_below_drewN | apply below_drew1 | refine below_set ?_ (Aside0.out (by assumption))) | exact HB.out)) : Kd.C d w1 A n xs := Kd.C_below c.out h
theorem Hx {w w1 : World} {a : Addr} {v : Value} (h : w.cell? a = some v) (b : Below w.heap.size w w1 := by exact HB.out) : w1.cell? a = some v := (b.cell (World.block_lt_of_cell? w _ h)).trans h
theorem Gg {w0 W : World} {g : Nat} (hg : g = W.heap.size) (b : Below w0.heap.size w0 W := by repeat (first | (with_reducible first | exact HB.out | apply below_alloc | apply pw_below_drewN | apply below_drew1 | refine below_set ?_ (Aside0.out (by assumption))) | exact HB.out)) : w0.heap.size ≤ g := by rw [hg]; exact below_size b
theorem Dw {a b : World} (h : Drawn0 a b := by repeat (first | exact Drawn0.refl _ | apply Drawn0.step)) : Drawn0 a b := h
theorem Re {p : Prop} (h : p := by first | rfl | (simp [errW_none, errW_some] <;> rfl) | (simp [*, errW_none, errW_some] <;> rfl)) : p := h
theorem Rs {p : Prop} (h : p := by first | rfl | (simp; done) | (simp [*]; done)) : p := h
theorem On {p : Prop} (h : p := by first | omega | exact Nat.le_refl _) : p := h
section
variable {P : Program} {ops : Array Oper} {Q : Exit → Act → World → Prop}
theorem goL {rest : List Oper} {oi : Oper} {a : Act} {w : World} (N : Option Tmp) {f : FuncId} {fn : Func} {as_ : Array Operand} {ts : Array TypeId} (hf : P.funcs[f]? = some fn) (args : Array Value)
    (h : Calls P f args w fun e w' => ∃ v, e = .returned v ∧ wpList P ops Q rest (a.put N v) w') (hd : oi.dst = N := by rfl) (hg : oi.guard = none := by rfl) (hname : (fn.name == "runtime.NumGoroutine") = false := by kernel_rfl) (hb : fn.body.isSome = true := by rfl)
    (hop : oi.op = .call { callee := .value (.func f), args := as_, argTypes := ts } := by rfl) (hargs : as_.map a.eval = args := by (try simp only [List.map_toArray, List.map_cons, List.map_nil]); first | done | rfl | (simp only [List.length_drop, List.length_take]; rfl)) : wpList P ops Q (oi :: rest) a w := goesL_ N hd hg hf hname hb args hop hargs h
theorem boxE {rest : List Oper} {o : Oper} {a : Act} {W : World} {cs : Array Value} (t : TypeId) (N : Tmp)
    (h : ∀ g, g = W.heap.size → ∀ w1, w1.heap[g]? = some (.cells cs t (0, 0)) → Below W.heap.size W w1 → wpList P ops Q rest (a.put o.dst (.pointer (some ⟨g, 0, none⟩))) w1)
    (hgd : o.guard = none := by rfl) (hd : o.dst = some N := by rfl)
    (hrun : (execOp a.eval o).run P W = .ok (.value (.pointer (some ⟨W.heap.size, 0, none⟩))) (W.alloc (.cells cs t (0, 0))) := by first | (go_simp; done) | (go_simp; rfl)) : wpList P ops Q (o :: rest) a W := box_event hgd hd hrun h
theorem box5 {rest : List Oper} {o : Oper} {a : Act} {w0 W : World} {cs : Array Value} (t : TypeId) (N : Tmp)
    (h : ∀ g (w1 : World), Aside0 (Below w0.heap.size w0 w1) → Aside0 (w1.heap[g]? = some (.cells cs t (0, 0))) → Aside0 (w0.heap.size ≤ g) → wpList P ops Q rest (a.put o.dst (.pointer (some ⟨g, 0, none⟩))) w1)
    (hb : Below w0.heap.size w0 W := by repeat (first | (with_reducible first | exact HB.out | apply below_alloc | apply pw_below_drewN | apply below_drew1 | refine below_set ?_ (Aside0.out (by assumption))) | exact HB.out))
    (hgd : o.guard = none := by rfl) (hd : o.dst = some N := by rfl)
    (hrun : (execOp a.eval o).run P W = .ok (.value (.pointer (some ⟨W.heap.size, 0, none⟩))) (W.alloc (.cells cs t (0, 0))) := by first | (go_simp; done) | (go_simp; rfl)) : wpList P ops Q (o :: rest) a W :=
  box_event hgd hd hrun fun g hg w1 hbox hb1 => h g w1 ⟨below_step hb hb1⟩ ⟨hbox⟩ ⟨by rw [hg]; exact below_size hb⟩
end
theorem cells2 {w : World} {g : Nat} {t : TypeId} {v0 v1 : Value} (h : Aside0 (w.heap[g]? = some (.cells #[v0, v1] t (0, 0)))) : w.cell? ⟨g, 0, none⟩ = some v0 ∧ w.cell? ⟨g, 1, none⟩ = some v1 ∧ w.frozen? ⟨g, 0, none⟩ = false ∧ w.frozen? ⟨g, 1, none⟩ = false :=
  ⟨(blk_cell h.out 0).trans rfl, (blk_cell h.out 1).trans rfl, blk_frozen h.out 0, blk_frozen h.out 1⟩
theorem cells5 {w : World} {g : Nat} {t : TypeId} {v0 v1 v2 v3 v4 : Value} (h : Aside0 (w.heap[g]? = some (.cells #[v0, v1, v2, v3, v4] t (0, 0)))) : w.cell? ⟨g, 0, none⟩ = some v0 ∧ w.cell? ⟨g, 1, none⟩ = some v1 ∧ w.cell? ⟨g, 2, none⟩ = some v2 ∧ w.cell? ⟨g, 3, none⟩ = some v3 ∧ w.cell? ⟨g, 4, none⟩ = some v4 ∧
    w.frozen? ⟨g, 0, none⟩ = false ∧ w.frozen? ⟨g, 1, none⟩ = false ∧ w.frozen? ⟨g, 2, none⟩ = false ∧ w.frozen? ⟨g, 3, none⟩ = false ∧ w.frozen? ⟨g, 4, none⟩ = false :=
  ⟨(blk_cell h.out 0).trans rfl, (blk_cell h.out 1).trans rfl, (blk_cell h.out 2).trans rfl, (blk_cell h.out 3).trans rfl, (blk_cell h.out 4).trans rfl, blk_frozen h.out 0, blk_frozen h.out 1, blk_frozen h.out 2, blk_frozen h.out 3, blk_frozen h.out 4⟩
theorem eqb {α : Type} [BEq α] [LawfulBEq α] {a b : α} (h : a = b) : (a == b) = true ∧ (a != b) = false := ⟨beq_iff_eq.mpr h, bne_eq_false_iff_eq.mpr h⟩
theorem neb {α : Type} [BEq α] [LawfulBEq α] {a b : α} (h : ¬ a = b) : (a == b) = false ∧ (a != b) = true := ⟨beq_eq_false_iff_ne.mpr h, bne_iff_ne.mpr h⟩
theorem dgt {a b : Int} (h : a > b) : decide (b < a) = true := decide_eq_true h
theorem ngt {a b : Int} (h : ¬ a > b) : decide (b < a) = false := decide_eq_false h
theorem dge {a b : Int} (h : a ≥ b) : decide (b ≤ a) = true := decide_eq_true h
theorem nge {a b : Int} (h : ¬ a ≥ b) : decide (b ≤ a) = false := decide_eq_false h
theorem bx {α β : Type} {o : Option α} {f : α → Option β} {r : β} (h : o.bind f = some r) : ∃ t, Aside0 (o = some t) ∧ f t = some r := by
  obtain ⟨t, h1, h2⟩ := Option.bind_eq_some_iff.mp h
  exact ⟨t, ⟨h1⟩, h2⟩
theorem si {α : Type} {a b : α} (h : some a = some b) : a = b := Option.some.inj h
theorem bf {b : Bool} (h : ¬ b = true) : b = false := Bool.eq_false_iff.mpr h
theorem Od {p : Prop} [Decidable p] (h : decide p = true := by first | (with_reducible assumption) | assumption) : p := of_decide_eq_true h
theorem as4 {a b c d : Prop} (h1 : a) (h2 : b) (h3 : c) (h4 : d) : Aside0 a ∧ Aside0 b ∧ Aside0 c ∧ Aside0 d := ⟨⟨h1⟩, ⟨h2⟩, ⟨h3⟩, ⟨h4⟩⟩
theorem at'_T38 {w w1 : World} {A : Option Addr} {n : Nat} {xs : List S38} (h : Kd.C k38 w A n xs) (i : Int) (h0 : 0 ≤ i) (h1 : i < n) (b : Below w.heap.size w w1 := by exact HB.out) : ∃ ad A1 c1, A = some ad ∧ w1.cell? (ad.add (i.toNat * 2)) = some (.string (rd_T38 xs i).f0) ∧ w1.cell? ⟨(ad.add (i.toNat * 2)).block, (ad.add (i.toNat * 2)).off + 1, none⟩ = some (.slice A1 (rd_T38 xs i).f1.length c1) ∧ Aside0 ((rd_T38 xs i).f1.length ≤ c1) ∧ Aside0 (Kd.string.C w A1 (rd_T38 xs i).f1.length (rd_T38 xs i).f1) := by
  obtain ⟨ad, A1, c1, q0, q1, q2, q3, q4⟩ := at_T38 h i h0 h1
  exact ⟨ad, A1, c1, q0, Hx q1 b, Hx q2 b, ⟨q3⟩, ⟨q4⟩⟩
end Go.Proofs.YtnbghhddmlohoaaGreatDoor.PAll

end

section
namespace Go.Proofs.YtnbghhddmlohoaaGreatDoor.PAll
open Go.RowKit Go.Proofs.YtnbghhddmlohoaaGreatDoorW.PrintWords Go.Proofs.YtnbghhddmlohoaaGreatDoorW.PrintLast Go.Proofs.YtnbghhddmlohoaaGreatDoorW.PrintMore
attribute [local go_sem] max2_int min2_int max_two min_two max_three min_three max_four min_four   -- for this text's walks alone
set_option linter.unusedVariables false
set_option linter.unusedSimpArgs false

def r11_texts.l0 : Nat → List ByteArray → Int → Option (Bool)
  | 0, _, _ => none
  | k + 1, x0, x3 => if x3 < (x0.length : Int) then (if 0 ≤ x3 then (if ((rdOf ByteArray.empty x0 x3).size : Int) > 60 then (some false) else (r11_texts.l0 k x0 (wrap64 (x3 + 1)))) else (none)) else (some true)
def r11_texts.f (k : Nat) (l0 : List ByteArray) : Option (Bool) := if (l0.length : Int) > 60 then (some false) else (r11_texts.l0 k l0 0)
theorem r11_texts.calls (k : Nat) (A0 : Option Addr) (c0 : Nat) (l0 : List ByteArray) (r : Bool) (w : World) (hr0 : Kd.C Kd.string w A0 l0.length l0) (hc0 : l0.length ≤ c0) (h : r11_texts.f k l0 = some r) :
  Calls Tryz.prog 12 #[.slice A0 l0.length c0] w fun e w' => e = .returned (.bool r) ∧ Drawn0 w w' := by
 have HR0 := Am hr0;have HC0 := Am hc0;clear hr0 hc0;have H := h;clear h;unfold r11_texts.f at H
 by_cases c2 : (l0.length : Int) > 60
 ·rw [if_pos c2] at H;have c2b0 := dgt c2;have c2b1 : decide (60 < l0.length) = true := decide_eq_true (by omega);clear c2;obtain rfl := si H;go_enter Tryz.func12, Tryz.ntmps12;go_wp2;go_ret;exact ⟨Rs, Dw⟩
 rw [if_neg c2] at H;have c2b0 := ngt c2;have c2b1 : decide (60 < l0.length) = false := decide_eq_false (by omega);clear c2;have H' := Am H;clear H;go_enter Tryz.func12, Tryz.ntmps12;go_wp2
 go_loopg [3] k (fun kq v3 w' => ∃ (x3_1 : Int), v3 = .int .i64 x3_1 ∧ Aside0 (r11_texts.l0 kq l0 x3_1 = some r) ∧ Aside0 (kq ≤ k) ∧ Drawn0 w w')
 case atStart => exact ⟨(0), Rs, H', ⟨Nat.le_refl _⟩, by repeat (first | exact Drawn0.refl _ | apply Drawn0.step)⟩
 case round =>
  clear H';(try clear c1);(try clear c2);(try clear c2b0);(try clear c2b1);(try clear p2);obtain ⟨x3_1, rfl, HA, HK1, ⟨m1, rfl⟩⟩ := hrel
  cases gk with
  | zero => exact absurd HA.out (by simp [r11_texts.l0])
  | succ k1 =>
   have H := HA.out;clear HA;simp only [r11_texts.l0] at H
   by_cases c3 : x3_1 < (l0.length : Int)
   ·rw [if_pos c3] at H;have c3b0 := decide_eq_true c3;clear c3
    by_cases c4 : 0 ≤ x3_1
    ·rw [if_pos c4] at H;have c4b0 : decide (0 ≤ x3_1) = true := decide_eq_true c4;clear c4
     by_cases c5 : ((rdOf ByteArray.empty l0 x3_1).size : Int) > 60
     ·rw [if_pos c5] at H;have c5b0 := dgt c5;have c5b1 : decide (60 < (rdOf ByteArray.empty l0 x3_1).size) = true := decide_eq_true (by omega);clear c5;obtain rfl := si H;have p101 : 0 ≤ (x3_1 : Int) := Od;have q101 : x3_1 < (l0.length : Int) := Od;obtain ⟨ad101, e101, hx101_0⟩ := Kd.at_string HR0.out x3_1 p101 q101;cases e101;replace p101 := eq_true p101;replace q101 := eq_true q101;go_wp2;go_ret;exact ⟨Rs, Dw⟩
     rw [if_neg c5] at H;have c5b0 := ngt c5;have c5b1 : decide (60 < (rdOf ByteArray.empty l0 x3_1).size) = false := decide_eq_false (by omega);clear c5;have H' := Am H;clear H;have p101 : 0 ≤ (x3_1 : Int) := Od;have q101 : x3_1 < (l0.length : Int) := Od;obtain ⟨ad101, e101, hx101_0⟩ := Kd.at_string HR0.out x3_1 p101 q101;cases e101;replace p101 := eq_true p101;replace q101 := eq_true q101;go_wp2;go_roundg k1
     case measure => have := HK1.out; omega
     case rel => exact ⟨(wrap64 (x3_1 + 1)), Rs, H', ⟨by have := HK1.out; omega⟩, by repeat (first | exact Drawn0.refl _ | apply Drawn0.step)⟩
    rw [if_neg c4] at H;exact absurd H (by simp)
   rw [if_neg c3] at H;have c3b0 := decide_eq_false c3;clear c3;obtain rfl := si H;go_wp2;go_ret;exact ⟨Rs, Dw⟩

mutual
def r11_Small.j0 : Nat → Bool → List (S38) → List ByteArray → List ByteArray → List ByteArray → Int → Option (Bool)
  | 0, _, _, _, _, _, _ => none
  | k + 1, x25, x103000, x103001, x103002, x103003, x103004 => if x25 = true then (some false) else (r11_Small.l0 k 0 x103000 x103001 x103002 x103003 x103004)
def r11_Small.l0 : Nat → Int → List (S38) → List ByteArray → List ByteArray → List ByteArray → Int → Option (Bool)
  | 0, _, _, _, _, _, _ => none
  | k + 1, x3, x103000, x103001, x103002, x103003, x103004 => if x3 < (x103000.length : Int) then (if 0 ≤ x3 then (if (((rd_T38 x103000 x3).f0).size : Int) > 60 then (some false) else ((r11_texts.f k ((rd_T38 x103000 x3).f1)).bind fun t108 => (if t108 = true then (r11_Small.l0 k (wrap64 (x3 + 1)) x103000 x103001 x103002 x103003 x103004) else (some false)))) else (none)) else (some true)
end
def r11_Small.f (k : Nat) (l0_0 : List (S38)) (l0_1 : List ByteArray) (l0_2 : List ByteArray) (l0_3 : List ByteArray) (a0_4 : Int) : Option (Bool) := if (l0_0.length : Int) > 60 then (r11_Small.j0 k true l0_0 l0_1 l0_2 l0_3 a0_4) else ((r11_texts.f k l0_1).bind fun t103 => (if t103 = true then ((r11_texts.f k l0_2).bind fun t104 => (if t104 = true then ((r11_texts.f k l0_3).bind fun t105 => (r11_Small.j0 k (!t105) l0_0 l0_1 l0_2 l0_3 a0_4)) else (r11_Small.j0 k true l0_0 l0_1 l0_2 l0_3 a0_4))) else (r11_Small.j0 k true l0_0 l0_1 l0_2 l0_3 a0_4)))
theorem r11_Small.calls (k : Nat) (A0_0 : Option Addr) (c0_0 : Nat) (l0_0 : List (S38)) (A0_1 : Option Addr) (c0_1 : Nat) (l0_1 : List ByteArray) (A0_2 : Option Addr) (c0_2 : Nat) (l0_2 : List ByteArray) (A0_3 : Option Addr) (c0_3 : Nat) (l0_3 : List ByteArray) (a0_4 : Int) (r : Bool) (w : World) (hr0_0 : Kd.C k38 w A0_0 l0_0.length l0_0) (hc0_0 : l0_0.length ≤ c0_0) (hr0_1 : Kd.C Kd.string w A0_1 l0_1.length l0_1) (hc0_1 : l0_1.length ≤ c0_1) (hr0_2 : Kd.C Kd.string w A0_2 l0_2.length l0_2) (hc0_2 : l0_2.length ≤ c0_2) (hr0_3 : Kd.C Kd.string w A0_3 l0_3.length l0_3) (hc0_3 : l0_3.length ≤ c0_3) (h : r11_Small.f k l0_0 l0_1 l0_2 l0_3 a0_4 = some r) :
  Calls Tryz.prog 5 #[.agg #[.slice A0_0 l0_0.length c0_0, .slice A0_1 l0_1.length c0_1, .slice A0_2 l0_2.length c0_2, .slice A0_3 l0_3.length c0_3, .int .i64 a0_4]] w fun e w' => e = .returned (.bool r) ∧ Below w.heap.size w w' := by
 have hu25 := Tryz.underlying25;obtain ⟨HR0_0, HC0_0, HR0_1, HC0_1⟩ := as4 hr0_0 hc0_0 hr0_1 hc0_1;clear hr0_0 hc0_0 hr0_1 hc0_1;obtain ⟨HR0_2, HC0_2, HR0_3, HC0_3⟩ := as4 hr0_2 hc0_2 hr0_3 hc0_3;clear hr0_2 hc0_2 hr0_3 hc0_3;have HB := Am (Below.refl w.heap.size w);have H := h;clear h;unfold r11_Small.f at H;have HC2 := Am H;clear H;go_enter Tryz.func5, Tryz.ntmps5
 go_upto_region 1 with (first | ((with_reducible refine gate_dst (N := 1) rfl ?_); refine box5 25 1 (cs := #[.slice A0_0 l0_0.length c0_0, .slice A0_1 l0_1.length c0_1, .slice A0_2 l0_2.length c0_2, .slice A0_3 l0_3.length c0_3, .int .i64 a0_4]) ?_; clear HB; intro gb102 w3 HB BK102 GE102))
 (try simp only [Act.put, List.setIfInBounds_toArray, List.set_cons_zero, List.set_cons_succ])
 go_cut [25] (fun v25 wc => ∃ (kq : Nat) (x25_1 : Bool), v25 = .bool x25_1 ∧ Aside0 (r11_Small.j0 kq x25_1 l0_0 l0_1 l0_2 l0_3 a0_4 = some r) ∧ Aside0 (kq ≤ k) ∧ Aside0 (wc.heap[gb102]? = some (.cells #[(.slice A0_0 l0_0.length c0_0), (.slice A0_1 l0_1.length c0_1), (.slice A0_2 l0_2.length c0_2), (.slice A0_3 l0_3.length c0_3), .int .i64 a0_4] 25 (0, 0))) ∧ Aside0 (Below w.heap.size w wc))
 case first =>
  have H := HC2.out;clear HC2
  by_cases c4 : (l0_0.length : Int) > 60
  ·rw [if_pos c4] at H;have c4b0 : decide (60 < (l0_0.length : Int)) = true := decide_eq_true c4;have c4b1 : decide (60 < l0_0.length) = true := decide_eq_true (by omega);clear c4;(first | rw [c4b0] | (simp only [i64_w, i32_w]; rw [c4b0]) | skip);have H' := Am H;clear H;obtain ⟨Z5_0, Z5_1, Z5_2, Z5_3, Z5_4, Y5_0, Y5_1, Y5_2, Y5_3, Y5_4⟩ := cells5 BK102;go_wp2;go_meet
   case rel => exact ⟨_, (true), Rs, H', ⟨On⟩, ⟨(Bk BK102)⟩, ⟨Bw⟩⟩
  rw [if_neg c4] at H;have c4b0 : decide (60 < (l0_0.length : Int)) = false := decide_eq_false c4;have c4b1 : decide (60 < l0_0.length) = false := decide_eq_false (by omega);clear c4;(first | rw [c4b0] | (simp only [i64_w, i32_w]; rw [c4b0]) | skip);obtain ⟨t103, A6, H⟩ := bx H;(try dsimp -simprocs only at H)
  by_cases c7 : t103 = true
  ·subst c7;rw [if_pos rfl] at H;obtain ⟨t104, A8, H⟩ := bx H;(try dsimp -simprocs only at H)
   by_cases c9 : t104 = true
   ·subst c9;rw [if_pos rfl] at H;obtain ⟨t105, A10, H⟩ := bx H;(try dsimp -simprocs only at H);have H' := Am H;clear H;obtain ⟨Z11_0, Z11_1, Z11_2, Z11_3, Z11_4, Y11_0, Y11_1, Y11_2, Y11_3, Y11_4⟩ := cells5 BK102;go_wp2_with (first | (go_at_call 12; (with_reducible refine (r11_texts.calls k _ _ l0_1 true _ (Cs HR0_1) HC0_1.out A6.out).mono ?_); rintro e w' ⟨rfl, ⟨nd, rfl⟩⟩) | (go_at_call 12; (with_reducible refine (r11_texts.calls k _ _ l0_2 true _ ?side1 HC0_2.out A8.out).mono ?_); (case side1 => exact Cd (Kd.C_below HR0_2.out Bw)); rintro e w' ⟨rfl, ⟨nd, rfl⟩⟩) | (go_at_call 12; (with_reducible refine (r11_texts.calls k _ _ l0_3 t105 _ ?side1 HC0_3.out A10.out).mono ?_); (case side1 => exact Cd (Kd.C_below HR0_3.out Bw)); rintro e w' ⟨rfl, ⟨nd, rfl⟩⟩));go_meet
    case rel => exact ⟨_, (!t105), Rs, H', ⟨On⟩, ⟨(Bk BK102)⟩, ⟨Bw⟩⟩
   replace c9 := bf c9;subst c9;rw [if_neg (show ¬ (false = true) by decide)] at H;have H' := Am H;clear H;obtain ⟨Z12_0, Z12_1, Z12_2, Z12_3, Z12_4, Y12_0, Y12_1, Y12_2, Y12_3, Y12_4⟩ := cells5 BK102;go_wp2_with (first | (go_at_call 12; (with_reducible refine (r11_texts.calls k _ _ l0_1 true _ (Cs HR0_1) HC0_1.out A6.out).mono ?_); rintro e w' ⟨rfl, ⟨nd, rfl⟩⟩) | (go_at_call 12; (with_reducible refine (r11_texts.calls k _ _ l0_2 false _ ?side1 HC0_2.out A8.out).mono ?_); (case side1 => exact Cd (Kd.C_below HR0_2.out Bw)); rintro e w' ⟨rfl, ⟨nd, rfl⟩⟩));go_meet
   case rel => exact ⟨_, (true), Rs, H', ⟨On⟩, ⟨(Bk BK102)⟩, ⟨Bw⟩⟩
  replace c7 := bf c7;subst c7;rw [if_neg (show ¬ (false = true) by decide)] at H;have H' := Am H;clear H;obtain ⟨Z13_0, Z13_1, Z13_2, Z13_3, Z13_4, Y13_0, Y13_1, Y13_2, Y13_3, Y13_4⟩ := cells5 BK102;go_wp2_with (first | (go_at_call 12; (with_reducible refine (r11_texts.calls k _ _ l0_1 false _ (Cs HR0_1) HC0_1.out A6.out).mono ?_); rintro e w' ⟨rfl, ⟨nd, rfl⟩⟩));go_meet
  case rel => exact ⟨_, (true), Rs, H', ⟨On⟩, ⟨(Bk BK102)⟩, ⟨Bw⟩⟩
 case rest =>
  clear HC2;(try clear p2);(try clear c4);(try clear c4b0);(try clear c4b1);(try clear c5);(try clear c7);(try clear c9);(try clear Z11_0 Z11_1 Z11_2 Z11_3 Z11_4);(try clear Z12_0 Z12_1 Z12_2 Z12_3 Z12_4);(try clear Z13_0 Z13_1 Z13_2 Z13_3 Z13_4);(try clear Z5_0 Z5_1 Z5_2 Z5_3 Z5_4);(try clear Y11_0 Y11_1 Y11_2 Y11_3 Y11_4);(try clear Y12_0 Y12_1 Y12_2 Y12_3 Y12_4);(try clear Y13_0 Y13_1 Y13_2 Y13_3 Y13_4);(try clear Y5_0 Y5_1 Y5_2 Y5_3 Y5_4);obtain ⟨kq, x25_1, rfl, HA, HJ1, BK102, HB⟩ := hcut
  cases kq with
  | zero => exact absurd HA.out (by simp [r11_Small.j0])
  | succ kj1 =>
   have H := HA.out;clear HA;simp only [r11_Small.j0] at H
   by_cases c14 : x25_1 = true
   ·subst c14;rw [if_pos rfl] at H;obtain rfl := si H;go_wp2;go_ret;exact ⟨Re, Bw⟩
   replace c14 := bf c14;subst c14;rw [if_neg (show ¬ (false = true) by decide)] at H;have H' := Am H;clear H;go_wp2
   go_loopg [3] kj1 (fun kq v3 w' => ∃ (x3_2 : Int), v3 = .int .i64 x3_2 ∧ Aside0 (r11_Small.l0 kq x3_2 l0_0 l0_1 l0_2 l0_3 a0_4 = some r) ∧ Aside0 (kq ≤ kj1) ∧ Aside0 (w'.heap[gb102]? = some (.cells #[(.slice A0_0 l0_0.length c0_0), (.slice A0_1 l0_1.length c0_1), (.slice A0_2 l0_2.length c0_2), (.slice A0_3 l0_3.length c0_3), .int .i64 a0_4] 25 (0, 0))) ∧ Aside0 (Below w.heap.size w w'))
   case atStart => exact ⟨(0), Rs, H', ⟨Nat.le_refl _⟩, ⟨(Bk BK102)⟩, ⟨Bw⟩⟩
   case round =>
    clear H';(try clear c1);(try clear p2);(try clear c4);(try clear c4b0);(try clear c4b1);(try clear c5);(try clear c7);(try clear c9);(try clear c14);(try clear Z11_0 Z11_1 Z11_2 Z11_3 Z11_4);(try clear Z12_0 Z12_1 Z12_2 Z12_3 Z12_4);(try clear Z13_0 Z13_1 Z13_2 Z13_3 Z13_4);(try clear Z5_0 Z5_1 Z5_2 Z5_3 Z5_4);(try clear Y11_0 Y11_1 Y11_2 Y11_3 Y11_4);(try clear Y12_0 Y12_1 Y12_2 Y12_3 Y12_4);(try clear Y13_0 Y13_1 Y13_2 Y13_3 Y13_4);(try clear Y5_0 Y5_1 Y5_2 Y5_3 Y5_4);(try clear p2);obtain ⟨x3_2, rfl, HA, HK2, BK102, HB⟩ := hrel
    cases gk with
    | zero => exact absurd HA.out (by simp [r11_Small.l0])
    | succ k2 =>
     have H := HA.out;clear HA;simp only [r11_Small.l0] at H
     by_cases c15 : x3_2 < (l0_0.length : Int)
     ·rw [if_pos c15] at H;have c15b0 := decide_eq_true c15;clear c15
      by_cases c16 : 0 ≤ x3_2
      ·rw [if_pos c16] at H;have c16b0 := decide_eq_true c16;clear c16
       by_cases c17 : (((rd_T38 l0_0 x3_2).f0).size : Int) > 60
       ·rw [if_pos c17] at H;have c17b0 := dgt c17;have c17b1 : decide (60 < ((rd_T38 l0_0 x3_2).f0).size) = true := decide_eq_true (by omega);clear c17;obtain rfl := si H;obtain ⟨Z18_0, Z18_1, Z18_2, Z18_3, Z18_4, Y18_0, Y18_1, Y18_2, Y18_3, Y18_4⟩ := cells5 BK102;have p106 : 0 ≤ (x3_2 : Int) := Od;have q106 : x3_2 < (l0_0.length : Int) := Od;obtain ⟨ad106, A106_1, c106_1, e106, hx106_0, hx106_1, HC106_1, HR106_1⟩ := at'_T38 HR0_0.out x3_2 p106 q106;cases e106;replace p106 := eq_true p106;replace q106 := eq_true q106;go_wp2;go_ret;exact ⟨Re, Bw⟩
       rw [if_neg c17] at H;have c17b0 := ngt c17;have c17b1 : decide (60 < ((rd_T38 l0_0 x3_2).f0).size) = false := decide_eq_false (by omega);clear c17;obtain ⟨t108, A19, H⟩ := bx H;(try dsimp -simprocs only at H)
       by_cases c20 : t108 = true
       ·subst c20;rw [if_pos rfl] at H;have H' := Am H;clear H;obtain ⟨Z21_0, Z21_1, Z21_2, Z21_3, Z21_4, Y21_0, Y21_1, Y21_2, Y21_3, Y21_4⟩ := cells5 BK102;have p106 : 0 ≤ (x3_2 : Int) := Od;have q106 : x3_2 < (l0_0.length : Int) := Od;obtain ⟨ad106, A106_1, c106_1, e106, hx106_0, hx106_1, HC106_1, HR106_1⟩ := at'_T38 HR0_0.out x3_2 p106 q106;cases e106;replace p106 := eq_true p106;replace q106 := eq_true q106;have p107 : 0 ≤ (x3_2 : Int) := Od;have q107 : x3_2 < (l0_0.length : Int) := Od;obtain ⟨ad107, A107_1, c107_1, e107, hx107_0, hx107_1, hl107_1, hi107_1⟩ := at_T38 HR0_0.out x3_2 p107 q107;obtain rfl : ad106 = ad107 := (by injection e107);replace hx107_0 := Hx hx107_0;replace hx107_1 := Hx hx107_1;have HR107_1 := Am hi107_1;have HC107_1 := Am hl107_1;clear hi107_1 hl107_1;replace p107 := eq_true p107;replace q107 := eq_true q107;have ea_ := Option.some.inj (hx106_1.symm.trans hx107_1)
        injection ea_ with ea_ en_ ec_
        subst ea_;subst ec_;clear en_;go_wp2_with (first | (go_at_call 12; (with_reducible refine (r11_texts.calls k2 _ _ ((rd_T38 l0_0 x3_2).f1) true _ (Cs HR107_1) HC107_1.out A19.out).mono ?_); rintro e w' ⟨rfl, ⟨nd, rfl⟩⟩));go_roundg k2
        case measure => have := HJ1.out; have := HK2.out; omega
        case rel => exact ⟨(wrap64 (x3_2 + 1)), Rs, H', ⟨by have := HJ1.out; have := HK2.out; omega⟩, ⟨(Bk BK102)⟩, ⟨Bw⟩⟩
       replace c20 := bf c20;subst c20;rw [if_neg (show ¬ (false = true) by decide)] at H;obtain rfl := si H;obtain ⟨Z22_0, Z22_1, Z22_2, Z22_3, Z22_4, Y22_0, Y22_1, Y22_2, Y22_3, Y22_4⟩ := cells5 BK102;have p106 : 0 ≤ (x3_2 : Int) := Od;have q106 : x3_2 < (l0_0.length : Int) := Od;obtain ⟨ad106, A106_1, c106_1, e106, hx106_0, hx106_1, HC106_1, HR106_1⟩ := at'_T38 HR0_0.out x3_2 p106 q106;cases e106;replace p106 := eq_true p106;replace q106 := eq_true q106;have p107 : 0 ≤ (x3_2 : Int) := Od;have q107 : x3_2 < (l0_0.length : Int) := Od;obtain ⟨ad107, A107_1, c107_1, e107, hx107_0, hx107_1, hl107_1, hi107_1⟩ := at_T38 HR0_0.out x3_2 p107 q107;obtain rfl : ad106 = ad107 := (by injection e107);replace hx107_0 := Hx hx107_0;replace hx107_1 := Hx hx107_1;have HR107_1 := Am hi107_1;have HC107_1 := Am hl107_1;clear hi107_1 hl107_1;replace p107 := eq_true p107;replace q107 := eq_true q107;have ea_ := Option.some.inj (hx106_1.symm.trans hx107_1)
       injection ea_ with ea_ en_ ec_
       subst ea_;subst ec_;clear en_;go_wp2_with (first | (go_at_call 12; (with_reducible refine (r11_texts.calls k2 _ _ ((rd_T38 l0_0 x3_2).f1) false _ (Cs HR107_1) HC107_1.out A19.out).mono ?_); rintro e w' ⟨rfl, ⟨nd, rfl⟩⟩));go_ret;exact ⟨Re, Bw⟩
      rw [if_neg c16] at H;exact absurd H (by simp)
     rw [if_neg c15] at H;have c15b0 := decide_eq_false c15;clear c15;obtain rfl := si H;obtain ⟨Z23_0, Z23_1, Z23_2, Z23_3, Z23_4, Y23_0, Y23_1, Y23_2, Y23_3, Y23_4⟩ := cells5 BK102;go_wp2;go_ret;exact ⟨Re, Bw⟩

def bigR (x : S38) : Bool := decide (20 < (x.f1.length : Int))
def largeB (l0 : List S38) (l1 l2 l3 : List ByteArray) : Bool := decide (40 < (l0.length : Int)) || decide (20 < (l1.length : Int)) || decide (20 < (l2.length : Int)) || decide (20 < (l3.length : Int)) || l0.any bigR
theorem anyR_snoc {p : S38 → Bool} {l : List S38} {k : Nat} {x : S38} (hc : l[k]? = some x) (h : (l.take k).any p = false) (h1 : p x = false) : (l.take (k + 1)).any p = false := by
  rw [List.take_add_one, hc, List.any_append, h]; simp [h1]
theorem anyR_hit {p : S38 → Bool} {l : List S38} {k : Nat} {x : S38} (hc : l[k]? = some x) (h1 : p x = true) : l.any p = true := List.any_eq_true.mpr ⟨x, List.mem_of_getElem? hc, h1⟩
theorem rdR_get? {l : List S38} {k : Nat} (h : k < l.length) : l[k]? = some (rd_T38 l (k : Int)) := by
  simp [rd_T38, h]

theorem big_one (x0 : ByteArray) (A1 : Option Addr) (n c1 : Nat) (r : Bool) (w : World) (h : decide (20 < (n : Int)) = r) :
  Calls Tryz.prog 43 #[.agg #[.string x0, .slice A1 n c1]] w fun e w' => e = .returned (.bool r) ∧ Below w.heap.size w w' := by
 have hu38 := Tryz.underlying38;have HB := Am (Below.refl w.heap.size w);have HH := Am h;clear h;go_enter Tryz.func43, Tryz.ntmps43;go_wp2_with (first | ((with_reducible refine gate_dst (N := 1) rfl ?_); refine boxE 38 1 (cs := #[.string x0, .slice A1 n c1]) ?_; intro gb hg w1 hbox hb; have n0_ := Bs hb; have n1_ := Am (hbox); have n2_ := Am ((by rw [hg]; exact (below_size Bw)) : w.heap.size ≤ gb); clear HB; have HB := n0_; have BKgb := n1_; have GEgb := n2_; clear n0_ n1_ n2_; clear hb hbox hg; have Zgb_0 : w1.cell? ⟨gb, 0, none⟩ = some (.string x0) := (blk_cell BKgb.out 0).trans rfl; have Ygb_0 := blk_frozen BKgb.out 0; have Zgb_1 : w1.cell? ⟨gb, 1, none⟩ = some (.slice A1 n c1) := (blk_cell BKgb.out 1).trans rfl; have Ygb_1 := blk_frozen BKgb.out 1));go_ret;exact ⟨by show Ending.returned (Value.bool (decide (20 < (n : Int)))) = _; rw [HH.out], Bw⟩

theorem ix_big (A : Option Addr) (c : Nat) (l : List S38) (w : World) (hr : Kd.C k38 w A l.length l) (hc : l.length ≤ c) (hn : l.length ≤ 1000) :
  Calls Tryz.prog 62 #[.slice A l.length c, .func (.func 43) #[] #[]] w fun e w' => (∃ i : Int, e = .returned (.int .i64 i) ∧ decide (0 ≤ i) = l.any bigR) ∧ Below w.heap.size w w' := by
 have hu38 := Tryz.underlying38;have HR0 := Am hr;have HC0 := Am hc;clear hr hc;go_enter Tryz.func62, Tryz.ntmps62;go_wp2
 go_loopw [8] (fun i wr => ∃ (j : Nat), j ≤ l.length ∧ i = .int .i64 j ∧ Aside0 ((l.take j).any bigR = false) ∧ Aside0 (Below w.heap.size w wr)) (fun i _ => l.length - (intOf i).toNat)
 case atStart => exact ⟨0, Nat.zero_le _, rfl, ⟨rfl⟩, ⟨Below.refl _ _⟩⟩
 case round =>
  obtain ⟨j, hj, rfl, HA, HB⟩ := hrel
  by_cases hlt : j < l.length
  ·obtain ⟨ad, A1, c1, e_, hx0, hx1, hc1, hk1⟩ := at_T38 (Kd.C_below HR0.out HB.out) (j : Int) (by omega) (by omega);cases e_;rw [show ((j : Int)).toNat = j from rfl] at hx0 hx1;have q_ : ((j : Int) < (l.length : Int)) = True := eq_true (by omega);have HG := Am (rdR_get? hlt);generalize rd_T38 l (j : Int) = x at hx0 hx1 hc1 hk1 HG;clear hc1 hk1
   cases hb : bigR x with
   | true =>
    have A3 := Am (show decide (20 < (x.f1.length : Int)) = true from hb);have HX := Am hb;clear hb;go_wp2_with (go_at_call 43; (with_reducible refine (big_one x.f0 A1 x.f1.length c1 true _ A3.out).mono ?_); rintro e w2 ⟨rfl, hb⟩; replace HB := Bs hb; clear hb);go_ret;exact ⟨⟨(j : Int), rfl, by rw [anyR_hit HG.out HX.out]; exact decide_eq_true (by omega)⟩, HB.out⟩
   | false =>
    have A3 := Am (show decide (20 < (x.f1.length : Int)) = false from hb);have HX := Am hb;clear hb;go_wp2_with (go_at_call 43; (with_reducible refine (big_one x.f0 A1 x.f1.length c1 false _ A3.out).mono ?_); rintro e w2 ⟨rfl, hb⟩; replace HB := Bs hb; clear hb);go_roundw
    case rel => exact ⟨j + 1, by omega, by go_num, ⟨anyR_snoc HG.out HA.out HX.out⟩, HB⟩
    case measure => simp [intOf]; omega
  obtain rfl : j = l.length := by omega
  have HE := Am (show l.any bigR = false by have := HA.out; rwa [List.take_of_length_le (Nat.le_refl _)] at this);go_wp2;go_ret;exact ⟨⟨-1, rfl, by rw [HE.out]; rfl⟩, HB.out⟩

theorem cf_big (A : Option Addr) (c : Nat) (l : List S38) (r : Bool) (w : World) (hr : Kd.C k38 w A l.length l) (hc : l.length ≤ c) (hn : l.length ≤ 1000) (h : l.any bigR = r) :
  Calls Tryz.prog 44 #[.slice A l.length c, .func (.func 43) #[] #[]] w fun e w' => e = .returned (.bool r) ∧ Below w.heap.size w w' := by
 have HR0 := Am hr;have HC0 := Am hc;have HH := Am h;clear hr hc h;go_enter Tryz.func44, Tryz.ntmps44;go_wp2_with (go_at_call 62; (with_reducible refine (ix_big A c l _ ?s1 HC0.out hn).mono ?_); (case s1 => repeat (first | exact HR0.out | (with_reducible refine Kd.C_drewN ?_ _) | (with_reducible refine Kd.C_drew ?_))); rintro e w' ⟨⟨i, rfl, hi⟩, hb⟩; have HI := Am hi; have HB := Am hb; clear hi hb);go_ret;exact ⟨by show Ending.returned (Value.bool (decide (0 ≤ i))) = _; rw [HI.out, HH.out], HB.out⟩
def p_large.f (l0_0 : List S38) (l0_1 l0_2 l0_3 : List ByteArray) (a0_4 : Int) : Option Bool := some (largeB l0_0 l0_1 l0_2 l0_3)
theorem p_large.calls (A0_0 : Option Addr) (c0_0 : Nat) (l0_0 : List (S38)) (A0_1 : Option Addr) (c0_1 : Nat) (l0_1 : List ByteArray) (A0_2 : Option Addr) (c0_2 : Nat) (l0_2 : List ByteArray) (A0_3 : Option Addr) (c0_3 : Nat) (l0_3 : List ByteArray) (a0_4 : Int) (r : Bool) (w : World) (hr0_0 : Kd.C k38 w A0_0 l0_0.length l0_0) (hc0_0 : l0_0.length ≤ c0_0) (hr0_1 : Kd.C Kd.string w A0_1 l0_1.length l0_1) (hc0_1 : l0_1.length ≤ c0_1) (hr0_2 : Kd.C Kd.string w A0_2 l0_2.length l0_2) (hc0_2 : l0_2.length ≤ c0_2) (hr0_3 : Kd.C Kd.string w A0_3 l0_3.length l0_3) (hc0_3 : l0_3.length ≤ c0_3) (h : p_large.f l0_0 l0_1 l0_2 l0_3 a0_4 = some r) :
  Calls Tryz.prog 24 #[.agg #[.slice A0_0 l0_0.length c0_0, .slice A0_1 l0_1.length c0_1, .slice A0_2 l0_2.length c0_2, .slice A0_3 l0_3.length c0_3, .int .i64 a0_4]] w fun e w' => e = .returned (.bool r) ∧ Below w.heap.size w w' := by
 obtain rfl := Option.some.inj h;clear h;have hu25 := Tryz.underlying25;have HB := Am (Below.refl w.heap.size w);have HR0_0 := Am hr0_0;have HC0_0 := Am hc0_0;clear hr0_0 hc0_0 hr0_1 hc0_1 hr0_2 hc0_2 hr0_3 hc0_3
 by_cases h0 : 40 < (l0_0.length : Int)
 ·have b0 : decide (40 < (l0_0.length : Int)) = true := decide_eq_true h0;have HE := Am (show largeB l0_0 l0_1 l0_2 l0_3 = true by unfold largeB; rw [b0]; simp);clear h0;go_enter Tryz.func24, Tryz.ntmps24;go_wp2_with (first | ((with_reducible refine gate_dst (N := 1) rfl ?_); refine boxE 25 1 (cs := #[.slice A0_0 l0_0.length c0_0, .slice A0_1 l0_1.length c0_1, .slice A0_2 l0_2.length c0_2, .slice A0_3 l0_3.length c0_3, .int .i64 a0_4]) ?_; intro gb hg w1 hbox hb; have n0_ := Bs hb; have n1_ := Am (hbox); have n2_ := Am ((by rw [hg]; exact (below_size Bw)) : w.heap.size ≤ gb); clear HB; have HB := n0_; have BKgb := n1_; have GEgb := n2_; clear n0_ n1_ n2_; clear hb hbox hg; have Zgb_0 : w1.cell? ⟨gb, 0, none⟩ = some (.slice A0_0 l0_0.length c0_0) := (blk_cell BKgb.out 0).trans rfl; have Ygb_0 := blk_frozen BKgb.out 0; have Zgb_1 : w1.cell? ⟨gb, 1, none⟩ = some (.slice A0_1 l0_1.length c0_1) := (blk_cell BKgb.out 1).trans rfl; have Ygb_1 := blk_frozen BKgb.out 1; have Zgb_2 : w1.cell? ⟨gb, 2, none⟩ = some (.slice A0_2 l0_2.length c0_2) := (blk_cell BKgb.out 2).trans rfl; have Ygb_2 := blk_frozen BKgb.out 2; have Zgb_3 : w1.cell? ⟨gb, 3, none⟩ = some (.slice A0_3 l0_3.length c0_3) := (blk_cell BKgb.out 3).trans rfl; have Ygb_3 := blk_frozen BKgb.out 3; have Zgb_4 : w1.cell? ⟨gb, 4, none⟩ = some (.int .i64 a0_4) := (blk_cell BKgb.out 4).trans rfl; have Ygb_4 := blk_frozen BKgb.out 4));go_ret;exact ⟨by show Ending.returned (Value.bool true) = _; rw [HE.out], HB.out⟩
 have b0 : decide (40 < (l0_0.length : Int)) = false := decide_eq_false h0
 obtain ⟨M, or4⟩ : ∃ M : Nat, ((l0_1.length < l0_2.length) = True ∧ (l0_2.length < l0_3.length) = True ∧ M = l0_3.length) ∨ ((l0_1.length < l0_2.length) = True ∧ (l0_2.length < l0_3.length) = False ∧ M = l0_2.length) ∨ ((l0_1.length < l0_2.length) = False ∧ (l0_1.length < l0_3.length) = True ∧ M = l0_3.length) ∨ ((l0_1.length < l0_2.length) = False ∧ (l0_1.length < l0_3.length) = False ∧ M = l0_1.length) := by
  by_cases o1 : l0_1.length < l0_2.length
  ·by_cases o2 : l0_2.length < l0_3.length
   ·exact ⟨_, .inl ⟨eq_true o1, eq_true o2, rfl⟩⟩
   exact ⟨_, .inr (.inl ⟨eq_true o1, eq_false o2, rfl⟩)⟩
  by_cases o2 : l0_1.length < l0_3.length
  ·exact ⟨_, .inr (.inr (.inl ⟨eq_false o1, eq_true o2, rfl⟩))⟩
  exact ⟨_, .inr (.inr (.inr ⟨eq_false o1, eq_false o2, rfl⟩))⟩
 have hmax : l0_1.length ≤ M ∧ l0_2.length ≤ M ∧ l0_3.length ≤ M ∧ (M = l0_1.length ∨ M = l0_2.length ∨ M = l0_3.length) := by
  rcases or4 with ⟨o1, o2, e⟩ | ⟨o1, o2, e⟩ | ⟨o1, o2, e⟩ | ⟨o1, o2, e⟩ <;> (first | have o1 := of_eq_true o1 | have o1 := of_eq_false o1) <;> (first | have o2 := of_eq_true o2 | have o2 := of_eq_false o2) <;> omega
 by_cases h1 : 20 < (M : Int)
 ·have b1 : decide (20 < (M : Int)) = true := decide_eq_true h1
  have HE := Am (show largeB l0_0 l0_1 l0_2 l0_3 = true by
   unfold largeB
   rcases hmax.2.2.2 with e | e | e <;> rw [← e, b1] <;> simp)
  clear h0 h1 hmax
  rcases or4 with ⟨q1, q2, e⟩ | ⟨q1, q2, e⟩ | ⟨q1, q2, e⟩ | ⟨q1, q2, e⟩ <;> (
   rw [e] at b1;clear e;go_enter Tryz.func24, Tryz.ntmps24;go_wp2_with (first | ((with_reducible refine gate_dst (N := 1) rfl ?_); refine boxE 25 1 (cs := #[.slice A0_0 l0_0.length c0_0, .slice A0_1 l0_1.length c0_1, .slice A0_2 l0_2.length c0_2, .slice A0_3 l0_3.length c0_3, .int .i64 a0_4]) ?_; intro gb hg w1 hbox hb; have n0_ := Bs hb; have n1_ := Am (hbox); have n2_ := Am ((by rw [hg]; exact (below_size Bw)) : w.heap.size ≤ gb); clear HB; have HB := n0_; have BKgb := n1_; have GEgb := n2_; clear n0_ n1_ n2_; clear hb hbox hg; have Zgb_0 : w1.cell? ⟨gb, 0, none⟩ = some (.slice A0_0 l0_0.length c0_0) := (blk_cell BKgb.out 0).trans rfl; have Ygb_0 := blk_frozen BKgb.out 0; have Zgb_1 : w1.cell? ⟨gb, 1, none⟩ = some (.slice A0_1 l0_1.length c0_1) := (blk_cell BKgb.out 1).trans rfl; have Ygb_1 := blk_frozen BKgb.out 1; have Zgb_2 : w1.cell? ⟨gb, 2, none⟩ = some (.slice A0_2 l0_2.length c0_2) := (blk_cell BKgb.out 2).trans rfl; have Ygb_2 := blk_frozen BKgb.out 2; have Zgb_3 : w1.cell? ⟨gb, 3, none⟩ = some (.slice A0_3 l0_3.length c0_3) := (blk_cell BKgb.out 3).trans rfl; have Ygb_3 := blk_frozen BKgb.out 3; have Zgb_4 : w1.cell? ⟨gb, 4, none⟩ = some (.int .i64 a0_4) := (blk_cell BKgb.out 4).trans rfl; have Ygb_4 := blk_frozen BKgb.out 4));go_ret
   exact ⟨by show Ending.returned (Value.bool true) = _; rw [HE.out], HB.out⟩)
 have b1 : decide (20 < (M : Int)) = false := decide_eq_false h1
 have HE := Am (show largeB l0_0 l0_1 l0_2 l0_3 = l0_0.any bigR by
  unfold largeB
  rw [b0, decide_eq_false (show ¬ 20 < (l0_1.length : Int) by omega), decide_eq_false (show ¬ 20 < (l0_2.length : Int) by omega), decide_eq_false (show ¬ 20 < (l0_3.length : Int) by omega)]; simp)
 have hn : l0_0.length ≤ 1000 := by omega
 clear h0 h1 hmax
 rcases or4 with ⟨q1, q2, e⟩ | ⟨q1, q2, e⟩ | ⟨q1, q2, e⟩ | ⟨q1, q2, e⟩ <;> (
  rw [e] at b1;clear e
  rcases hb_ : l0_0.any bigR with _ | _ <;> (
   have A3 := Am hb_;clear hb_;go_enter Tryz.func24, Tryz.ntmps24;go_wp2_with (first | ((with_reducible refine gate_dst (N := 1) rfl ?_); refine boxE 25 1 (cs := #[.slice A0_0 l0_0.length c0_0, .slice A0_1 l0_1.length c0_1, .slice A0_2 l0_2.length c0_2, .slice A0_3 l0_3.length c0_3, .int .i64 a0_4]) ?_; intro gb hg w1 hbox hb; have n0_ := Bs hb; have n1_ := Am (hbox); have n2_ := Am ((by rw [hg]; exact (below_size Bw)) : w.heap.size ≤ gb); clear HB; have HB := n0_; have BKgb := n1_; have GEgb := n2_; clear n0_ n1_ n2_; clear hb hbox hg; have Zgb_0 : w1.cell? ⟨gb, 0, none⟩ = some (.slice A0_0 l0_0.length c0_0) := (blk_cell BKgb.out 0).trans rfl; have Ygb_0 := blk_frozen BKgb.out 0; have Zgb_1 : w1.cell? ⟨gb, 1, none⟩ = some (.slice A0_1 l0_1.length c0_1) := (blk_cell BKgb.out 1).trans rfl; have Ygb_1 := blk_frozen BKgb.out 1; have Zgb_2 : w1.cell? ⟨gb, 2, none⟩ = some (.slice A0_2 l0_2.length c0_2) := (blk_cell BKgb.out 2).trans rfl; have Ygb_2 := blk_frozen BKgb.out 2; have Zgb_3 : w1.cell? ⟨gb, 3, none⟩ = some (.slice A0_3 l0_3.length c0_3) := (blk_cell BKgb.out 3).trans rfl; have Ygb_3 := blk_frozen BKgb.out 3; have Zgb_4 : w1.cell? ⟨gb, 4, none⟩ = some (.int .i64 a0_4) := (blk_cell BKgb.out 4).trans rfl; have Ygb_4 := blk_frozen BKgb.out 4) | (go_at_call 44; (with_reducible refine (cf_big A0_0 c0_0 l0_0 _ _ ?side1 HC0_0.out hn A3.out).mono ?_); (case side1 => first | exact Kd.C_below HR0_0.out HB.out | exact HR0_0.out); rintro e w2 ⟨rfl, hb⟩; replace HB := Bs hb; clear hb));go_ret
   exact ⟨by first | (show Ending.returned (Value.bool true) = _; rw [HE.out, A3.out]; done) | (show Ending.returned (Value.bool false) = _; rw [HE.out, A3.out]; done), HB.out⟩))


def slI_.l0 : Nat → List ByteArray → ByteArray → Int → Int → Option (Int)
  | 0, _, _, _, _ => none
  | k + 1, x0, x1, x7, x8 => if x8 < x7 then (if 0 ≤ x8 then (if x8 < (x0.length : Int) then (if x1.toList = (rdOf ByteArray.empty x0 x8).toList then (some x8) else (slI_.l0 k x0 x1 x7 (wrap64 (x8 + 1)))) else (none)) else (none)) else (some (-1))
def slI_.f (k : Nat) (l0 : List ByteArray) (a1 : ByteArray) : Option (Int) := slI_.l0 k l0 a1 (l0.length : Int) 0
theorem slI_.mono_l : ∀ k, (∀ y0 y1 y2 y3, LeO (slI_.l0 k y0 y1 y2 y3) (slI_.l0 (k + 1) y0 y1 y2 y3))
 | 0 => fun _ _ _ _ r h => by simp [slI_.l0] at h
 | k + 1 => by
  have ih0 := slI_.mono_l k
  ·intro y0 y1 y2 y3
   unfold slI_.l0
   repeat' first
   | (with_reducible exact ih0 _ _ _ _)
   | (with_reducible exact LeO.refl _)
   | (with_reducible exact LeO.none _)
   | (with_reducible refine LeO.ite ?_ ?_)
   | (with_reducible refine LeO.bind ?_ (fun _ => ?_))
theorem slI_.mono : ∀ a0 a1 k, LeO (slI_.f k a0 a1) (slI_.f (k + 1) a0 a1) := by
 intro a0 a1 k;have ih0 := slI_.mono_l k;unfold slI_.f
 repeat' first
   | (with_reducible exact ih0 _ _ _ _)
   | (with_reducible exact LeO.refl _)
   | (with_reducible exact LeO.none _)
   | (with_reducible refine LeO.ite ?_ ?_)
   | (with_reducible refine LeO.bind ?_ (fun _ => ?_))
theorem slI_.calls (k : Nat) (A0 : Option Addr) (c0 : Nat) (l0 : List ByteArray) (a1 : ByteArray) (r : Int) (w : World) (hr0 : Kd.C Kd.string w A0 l0.length l0) (hc0 : l0.length ≤ c0) (h : slI_.f k l0 a1 = some r) :
  Calls Tryz.prog 48 #[.slice A0 l0.length c0, .string a1] w fun e w' => e = .returned (.int .i64 r) ∧ Drawn0 w w' := by
 have HR0 := Am hr0;have HC0 := Am hc0;clear hr0 hc0;have H : (slI_.l0 k l0 a1 (l0.length : Int) 0) = some r := h;clear h;have H' := Am H;clear H;go_enter Tryz.func48, Tryz.ntmps48;go_wp2
 go_loopg [8] k (fun kq v8 w' => ∃ (x8_1 : Int), v8 = .int .i64 x8_1 ∧ Aside0 (slI_.l0 kq l0 a1 (l0.length : Int) x8_1 = some r) ∧ Aside0 (kq ≤ k) ∧ Drawn0 w w')
 case atStart => exact ⟨(0), Rs, H', ⟨Nat.le_refl _⟩, by repeat (first | exact Drawn0.refl _ | apply Drawn0.step)⟩
 case round =>
  clear H';(try clear p2);obtain ⟨x8_1, rfl, HA, HK1, ⟨m1, rfl⟩⟩ := hrel
  cases gk with
  | zero => exact absurd HA.out (by simp [slI_.l0])
  | succ k1 =>
   have H := HA.out;clear HA;simp only [slI_.l0] at H
   by_cases c3 : x8_1 < (l0.length : Int)
   ·rw [if_pos c3] at H;have c3b0 := decide_eq_true c3;clear c3
    by_cases c4 : 0 ≤ x8_1
    ·rw [if_pos c4] at H;have c4b0 := decide_eq_true c4;clear c4
     by_cases c5 : x8_1 < (l0.length : Int)
     ·rw [if_pos c5] at H;have c5b0 := decide_eq_true c5;clear c5
      by_cases c6 : a1.toList = (rdOf ByteArray.empty l0 x8_1).toList
      ·rw [if_pos c6] at H;obtain ⟨c6b0, c6b1⟩ := eqb c6;clear c6;obtain rfl := si H;have p109 : 0 ≤ (x8_1 : Int) := Od;have q109 : x8_1 < (l0.length : Int) := Od;obtain ⟨ad109, e109, hx109_0⟩ := Kd.at_string HR0.out x8_1 p109 q109;cases e109;replace p109 := eq_true p109;replace q109 := eq_true q109;go_wp2;go_ret;exact ⟨Rs, Dw⟩
      rw [if_neg c6] at H;obtain ⟨c6b0, c6b1⟩ := neb c6;have H' := Am H;clear H;have p109 : 0 ≤ (x8_1 : Int) := Od;have q109 : x8_1 < (l0.length : Int) := Od;obtain ⟨ad109, e109, hx109_0⟩ := Kd.at_string HR0.out x8_1 p109 q109;cases e109;replace p109 := eq_true p109;replace q109 := eq_true q109;go_wp2;go_roundg k1
      case measure => have := HK1.out; omega
      case rel => exact ⟨(wrap64 (x8_1 + 1)), Rs, H', ⟨by have := HK1.out; omega⟩, by repeat (first | exact Drawn0.refl _ | apply Drawn0.step)⟩
     rw [if_neg c5] at H;exact absurd H (by simp)
    rw [if_neg c4] at H;exact absurd H (by simp)
   rw [if_neg c3] at H;have c3b0 := decide_eq_false c3;clear c3;obtain rfl := si H;go_wp2;go_ret;exact ⟨Rs, Dw⟩

def slC_.f (k : Nat) (l0 : List ByteArray) (a1 : ByteArray) : Option (Bool) := (slI_.f k l0 a1).bind fun t110 => (some (decide (t110 ≥ 0)))
theorem slC_.mono : ∀ a0 a1 k, LeO (slC_.f k a0 a1) (slC_.f (k + 1) a0 a1) := by
 intro a0 a1 k;unfold slC_.f
 repeat' first
   | (with_reducible exact slI_.mono _ _ _)
   | (with_reducible exact LeO.refl _)
   | (with_reducible exact LeO.none _)
   | (with_reducible refine LeO.ite ?_ ?_)
   | (with_reducible refine LeO.bind ?_ (fun _ => ?_))
theorem slC_.calls (k : Nat) (A0 : Option Addr) (c0 : Nat) (l0 : List ByteArray) (a1 : ByteArray) (r : Bool) (w : World) (hr0 : Kd.C Kd.string w A0 l0.length l0) (hc0 : l0.length ≤ c0) (h : slC_.f k l0 a1 = some r) :
  Calls Tryz.prog 29 #[.slice A0 l0.length c0, .string a1] w fun e w' => e = .returned (.bool r) ∧ Drawn0 w w' := by
 have HR0 := Am hr0;have HC0 := Am hc0;clear hr0 hc0;have H := h;clear h;unfold slC_.f at H;obtain ⟨t110, A3, H⟩ := bx H;replace H : (some (decide (t110 ≥ 0))) = some r := H;obtain rfl := si H;go_enter Tryz.func29, Tryz.ntmps29;go_wp2_with (first | ((with_reducible refine gate_callee (f := 48) rfl ?_); refine goL (some 7) Tryz.func48 #[.slice A0 l0.length c0, .string a1] ?_; (with_reducible refine (slI_.calls k _ _ l0 a1 t110 _ ?side1 HC0.out A3.out).mono ?_); (case side1 => exact Cd HR0.out); rintro e w' ⟨rfl, ⟨nd, rfl⟩⟩; refine ⟨_, rfl, ?_⟩));go_ret;exact ⟨Rs, Dw⟩

def kind_Figure.f (a0 : Int) : Option (Bool) := some (decide (((a0 - 48) % 256) < 10))
theorem kind_Figure.calls (a0 : Int) (r : Bool) (w : World) (h : kind_Figure.f a0 = some r) :
    Calls Tryz.prog 63 #[.int .u8 a0] w fun e w' => e = .returned (.bool r) ∧ Drawn0 w w' := by
  have H : (some (decide (((a0 - 48) % 256) < 10))) = some r := h
  clear h
  obtain rfl := Option.some.inj H
  go_enter Tryz.func63, Tryz.ntmps63
  go_wp2
  go_ret
  exact ⟨Rs, Dw⟩

def nmC (n : Int) : Bool := n == 45 || decide (48 ≤ n ∧ n ≤ 57) || decide (97 ≤ n ∧ n ≤ 122)
def nameB (s : ByteArray) : Bool := decide (1 ≤ s.size ∧ s.size ≤ 20) && decide (97 ≤ bt s 0 ∧ bt s 0 ≤ 122) && s.data.toList.all (fun c => nmC (c.toNat : Int))
def p_isName.f (a0 : ByteArray) : Option Bool := some (nameB a0)
theorem fig_yes {n : Int} (h : 48 ≤ n ∧ n ≤ 57) : kind_Figure.f n = some true := by
  unfold kind_Figure.f; congr 1; exact decide_eq_true (by omega)
theorem fig_no {n : Int} (h0 : 0 ≤ n) (h1 : n ≤ 255) (h : ¬ (48 ≤ n ∧ n ≤ 57)) : kind_Figure.f n = some false := by
  unfold kind_Figure.f; congr 1; exact decide_eq_false (by omega)
theorem nm_snoc {s : ByteArray} {k : Nat} {c : UInt8} (hc : s.data.toList[k]? = some c) {n : Int} (hn : n = (c.toNat : Int)) (h : (s.data.toList.take k).all (fun c => nmC (c.toNat : Int)) = true) (h1 : nmC n = true) : (s.data.toList.take (k + 1)).all (fun c => nmC (c.toNat : Int)) = true := by
  rw [List.take_add_one, hc, List.all_append, h]; subst hn; simp [h1]
theorem nm_no {s : ByteArray} {k : Nat} {c : UInt8} (hc : s.data.toList[k]? = some c) {n : Int} (hn : n = (c.toNat : Int)) (h1 : nmC n = false) : nameB s = false := by
  subst hn
  unfold nameB
  rw [Bool.and_eq_false_iff]
  right
  rw [List.all_eq_false]
  exact ⟨c, List.mem_of_getElem? hc, by simp [h1]⟩
theorem p_isName.calls (a0 : ByteArray) (r : Bool) (w : World) (h : p_isName.f a0 = some r) :
  Calls Tryz.prog 45 #[.string a0] w fun e w' => e = .returned (.bool r) ∧ Below w.heap.size w w' := by
 obtain rfl := Option.some.inj h;clear h;have hcv := fun W => Lib.run_convert_string_bytes (P := Tryz.prog) W 9 44 5 a0 Tryz.underlying9 Tryz.underlying44 Tryz.underlying5
 by_cases h0 : a0.size = 0
 ·have e0 : a0.toList.isEmpty = true := by rw [ByteArray.toList_eq, List.isEmpty_iff_length_eq_zero]; simpa using h0
  have hf : nameB a0 = false := by
   unfold nameB;rw [decide_eq_false (show ¬ (1 ≤ a0.size ∧ a0.size ≤ 20) by omega)]; rfl
  rw [hf];clear hcv hf h0;go_enter Tryz.func45, Tryz.ntmps45;go_wp2;go_ret;exact ⟨rfl, Below.refl _ _⟩
 have e0 : a0.toList.isEmpty = false := by rw [ByteArray.toList_eq, Bool.eq_false_iff, Ne, List.isEmpty_iff_length_eq_zero]; simpa using h0
 have hsz : 1 ≤ a0.size := by omega
 clear h0
 by_cases h20 : 20 < (a0.size : Int)
 ·have e1 : decide (20 < (a0.size : Int)) = true := decide_eq_true h20
  have hf : nameB a0 = false := by
   unfold nameB;rw [decide_eq_false (show ¬ (1 ≤ a0.size ∧ a0.size ≤ 20) by omega)]; rfl
  rw [hf];clear hf hcv;go_enter Tryz.func45, Tryz.ntmps45;go_wp2;go_ret;exact ⟨rfl, Below.refl _ _⟩
 have e1 : decide (20 < (a0.size : Int)) = false := decide_eq_false h20;have hx : ∀ h : 0 < a0.size, ((a0[0]'h).toNat : Int) = bt a0 0 := bt_at a0 0;have qi_ : (0 < (a0.size : Int)) = True := eq_true (by omega);have q_ : (0 < a0.size) = True := eq_true (by omega);have HZ := Am hsz
 by_cases ha : bt a0 0 < 97
 ·have ea : decide (bt a0 0 < 97) = true := decide_eq_true ha
  have hf : nameB a0 = false := by
   unfold nameB;rw [decide_eq_false (show ¬ (97 ≤ bt a0 0 ∧ bt a0 0 ≤ 122) by omega), Bool.and_false]; rfl
  rw [hf];clear hf hcv ha hsz h20;go_enter Tryz.func45, Tryz.ntmps45;go_wp2;go_ret;exact ⟨rfl, Below.refl _ _⟩
 have ea : decide (bt a0 0 < 97) = false := decide_eq_false ha
 by_cases hb : 122 < bt a0 0
 ·have eb : decide (122 < bt a0 0) = true := decide_eq_true hb
  have hf : nameB a0 = false := by
   unfold nameB;rw [decide_eq_false (show ¬ (97 ≤ bt a0 0 ∧ bt a0 0 ≤ 122) by omega), Bool.and_false]; rfl
  rw [hf];clear hf hcv ha hb hsz h20;go_enter Tryz.func45, Tryz.ntmps45;go_wp2;go_ret;exact ⟨rfl, Below.refl _ _⟩
 have eb : decide (122 < bt a0 0) = false := decide_eq_false hb
 have HF : Aside0 (nameB a0 = a0.data.toList.all (fun c => nmC (c.toNat : Int))) := ⟨by
  unfold nameB
  rw [decide_eq_true (show 1 ≤ a0.size ∧ a0.size ≤ 20 by omega), decide_eq_true (show 97 ≤ bt a0 0 ∧ bt a0 0 ≤ 122 by omega)]; rfl⟩
 have hl : a0.data.toList.length = a0.size := by simp
 have HL := Am hl;clear ha hb hl;go_enter Tryz.func45, Tryz.ntmps45;go_wp2
 go_loopw [25] (fun i wr => ∃ (k m : Nat), k ≤ a0.size ∧ i = .int .i64 k ∧ Aside0 ((a0.data.toList.take k).all (fun c => nmC (c.toNat : Int)) = true) ∧ wr = (Lib.bytesWorld w 5 a0).drewN m) (fun i _ => a0.size - (intOf i).toNat)
 case atStart => exact ⟨0, 0, Nat.zero_le _, rfl, ⟨rfl⟩, rfl⟩
 case round =>
  obtain ⟨k, m, hk, rfl, HA, rfl⟩ := hrel
  by_cases hlt : k < a0.size
  ·obtain ⟨c, hc⟩ : ∃ c, a0.data.toList[k]? = some c := ⟨_, List.getElem?_eq_getElem (by rw [HL.out]; exact hlt)⟩;have HC := Am hc;obtain ⟨n, hn⟩ : ∃ n : Int, n = (c.toNat : Int) := ⟨_, rfl⟩
   have hcell : (Lib.bytesWorld w 5 a0).cell? ⟨w.heap.size, k, none⟩ = some (.int .u8 n) := by
    have h := Lib.bytesWorld_cell w 5 a0 k hlt;rw [List.getD_eq_getElem?_getD, hc] at h;rw [h, hn]; rfl
   have HN := Am hn;have hn0 : 0 ≤ n := by omega
   have hn1 : n ≤ 255 := by have := c.toNat_lt; omega
   clear hn hc
   by_cases h45 : n = 45
   ·have b45 : (n != 45) = false := bne_eq_false_iff_eq.mpr h45;have H45 := Am h45;clear h45;go_wp2;go_roundw
    case rel => exact ⟨k + 1, m, by omega, by go_num, ⟨nm_snoc HC.out HN.out HA.out (by rw [H45.out]; rfl)⟩, by first | rfl | trivial⟩
    case measure => simp [intOf]; omega
   have b45 : (n != 45) = true := bne_iff_ne.mpr h45
   by_cases hfig : 48 ≤ n ∧ n ≤ 57
   ·have A := Am (fig_yes hfig);have HG := Am hfig;clear hfig h45;go_wp2_with (go_at_call 63; (with_reducible refine (kind_Figure.calls n true _ A.out).mono ?_); rintro e w' ⟨rfl, ⟨nd, rfl⟩⟩);go_roundw
    case rel => exact ⟨k + 1, _, by omega, by go_num, ⟨nm_snoc HC.out HN.out HA.out (by unfold nmC; rw [decide_eq_true HG.out]; simp)⟩, by first | rfl | exact World.drewN_drewN _ _ _⟩
    case measure => simp [intOf]; omega
   have A := Am (fig_no hn0 hn1 hfig);have HG := Am hfig;have H45 := Am h45;clear hfig h45
   by_cases hx1 : n < 97
   ·have b1 : decide (n < 97) = true := decide_eq_true hx1;have hf : nameB a0 = false := nm_no HC.out HN.out (by unfold nmC; rw [decide_eq_false HG.out, decide_eq_false (show ¬ (97 ≤ n ∧ n ≤ 122) by omega), beq_eq_false_iff_ne.mpr H45.out]; rfl);have HX := Am hf;clear hf hx1;go_wp2_with (go_at_call 63; (with_reducible refine (kind_Figure.calls n false _ A.out).mono ?_); rintro e w' ⟨rfl, ⟨nd, rfl⟩⟩);go_ret;exact ⟨by show Ending.returned (Value.bool false) = _; rw [HX.out], by first | exact pw_below_drewN (pw_below_drewN (bytes_below (Below.refl _ _) (Nat.le_refl _) 5 a0) _) _ | exact pw_below_drewN (bytes_below (Below.refl _ _) (Nat.le_refl _) 5 a0) _⟩
   have b1 : decide (n < 97) = false := decide_eq_false hx1
   by_cases hx2 : 122 < n
   ·have b2 : decide (122 < n) = true := decide_eq_true hx2;have hf : nameB a0 = false := nm_no HC.out HN.out (by unfold nmC; rw [decide_eq_false HG.out, decide_eq_false (show ¬ (97 ≤ n ∧ n ≤ 122) by omega), beq_eq_false_iff_ne.mpr H45.out]; rfl);have HX := Am hf;clear hf hx1 hx2;go_wp2_with (go_at_call 63; (with_reducible refine (kind_Figure.calls n false _ A.out).mono ?_); rintro e w' ⟨rfl, ⟨nd, rfl⟩⟩);go_ret;exact ⟨by show Ending.returned (Value.bool false) = _; rw [HX.out], by first | exact pw_below_drewN (pw_below_drewN (bytes_below (Below.refl _ _) (Nat.le_refl _) 5 a0) _) _ | exact pw_below_drewN (bytes_below (Below.refl _ _) (Nat.le_refl _) 5 a0) _⟩
   have b2 : decide (122 < n) = false := decide_eq_false hx2;have HG2 : Aside0 (97 ≤ n ∧ n ≤ 122) := ⟨by omega⟩;clear hx1 hx2;go_wp2_with (go_at_call 63; (with_reducible refine (kind_Figure.calls n false _ A.out).mono ?_); rintro e w' ⟨rfl, ⟨nd, rfl⟩⟩);go_roundw
   case rel => exact ⟨k + 1, _, by omega, by go_num, ⟨nm_snoc HC.out HN.out HA.out (by unfold nmC; rw [decide_eq_true HG2.out]; simp)⟩, by first | rfl | exact World.drewN_drewN _ _ _⟩
   case measure => simp [intOf]; omega
  obtain rfl : k = a0.size := by omega
  have HE : Aside0 (nameB a0 = true) := ⟨by rw [HF.out]; have := HA.out; rwa [List.take_of_length_le (by rw [HL.out]; omega)] at this⟩;go_wp2;go_ret;exact ⟨by show Ending.returned (Value.bool true) = _; rw [HE.out], pw_below_drewN (bytes_below (Below.refl _ _) (Nat.le_refl _) 5 a0) _⟩


def p_areNames.l0 : Nat → List ByteArray → List ByteArray → Int → Int → Option (Bool)
  | 0, _, _, _, _ => none
  | k + 1, x0, x5, x6, x7 => if x7 < x6 then (if 0 ≤ x7 then (if x7 < (x5.length : Int) then ((p_isName.f (rdOf ByteArray.empty x5 x7)).bind fun t112 => (if t112 = true then (if x7 ≤ (x0.length : Int) then ((slC_.f k (x0.take (x7 : Int).toNat) (rdOf ByteArray.empty x5 x7)).bind fun t114 => (if t114 = true then (some false) else (p_areNames.l0 k x0 x5 x6 (wrap64 (x7 + 1))))) else (none)) else (some false))) else (none)) else (none)) else (some true)
def p_areNames.f (k : Nat) (l0 : List ByteArray) : Option (Bool) := p_areNames.l0 k l0 l0 (l0.length : Int) 0
theorem p_areNames.mono_l : ∀ k, (∀ y0 y1 y2 y3, LeO (p_areNames.l0 k y0 y1 y2 y3) (p_areNames.l0 (k + 1) y0 y1 y2 y3))
 | 0 => fun _ _ _ _ r h => by simp [p_areNames.l0] at h
 | k + 1 => by
  have ih0 := p_areNames.mono_l k
  ·intro y0 y1 y2 y3
   unfold p_areNames.l0
   repeat' first
   | (with_reducible exact ih0 _ _ _ _)
   | (with_reducible exact slC_.mono _ _ _)
   | (with_reducible exact LeO.refl _)
   | (with_reducible exact LeO.none _)
   | (with_reducible refine LeO.ite ?_ ?_)
   | (with_reducible refine LeO.bind ?_ (fun _ => ?_))
theorem p_areNames.mono : ∀ a0 k, LeO (p_areNames.f k a0) (p_areNames.f (k + 1) a0) := by
 intro a0 k;have ih0 := p_areNames.mono_l k;unfold p_areNames.f
 repeat' first
   | (with_reducible exact ih0 _ _ _ _)
   | (with_reducible exact slC_.mono _ _ _)
   | (with_reducible exact LeO.refl _)
   | (with_reducible exact LeO.none _)
   | (with_reducible refine LeO.ite ?_ ?_)
   | (with_reducible refine LeO.bind ?_ (fun _ => ?_))
theorem p_areNames.calls (k : Nat) (A0 : Option Addr) (c0 : Nat) (l0 : List ByteArray) (r : Bool) (w : World) (hr0 : Kd.C Kd.string w A0 l0.length l0) (hc0 : l0.length ≤ c0) (h : p_areNames.f k l0 = some r) :
  Calls Tryz.prog 25 #[.slice A0 l0.length c0] w fun e w' => e = .returned (.bool r) ∧ Below w.heap.size w w' := by
 have HR0 := Am hr0;have HC0 := Am hc0;clear hr0 hc0;have HB := Am (Below.refl w.heap.size w);have H : (p_areNames.l0 k l0 l0 (l0.length : Int) 0) = some r := h;clear h;have H' := Am H;clear H;go_enter Tryz.func25, Tryz.ntmps25;go_wp2
 go_loopg [7] k (fun kq v7 w' => ∃ (x7_1 : Int), v7 = .int .i64 x7_1 ∧ Aside0 (p_areNames.l0 kq l0 l0 (l0.length : Int) x7_1 = some r) ∧ Aside0 (kq ≤ k) ∧ Aside0 (Below w.heap.size w w'))
 case atStart => exact ⟨(0), Rs, H', ⟨Nat.le_refl _⟩, ⟨Bw⟩⟩
 case round =>
  clear H';obtain ⟨x7_1, rfl, HA, HK1, HB⟩ := hrel
  cases gk with
  | zero => exact absurd HA.out (by simp [p_areNames.l0])
  | succ k1 =>
   have H := HA.out;clear HA;simp only [p_areNames.l0] at H
   by_cases c2 : x7_1 < (l0.length : Int)
   ·rw [if_pos c2] at H;have c2b0 : decide (x7_1 < (l0.length : Int)) = true := decide_eq_true c2;clear c2
    by_cases c3 : 0 ≤ x7_1
    ·rw [if_pos c3] at H;have c3b0 : decide (0 ≤ x7_1) = true := decide_eq_true c3;clear c3
     by_cases c4 : x7_1 < (l0.length : Int)
     ·rw [if_pos c4] at H;have c4b0 : decide (x7_1 < (l0.length : Int)) = true := decide_eq_true c4;clear c4;obtain ⟨t112, A5, H⟩ := bx H;(try dsimp -simprocs only at H)
      by_cases c6 : t112 = true
      ·subst c6;rw [if_pos rfl] at H;have c7b0 := eq_true (Od : 0 ≤ x7_1)
       by_cases c8 : x7_1 ≤ (l0.length : Int)
       ·rw [if_pos c8] at H;have c8b0 := eq_true c8;have c8b1 : decide (x7_1 ≤ (l0.length : Int)) = true := decide_eq_true c8;clear c8;obtain ⟨t114, A9, H⟩ := bx H;(try dsimp -simprocs only at H)
        by_cases c10 : t114 = true
        ·subst c10;rw [if_pos rfl] at H;obtain rfl := si H;have p111 : 0 ≤ (x7_1 : Int) := Od;have q111 : x7_1 < (l0.length : Int) := Od;obtain ⟨ad111, e111, hx111_0⟩ := Kd.at_string HR0.out x7_1 p111 q111;cases e111;replace hx111_0 := Hx hx111_0;replace p111 := eq_true p111;replace q111 := eq_true q111;obtain ⟨i012, hi012, _, hsz12, _⟩ := info_parts info9; obtain ⟨hcut12, hA12, hC12⟩ := print_take_of (P := Tryz.prog) Value.string (⟨#[]⟩ : ByteArray) 23 9 .i64 Tryz.underlying23 hi012 hsz12 (some ad111) c0 l0 x7_1 (Od) (Od) HC0.out; have HR113 := Am (Kd.C_of_reads (h1 := fun _ => rfl) (hA12 _ (Kd.reads_of_C HR0.out))); have HC113 := Am hC12; clear hA12 hC12 hi012 hsz12; generalize hs_ : l0.take (x7_1 : Int).toNat = s_ at hcut12 HR113 HC113 A9; clear hs_ c7b0 c8b0 c8b1;go_wp2_with (first | ((with_reducible refine gate_callee (f := 45) rfl ?_); refine goL (some 13) Tryz.func45 #[.string (rdOf ByteArray.empty l0 x7_1)] ?_; (with_reducible refine (p_isName.calls (rdOf ByteArray.empty l0 x7_1) true _ A5.out).mono ?_); rintro e w11 ⟨rfl, hb⟩; refine ⟨_, rfl, ?_⟩; replace HB := Bs hb; clear hb) | (go_at_call 29; (with_reducible refine (slC_.calls k1 _ _ s_ (rdOf ByteArray.empty l0 x7_1) true _ ?side1 HC113.out A9.out).mono ?_); (case side1 => exact Cs HR113); rintro e w' ⟨rfl, ⟨nd, rfl⟩⟩));go_ret;exact ⟨Re, Bw⟩
        replace c10 := bf c10;subst c10;rw [if_neg (show ¬ (false = true) by decide)] at H;have H' := Am H;clear H;have p111 : 0 ≤ (x7_1 : Int) := Od;have q111 : x7_1 < (l0.length : Int) := Od;obtain ⟨ad111, e111, hx111_0⟩ := Kd.at_string HR0.out x7_1 p111 q111;cases e111;replace hx111_0 := Hx hx111_0;replace p111 := eq_true p111;replace q111 := eq_true q111;obtain ⟨i014, hi014, _, hsz14, _⟩ := info_parts info9; obtain ⟨hcut14, hA14, hC14⟩ := print_take_of (P := Tryz.prog) Value.string (⟨#[]⟩ : ByteArray) 23 9 .i64 Tryz.underlying23 hi014 hsz14 (some ad111) c0 l0 x7_1 (Od) (Od) HC0.out; have HR113 := Am (Kd.C_of_reads (h1 := fun _ => rfl) (hA14 _ (Kd.reads_of_C HR0.out))); have HC113 := Am hC14; clear hA14 hC14 hi014 hsz14; generalize hs_ : l0.take (x7_1 : Int).toNat = s_ at hcut14 HR113 HC113 A9; clear hs_ c7b0 c8b0 c8b1;go_wp2_with (first | ((with_reducible refine gate_callee (f := 45) rfl ?_); refine goL (some 13) Tryz.func45 #[.string (rdOf ByteArray.empty l0 x7_1)] ?_; (with_reducible refine (p_isName.calls (rdOf ByteArray.empty l0 x7_1) true _ A5.out).mono ?_); rintro e w13 ⟨rfl, hb⟩; refine ⟨_, rfl, ?_⟩; replace HB := Bs hb; clear hb) | (go_at_call 29; (with_reducible refine (slC_.calls k1 _ _ s_ (rdOf ByteArray.empty l0 x7_1) false _ ?side1 HC113.out A9.out).mono ?_); (case side1 => exact Cs HR113); rintro e w' ⟨rfl, ⟨nd, rfl⟩⟩));go_roundg k1
        case measure => have := HK1.out; omega
        case rel => exact ⟨(wrap64 (x7_1 + 1)), Rs, H', ⟨by have := HK1.out; omega⟩, ⟨Bw⟩⟩
       rw [if_neg c8] at H;exact absurd H (by simp)
      replace c6 := bf c6;subst c6;rw [if_neg (show ¬ (false = true) by decide)] at H;obtain rfl := si H;have p111 : 0 ≤ (x7_1 : Int) := Od;have q111 : x7_1 < (l0.length : Int) := Od;obtain ⟨ad111, e111, hx111_0⟩ := Kd.at_string HR0.out x7_1 p111 q111;cases e111;replace hx111_0 := Hx hx111_0;replace p111 := eq_true p111;replace q111 := eq_true q111;go_wp2_with (first | ((with_reducible refine gate_callee (f := 45) rfl ?_); refine goL (some 13) Tryz.func45 #[.string (rdOf ByteArray.empty l0 x7_1)] ?_; (with_reducible refine (p_isName.calls (rdOf ByteArray.empty l0 x7_1) false _ A5.out).mono ?_); rintro e w15 ⟨rfl, hb⟩; refine ⟨_, rfl, ?_⟩; replace HB := Bs hb; clear hb));go_ret;exact ⟨Re, Bw⟩
     rw [if_neg c4] at H;exact absurd H (by simp)
    rw [if_neg c3] at H;exact absurd H (by simp)
   rw [if_neg c2] at H;have c2b0 : decide (x7_1 < (l0.length : Int)) = false := decide_eq_false c2;clear c2;obtain rfl := si H;go_wp2;go_ret;exact ⟨Re, Bw⟩

def p_runs.f (a0 : ByteArray) : Option (Bool) := if a0.toList = ([100, 97, 116, 97] : List UInt8) then (some true) else (if a0.toList = ([106, 97, 118, 97, 115, 99, 114, 105, 112, 116] : List UInt8) then (some true) else (some (a0.toList == ([118, 98, 115, 99, 114, 105, 112, 116] : List UInt8))))
theorem p_runs.calls (a0 : ByteArray) (r : Bool) (w : World) (h : p_runs.f a0 = some r) :
  Calls Tryz.prog 27 #[.string a0] w fun e w' => e = .returned (.bool r) ∧ Drawn0 w w' := by
 have H := h;clear h;unfold p_runs.f at H
 by_cases c2 : a0.toList = ([100, 97, 116, 97] : List UInt8)
 ·rw [if_pos c2] at H;have c2b0 : (a0.toList == ([100, 97, 116, 97] : List UInt8)) = true := beq_iff_eq.mpr c2;have c2b1 : (a0.toList != ([100, 97, 116, 97] : List UInt8)) = false := bne_eq_false_iff_eq.mpr c2;clear c2;obtain rfl := si H;go_enter Tryz.func27, Tryz.ntmps27;go_wp2;go_ret;exact ⟨Rs, Dw⟩
 rw [if_neg c2] at H;have c2b0 : (a0.toList == ([100, 97, 116, 97] : List UInt8)) = false := beq_eq_false_iff_ne.mpr c2;have c2b1 : (a0.toList != ([100, 97, 116, 97] : List UInt8)) = true := bne_iff_ne.mpr c2
 by_cases c3 : a0.toList = ([106, 97, 118, 97, 115, 99, 114, 105, 112, 116] : List UInt8)
 ·rw [if_pos c3] at H;have c3b0 : (a0.toList == ([106, 97, 118, 97, 115, 99, 114, 105, 112, 116] : List UInt8)) = true := beq_iff_eq.mpr c3;have c3b1 : (a0.toList != ([106, 97, 118, 97, 115, 99, 114, 105, 112, 116] : List UInt8)) = false := bne_eq_false_iff_eq.mpr c3;clear c3;obtain rfl := si H;go_enter Tryz.func27, Tryz.ntmps27;go_wp2;go_ret;exact ⟨Rs, Dw⟩
 rw [if_neg c3] at H;have c3b0 : (a0.toList == ([106, 97, 118, 97, 115, 99, 114, 105, 112, 116] : List UInt8)) = false := beq_eq_false_iff_ne.mpr c3;have c3b1 : (a0.toList != ([106, 97, 118, 97, 115, 99, 114, 105, 112, 116] : List UInt8)) = true := bne_iff_ne.mpr c3;obtain rfl := si H;go_enter Tryz.func27, Tryz.ntmps27;go_wp2;go_ret;exact ⟨Rs, Dw⟩

def stringslite_HasPrefix.f (a0 : ByteArray) (a1 : ByteArray) : Option (Bool) := if (a0.size : Int) ≥ (a1.size : Int) then (if 0 ≤ (a1.size : Int) then (if (a1.size : Int) ≤ (a0.size : Int) then (some ((a0.extract 0 ((a1.size : Int) : Int).toNat).toList == a1.toList)) else (none)) else (none)) else (some false)
theorem stringslite_HasPrefix.calls (a0 : ByteArray) (a1 : ByteArray) (r : Bool) (w : World) (h : stringslite_HasPrefix.f a0 a1 = some r) :
  Calls Tryz.prog 74 #[.string a0, .string a1] w fun e w' => e = .returned (.bool r) ∧ Drawn0 w w' := by
 have H := h;clear h;unfold stringslite_HasPrefix.f at H
 by_cases c3 : (a0.size : Int) ≥ (a1.size : Int)
 ·rw [if_pos c3] at H;have c3b0 : decide ((a1.size : Int) ≤ (a0.size : Int)) = true := decide_eq_true c3;have c3b1 : decide (a1.size ≤ a0.size) = true := decide_eq_true (Int.ofNat_le.mp c3);clear c3
  by_cases c4 : 0 ≤ (a1.size : Int)
  ·rw [if_pos c4] at H;have c4b0 := eq_true c4;have c4b1 : decide (0 ≤ (a1.size : Int)) = true := decide_eq_true c4;clear c4
   by_cases c5 : (a1.size : Int) ≤ (a0.size : Int)
   ·rw [if_pos c5] at H;have c5b0 := eq_true c5;have c5b1 : decide ((a1.size : Int) ≤ (a0.size : Int)) = true := decide_eq_true c5;clear c5;obtain rfl := si H;go_enter Tryz.func74, Tryz.ntmps74;go_wp2;go_ret;exact ⟨Rs, Dw⟩
   rw [if_neg c5] at H;exact absurd H (by simp)
  rw [if_neg c4] at H;exact absurd H (by simp)
 rw [if_neg c3] at H;have c3b0 : decide ((a1.size : Int) ≤ (a0.size : Int)) = false := decide_eq_false c3;have c3b1 : decide (a1.size ≤ a0.size) = false := decide_eq_false (fun h => c3 (Int.ofNat_le.mpr h));clear c3;obtain rfl := si H;go_enter Tryz.func74, Tryz.ntmps74;go_wp2;go_ret;exact ⟨Rs, Dw⟩

def strings_HasPrefix.f (a0 : ByteArray) (a1 : ByteArray) : Option (Bool) := (stringslite_HasPrefix.f a0 a1).bind fun t115 => (some t115)
theorem strings_HasPrefix.calls (a0 : ByteArray) (a1 : ByteArray) (r : Bool) (w : World) (h : strings_HasPrefix.f a0 a1 = some r) :
  Calls Tryz.prog 49 #[.string a0, .string a1] w fun e w' => e = .returned (.bool r) ∧ Drawn0 w w' := by
 have H := h;clear h;unfold strings_HasPrefix.f at H;obtain ⟨t115, A3, H⟩ := bx H;replace H : (some t115) = some r := H;obtain rfl := si H;go_enter Tryz.func49, Tryz.ntmps49;go_wp2_with (first | ((with_reducible refine gate_callee (f := 74) rfl ?_); refine goL (some 7) Tryz.func74 #[.string a0, .string a1] ?_; (with_reducible refine (stringslite_HasPrefix.calls a0 a1 t115 _ A3.out).mono ?_); rintro e w' ⟨rfl, ⟨nd, rfl⟩⟩; refine ⟨_, rfl, ?_⟩));go_ret;exact ⟨Rs, Dw⟩

def p_acts.f (a0 : ByteArray) : Option (Bool) := (strings_HasPrefix.f a0 (⟨#[111, 110]⟩ : ByteArray)).bind fun t116 => (if t116 = true then (some true) else (if a0.toList = ([115, 116, 121, 108, 101] : List UInt8) then (some true) else (some (a0.toList == ([115, 114, 99, 100, 111, 99] : List UInt8)))))
theorem p_acts.calls (a0 : ByteArray) (r : Bool) (w : World) (h : p_acts.f a0 = some r) :
  Calls Tryz.prog 30 #[.string a0] w fun e w' => e = .returned (.bool r) ∧ Drawn0 w w' := by
 have H := h;clear h;unfold p_acts.f at H;obtain ⟨t116, A2, H⟩ := bx H;(try dsimp -simprocs only at H)
 by_cases c3 : t116 = true
 ·subst c3;rw [if_pos rfl] at H;obtain rfl := si H;go_enter Tryz.func30, Tryz.ntmps30;go_wp2_with (first | ((with_reducible refine gate_callee (f := 49) rfl ?_); refine goL (some 4) Tryz.func49 #[.string a0, .string (⟨#[111, 110]⟩ : ByteArray)] ?_; (with_reducible refine (strings_HasPrefix.calls a0 (⟨#[111, 110]⟩ : ByteArray) true _ A2.out).mono ?_); rintro e w' ⟨rfl, ⟨nd, rfl⟩⟩; refine ⟨_, rfl, ?_⟩));go_ret;exact ⟨Rs, Dw⟩
 replace c3 := bf c3;subst c3;rw [if_neg (show ¬ (false = true) by decide)] at H
 by_cases c4 : a0.toList = ([115, 116, 121, 108, 101] : List UInt8)
 ·rw [if_pos c4] at H;have c4b0 : (a0.toList == ([115, 116, 121, 108, 101] : List UInt8)) = true := beq_iff_eq.mpr c4;have c4b1 : (a0.toList != ([115, 116, 121, 108, 101] : List UInt8)) = false := bne_eq_false_iff_eq.mpr c4;clear c4;obtain rfl := si H;go_enter Tryz.func30, Tryz.ntmps30;go_wp2_with (first | ((with_reducible refine gate_callee (f := 49) rfl ?_); refine goL (some 4) Tryz.func49 #[.string a0, .string (⟨#[111, 110]⟩ : ByteArray)] ?_; (with_reducible refine (strings_HasPrefix.calls a0 (⟨#[111, 110]⟩ : ByteArray) false _ A2.out).mono ?_); rintro e w' ⟨rfl, ⟨nd, rfl⟩⟩; refine ⟨_, rfl, ?_⟩));go_ret;exact ⟨Rs, Dw⟩
 rw [if_neg c4] at H;have c4b0 : (a0.toList == ([115, 116, 121, 108, 101] : List UInt8)) = false := beq_eq_false_iff_ne.mpr c4;have c4b1 : (a0.toList != ([115, 116, 121, 108, 101] : List UInt8)) = true := bne_iff_ne.mpr c4;obtain rfl := si H;go_enter Tryz.func30, Tryz.ntmps30;go_wp2_with (first | ((with_reducible refine gate_callee (f := 49) rfl ?_); refine goL (some 4) Tryz.func49 #[.string a0, .string (⟨#[111, 110]⟩ : ByteArray)] ?_; (with_reducible refine (strings_HasPrefix.calls a0 (⟨#[111, 110]⟩ : ByteArray) false _ A2.out).mono ?_); rintro e w' ⟨rfl, ⟨nd, rfl⟩⟩; refine ⟨_, rfl, ?_⟩));go_ret;exact ⟨Rs, Dw⟩

def runsB (s : ByteArray) : Bool := s.toList == [100, 97, 116, 97] || s.toList == [106, 97, 118, 97, 115, 99, 114, 105, 112, 116] || s.toList == [118, 98, 115, 99, 114, 105, 112, 116]
def actsB (s : ByteArray) : Bool := s.toList.take 2 == [111, 110] || s.toList == [115, 116, 121, 108, 101] || s.toList == [115, 114, 99, 100, 111, 99]
theorem runs_is (s : ByteArray) : p_runs.f s = some (runsB s) := by
  unfold p_runs.f runsB
  split
  · next h => rw [h]; rfl
  · next h1 =>
    split
    · next h => rw [h]; rfl
    · next h2 => rw [beq_eq_false_iff_ne.mpr h1, beq_eq_false_iff_ne.mpr h2]; rfl
theorem pre_is (s : ByteArray) : strings_HasPrefix.f s ⟨#[111, 110]⟩ = some (s.toList.take 2 == [111, 110]) := by
 unfold strings_HasPrefix.f stringslite_HasPrefix.f;have e2 : ((⟨#[111, 110]⟩ : ByteArray).size : Int) = 2 := rfl;have el : (⟨#[111, 110]⟩ : ByteArray).toList = [111, 110] := by rw [ByteArray.toList_eq]
 have hl : s.toList.length = s.size := by rw [ByteArray.toList_eq]; simp
 rw [e2]
 by_cases h : (s.size : Int) ≥ 2
 ·rw [if_pos h, if_pos (by omega), if_pos (by omega), el]
  have : (s.extract 0 (2 : Int).toNat).toList = s.toList.take 2 := by
   rw [ByteArray.toList_eq, ByteArray.toList_eq, ByteArray.data_extract, Array.toList_extract];rfl
  rw [this]; rfl
 rw [if_neg h];show some false = _
 congr 1
 symm
 rw [beq_eq_false_iff_ne];intro he;have := congrArg List.length he;rw [List.length_take, hl] at this
 simp at this
 omega
theorem acts_is (s : ByteArray) : p_acts.f s = some (actsB s) := by
  unfold p_acts.f actsB
  rw [pre_is]
  show (if (s.toList.take 2 == [111, 110]) = true then _ else _) = _
  split
  · next h => rw [h]; rfl
  · next h0 =>
    rw [Bool.eq_false_iff.mpr h0]
    split
    · next h => rw [h]; rfl
    · next h1 => rw [beq_eq_false_iff_ne.mpr h1]; rfl
theorem any_snoc {α : Type} {p : α → Bool} {l : List α} {k : Nat} {x : α} (hc : l[k]? = some x) (h : (l.take k).any p = false) (h1 : p x = false) : (l.take (k + 1)).any p = false := by
  rw [List.take_add_one, hc, List.any_append, h]; simp [h1]
theorem any_hit {α : Type} {p : α → Bool} {l : List α} {k : Nat} {x : α} (hc : l[k]? = some x) (h1 : p x = true) : l.any p = true := List.any_eq_true.mpr ⟨x, List.mem_of_getElem? hc, h1⟩
theorem rd_get? {l : List ByteArray} {k : Nat} (h : k < l.length) : l[k]? = some (rdOf ByteArray.empty l (k : Int)) := by
  simp [rdOf, h]

theorem ix_runs (A : Option Addr) (c : Nat) (l : List ByteArray) (w : World) (hr : Kd.C Kd.string w A l.length l) (hc : l.length ≤ c) (hn : l.length ≤ 1000) :
  Calls Tryz.prog 46 #[.slice A l.length c, .func (.func 27) #[] #[]] w fun e w' => (∃ i : Int, e = .returned (.int .i64 i) ∧ decide (0 ≤ i) = l.any runsB) ∧ Drawn0 w w' := by
 have HR0 := Am hr;have HC0 := Am hc;clear hr hc;go_enter Tryz.func46, Tryz.ntmps46;go_wp2
 go_loopw [8] (fun i wr => ∃ (j m : Nat), j ≤ l.length ∧ i = .int .i64 j ∧ Aside0 ((l.take j).any runsB = false) ∧ wr = w.drewN m) (fun i _ => l.length - (intOf i).toNat)
 case atStart => exact ⟨0, 0, Nat.zero_le _, rfl, ⟨rfl⟩, rfl⟩
 case round =>
  obtain ⟨j, m, hj, rfl, HA, rfl⟩ := hrel
  by_cases hlt : j < l.length
  ·obtain ⟨ad, e_, hx⟩ := Kd.at_string HR0.out (j : Int) (by omega) (by omega);cases e_;rw [show ((j : Int)).toNat = j from rfl] at hx;have q_ : ((j : Int) < (l.length : Int)) = True := eq_true (by omega);have HG := Am (rd_get? hlt);generalize rdOf ByteArray.empty l (j : Int) = x at hx HG
   cases hb : runsB x with
   | true =>
    have A1 := Am (show p_runs.f x = some true by rw [runs_is, hb]);have HB := Am hb;clear hb;go_wp2_with (go_at_call 27; (with_reducible refine (p_runs.calls x true _ A1.out).mono ?_); rintro e w' ⟨rfl, ⟨nd, rfl⟩⟩);go_ret;exact ⟨⟨(j : Int), rfl, by rw [any_hit HG.out HB.out]; exact decide_eq_true (by omega)⟩, by repeat (first | exact Drawn0.refl _ | apply Drawn0.step)⟩
   | false =>
    have A1 := Am (show p_runs.f x = some false by rw [runs_is, hb]);have HB := Am hb;clear hb;go_wp2_with (go_at_call 27; (with_reducible refine (p_runs.calls x false _ A1.out).mono ?_); rintro e w' ⟨rfl, ⟨nd, rfl⟩⟩);go_roundw
    case rel => exact ⟨j + 1, _, by omega, by go_num, ⟨any_snoc HG.out HA.out HB.out⟩, by first | rfl | exact World.drewN_drewN _ _ _⟩
    case measure => simp [intOf]; omega
  obtain rfl : j = l.length := by omega
  have HE := Am (show l.any runsB = false by have := HA.out; rwa [List.take_of_length_le (Nat.le_refl _)] at this);go_wp2;go_ret;exact ⟨⟨-1, rfl, by rw [HE.out]; rfl⟩, by repeat (first | exact Drawn0.refl _ | apply Drawn0.step)⟩
def cf_runs.f (l : List ByteArray) : Option Bool := if l.length ≤ 1000 then some (l.any runsB) else none
theorem cf_runs.calls (A : Option Addr) (c : Nat) (l : List ByteArray) (r : Bool) (w : World) (hr : Kd.C Kd.string w A l.length l) (hc : l.length ≤ c) (h : cf_runs.f l = some r) :
  Calls Tryz.prog 26 #[.slice A l.length c, .func (.func 27) #[] #[]] w fun e w' => e = .returned (.bool r) ∧ Drawn0 w w' := by
 have HR0 := Am hr;have HC0 := Am hc
 obtain ⟨hn, HH⟩ : l.length ≤ 1000 ∧ Aside0 (l.any runsB = r) := by
  unfold cf_runs.f at h
  split at h
  ·next hn => exact ⟨hn, ⟨by simpa using h⟩⟩
  simp at h
 clear hr hc h;go_enter Tryz.func26, Tryz.ntmps26;go_wp2_with (go_at_call 46; (with_reducible refine (ix_runs A c l _ ?s1 HC0.out hn).mono ?_); (case s1 => repeat (first | exact HR0.out | (with_reducible refine Kd.C_drewN ?_ _) | (with_reducible refine Kd.C_drew ?_))); rintro e w' ⟨⟨i, rfl, hi⟩, ⟨nd, rfl⟩⟩; have HI := Am hi; clear hi);go_ret;exact ⟨by show Ending.returned (Value.bool (decide (0 ≤ i))) = _; rw [HI.out, HH.out], by repeat (first | exact Drawn0.refl _ | apply Drawn0.step)⟩

theorem ix_acts (A : Option Addr) (c : Nat) (l : List ByteArray) (w : World) (hr : Kd.C Kd.string w A l.length l) (hc : l.length ≤ c) (hn : l.length ≤ 1000) :
  Calls Tryz.prog 46 #[.slice A l.length c, .func (.func 30) #[] #[]] w fun e w' => (∃ i : Int, e = .returned (.int .i64 i) ∧ decide (0 ≤ i) = l.any actsB) ∧ Drawn0 w w' := by
 have HR0 := Am hr;have HC0 := Am hc;clear hr hc;go_enter Tryz.func46, Tryz.ntmps46;go_wp2
 go_loopw [8] (fun i wr => ∃ (j m : Nat), j ≤ l.length ∧ i = .int .i64 j ∧ Aside0 ((l.take j).any actsB = false) ∧ wr = w.drewN m) (fun i _ => l.length - (intOf i).toNat)
 case atStart => exact ⟨0, 0, Nat.zero_le _, rfl, ⟨rfl⟩, rfl⟩
 case round =>
  obtain ⟨j, m, hj, rfl, HA, rfl⟩ := hrel
  by_cases hlt : j < l.length
  ·obtain ⟨ad, e_, hx⟩ := Kd.at_string HR0.out (j : Int) (by omega) (by omega);cases e_;rw [show ((j : Int)).toNat = j from rfl] at hx;have q_ : ((j : Int) < (l.length : Int)) = True := eq_true (by omega);have HG := Am (rd_get? hlt);generalize rdOf ByteArray.empty l (j : Int) = x at hx HG
   cases hb : actsB x with
   | true =>
    have A1 := Am (show p_acts.f x = some true by rw [acts_is, hb]);have HB := Am hb;clear hb;go_wp2_with (go_at_call 30; (with_reducible refine (p_acts.calls x true _ A1.out).mono ?_); rintro e w' ⟨rfl, ⟨nd, rfl⟩⟩);go_ret;exact ⟨⟨(j : Int), rfl, by rw [any_hit HG.out HB.out]; exact decide_eq_true (by omega)⟩, by repeat (first | exact Drawn0.refl _ | apply Drawn0.step)⟩
   | false =>
    have A1 := Am (show p_acts.f x = some false by rw [acts_is, hb]);have HB := Am hb;clear hb;go_wp2_with (go_at_call 30; (with_reducible refine (p_acts.calls x false _ A1.out).mono ?_); rintro e w' ⟨rfl, ⟨nd, rfl⟩⟩);go_roundw
    case rel => exact ⟨j + 1, _, by omega, by go_num, ⟨any_snoc HG.out HA.out HB.out⟩, by first | rfl | exact World.drewN_drewN _ _ _⟩
    case measure => simp [intOf]; omega
  obtain rfl : j = l.length := by omega
  have HE := Am (show l.any actsB = false by have := HA.out; rwa [List.take_of_length_le (Nat.le_refl _)] at this);go_wp2;go_ret;exact ⟨⟨-1, rfl, by rw [HE.out]; rfl⟩, by repeat (first | exact Drawn0.refl _ | apply Drawn0.step)⟩
def cf_acts.f (l : List ByteArray) : Option Bool := if l.length ≤ 1000 then some (l.any actsB) else none
theorem cf_acts.calls (A : Option Addr) (c : Nat) (l : List ByteArray) (r : Bool) (w : World) (hr : Kd.C Kd.string w A l.length l) (hc : l.length ≤ c) (h : cf_acts.f l = some r) :
  Calls Tryz.prog 26 #[.slice A l.length c, .func (.func 30) #[] #[]] w fun e w' => e = .returned (.bool r) ∧ Drawn0 w w' := by
 have HR0 := Am hr;have HC0 := Am hc
 obtain ⟨hn, HH⟩ : l.length ≤ 1000 ∧ Aside0 (l.any actsB = r) := by
  unfold cf_acts.f at h
  split at h
  ·next hn => exact ⟨hn, ⟨by simpa using h⟩⟩
  simp at h
 clear hr hc h;go_enter Tryz.func26, Tryz.ntmps26;go_wp2_with (go_at_call 46; (with_reducible refine (ix_acts A c l _ ?s1 HC0.out hn).mono ?_); (case s1 => repeat (first | exact HR0.out | (with_reducible refine Kd.C_drewN ?_ _) | (with_reducible refine Kd.C_drew ?_))); rintro e w' ⟨⟨i, rfl, hi⟩, ⟨nd, rfl⟩⟩; have HI := Am hi; clear hi);go_ret;exact ⟨by show Ending.returned (Value.bool (decide (0 ≤ i))) = _; rw [HI.out, HH.out], by repeat (first | exact Drawn0.refl _ | apply Drawn0.step)⟩


def kind_among.l0 : Nat → ByteArray → List ByteArray → Int → Int → Option (Bool)
  | 0, _, _, _, _ => none
  | k + 1, x0, x7, x8, x9 => if x9 < x8 then (if 0 ≤ x9 then (if x9 < (x7.length : Int) then (if (rdOf ByteArray.empty x7 x9).toList = x0.toList then (some true) else (kind_among.l0 k x0 x7 x8 (wrap64 (x9 + 1)))) else (none)) else (none)) else (some false)
def kind_among.f (k : Nat) (a0 : ByteArray) (l1 : List ByteArray) : Option (Bool) := kind_among.l0 k a0 l1 (l1.length : Int) 0
theorem kind_among.mono_l : ∀ k, (∀ y0 y1 y2 y3, LeO (kind_among.l0 k y0 y1 y2 y3) (kind_among.l0 (k + 1) y0 y1 y2 y3))
 | 0 => fun _ _ _ _ r h => by simp [kind_among.l0] at h
 | k + 1 => by
  have ih0 := kind_among.mono_l k
  ·intro y0 y1 y2 y3
   unfold kind_among.l0
   repeat' first
   | (with_reducible exact ih0 _ _ _ _)
   | (with_reducible exact LeO.refl _)
   | (with_reducible exact LeO.none _)
   | (with_reducible refine LeO.ite ?_ ?_)
   | (with_reducible refine LeO.bind ?_ (fun _ => ?_))
theorem kind_among.mono : ∀ a0 a1 k, LeO (kind_among.f k a0 a1) (kind_among.f (k + 1) a0 a1) := by
 intro a0 a1 k;have ih0 := kind_among.mono_l k;unfold kind_among.f
 repeat' first
   | (with_reducible exact ih0 _ _ _ _)
   | (with_reducible exact LeO.refl _)
   | (with_reducible exact LeO.none _)
   | (with_reducible refine LeO.ite ?_ ?_)
   | (with_reducible refine LeO.bind ?_ (fun _ => ?_))
theorem kind_among.calls (k : Nat) (a0 : ByteArray) (A1 : Option Addr) (c1 : Nat) (l1 : List ByteArray) (r : Bool) (w : World) (hr1 : Kd.C Kd.string w A1 l1.length l1) (hc1 : l1.length ≤ c1) (h : kind_among.f k a0 l1 = some r) :
  Calls Tryz.prog 68 #[.string a0, .slice A1 l1.length c1] w fun e w' => e = .returned (.bool r) ∧ Drawn0 w w' := by
 have HR1 := Am hr1;have HC1 := Am hc1;clear hr1 hc1;have H : (kind_among.l0 k a0 l1 (l1.length : Int) 0) = some r := h;clear h;have H' := Am H;clear H;go_enter Tryz.func68, Tryz.ntmps68;go_wp2
 go_loopg [9] k (fun kq v9 w' => ∃ (x9_1 : Int), v9 = .int .i64 x9_1 ∧ Aside0 (kind_among.l0 kq a0 l1 (l1.length : Int) x9_1 = some r) ∧ Aside0 (kq ≤ k) ∧ Drawn0 w w')
 case atStart => exact ⟨(0), Rs, H', ⟨Nat.le_refl _⟩, by repeat (first | exact Drawn0.refl _ | apply Drawn0.step)⟩
 case round =>
  clear H';(try clear c1);(try clear p2);obtain ⟨x9_1, rfl, HA, HK1, ⟨m1, rfl⟩⟩ := hrel
  cases gk with
  | zero => exact absurd HA.out (by simp [kind_among.l0])
  | succ k1 =>
   have H := HA.out;clear HA;simp only [kind_among.l0] at H
   by_cases c3 : x9_1 < (l1.length : Int)
   ·rw [if_pos c3] at H;have c3b0 := decide_eq_true c3;clear c3
    by_cases c4 : 0 ≤ x9_1
    ·rw [if_pos c4] at H;have c4b0 := decide_eq_true c4;clear c4
     by_cases c5 : x9_1 < (l1.length : Int)
     ·rw [if_pos c5] at H;have c5b0 := decide_eq_true c5;clear c5
      by_cases c6 : (rdOf ByteArray.empty l1 x9_1).toList = a0.toList
      ·rw [if_pos c6] at H;obtain ⟨c6b0, c6b1⟩ := eqb c6;clear c6;obtain rfl := si H;have p117 : 0 ≤ (x9_1 : Int) := Od;have q117 : x9_1 < (l1.length : Int) := Od;obtain ⟨ad117, e117, hx117_0⟩ := Kd.at_string HR1.out x9_1 p117 q117;cases e117;replace p117 := eq_true p117;replace q117 := eq_true q117;go_wp2;go_ret;exact ⟨Rs, Dw⟩
      rw [if_neg c6] at H;obtain ⟨c6b0, c6b1⟩ := neb c6;have H' := Am H;clear H;have p117 : 0 ≤ (x9_1 : Int) := Od;have q117 : x9_1 < (l1.length : Int) := Od;obtain ⟨ad117, e117, hx117_0⟩ := Kd.at_string HR1.out x9_1 p117 q117;cases e117;replace p117 := eq_true p117;replace q117 := eq_true q117;go_wp2;go_roundg k1
      case measure => have := HK1.out; omega
      case rel => exact ⟨(wrap64 (x9_1 + 1)), Rs, H', ⟨by have := HK1.out; omega⟩, by repeat (first | exact Drawn0.refl _ | apply Drawn0.step)⟩
     rw [if_neg c5] at H;exact absurd H (by simp)
    rw [if_neg c4] at H;exact absurd H (by simp)
   rw [if_neg c3] at H;have c3b0 := decide_eq_false c3;clear c3;obtain rfl := si H;go_wp2;go_ret;exact ⟨Rs, Dw⟩

def kind_raw.f (k : Nat) (a0 : ByteArray) : Option (Bool) := (kind_among.f k a0 (([(⟨#[105, 102, 114, 97, 109, 101]⟩ : ByteArray), (⟨#[110, 111, 101, 109, 98, 101, 100]⟩ : ByteArray), (⟨#[110, 111, 102, 114, 97, 109, 101, 115]⟩ : ByteArray), (⟨#[115, 99, 114, 105, 112, 116]⟩ : ByteArray), (⟨#[115, 116, 121, 108, 101]⟩ : ByteArray), (⟨#[120, 109, 112]⟩ : ByteArray)] : List ByteArray))).bind fun t121 => (some t121)
theorem kind_raw.mono : ∀ a0 k, LeO (kind_raw.f k a0) (kind_raw.f (k + 1) a0) := by
  intro a0 k
  unfold kind_raw.f
  repeat' first
      | (with_reducible exact kind_among.mono _ _ _)
      | (with_reducible exact LeO.refl _)
      | (with_reducible exact LeO.none _)
      | (with_reducible refine LeO.ite ?_ ?_)
      | (with_reducible refine LeO.bind ?_ (fun _ => ?_))
theorem kind_raw.calls (k : Nat) (a0 : ByteArray) (r : Bool) (w : World) (h : kind_raw.f k a0 = some r) :
  Calls Tryz.prog 65 #[.string a0] w fun e w' => e = .returned (.bool r) ∧ Below w.heap.size w w' := by
 have HB := Am (Below.refl w.heap.size w);have H := h;clear h;unfold kind_raw.f at H;obtain ⟨y118, hy118⟩ : ∃ y_ : List ByteArray, y_ = (([(⟨#[105, 102, 114, 97, 109, 101]⟩ : ByteArray), (⟨#[110, 111, 101, 109, 98, 101, 100]⟩ : ByteArray), (⟨#[110, 111, 102, 114, 97, 109, 101, 115]⟩ : ByteArray), (⟨#[115, 99, 114, 105, 112, 116]⟩ : ByteArray), (⟨#[115, 116, 121, 108, 101]⟩ : ByteArray), (⟨#[120, 109, 112]⟩ : ByteArray)] : List ByteArray)) := ⟨_, rfl⟩;replace H : ((kind_among.f k a0 y118).bind fun t121 => (some t121)) = some r := by first | (rw [hy118]; with_reducible exact H) | (have H2_ := (Option.bind_some _ _).symm.trans H; rw [hy118]; with_reducible exact H2_) | (have H2_ := (Option.bind_some _ _).symm.trans H; with_reducible exact H2_) | with_reducible exact H | (rw [hy118]; exact H) | exact H
 have Ny118 := Am hy118;clear hy118;obtain ⟨t121, A2, H⟩ := bx H;replace H : (some t121) = some r := H;obtain rfl := si H;go_enter Tryz.func65, Tryz.ntmps65;go_wp2_with (first | ((with_reducible refine gate_dst (N := 4) rfl ?_); refine Kd.R_lit Kd.string _ 9 ?hg (N := 4) ?hd (xs := ([(⟨#[105, 102, 114, 97, 109, 101]⟩ : ByteArray), (⟨#[110, 111, 101, 109, 98, 101, 100]⟩ : ByteArray), (⟨#[110, 111, 102, 114, 97, 109, 101, 115]⟩ : ByteArray), (⟨#[115, 99, 114, 105, 112, 116]⟩ : ByteArray), (⟨#[115, 116, 121, 108, 101]⟩ : ByteArray), (⟨#[120, 109, 112]⟩ : ByteArray)] : List ByteArray)) (inner := [.string (⟨#[105, 102, 114, 97, 109, 101]⟩ : ByteArray), .string (⟨#[110, 111, 101, 109, 98, 101, 100]⟩ : ByteArray), .string (⟨#[110, 111, 102, 114, 97, 109, 101, 115]⟩ : ByteArray), .string (⟨#[115, 99, 114, 105, 112, 116]⟩ : ByteArray), .string (⟨#[115, 116, 121, 108, 101]⟩ : ByteArray), .string (⟨#[120, 109, 112]⟩ : ByteArray)]) (ok := fun _ => True) (okp := fun _ => True) ?hr ?hp (fun _ hk => hk) trivial (Below.refl _ _) (Nat.le_refl _) (by simp) ?_; (case hd => rfl); (case hg => rfl); (case hr => first | (go_simp; done) | (go_simp; rfl)); (case hp => exact (Reps.one (show Kd.M Kd.string _ _ _ (⟨#[105, 102, 114, 97, 109, 101]⟩ : ByteArray) [.string (⟨#[105, 102, 114, 97, 109, 101]⟩ : ByteArray)] from rfl) (Reps.one (show Kd.M Kd.string _ _ _ (⟨#[110, 111, 101, 109, 98, 101, 100]⟩ : ByteArray) [.string (⟨#[110, 111, 101, 109, 98, 101, 100]⟩ : ByteArray)] from rfl) (Reps.one (show Kd.M Kd.string _ _ _ (⟨#[110, 111, 102, 114, 97, 109, 101, 115]⟩ : ByteArray) [.string (⟨#[110, 111, 102, 114, 97, 109, 101, 115]⟩ : ByteArray)] from rfl) (Reps.one (show Kd.M Kd.string _ _ _ (⟨#[115, 99, 114, 105, 112, 116]⟩ : ByteArray) [.string (⟨#[115, 99, 114, 105, 112, 116]⟩ : ByteArray)] from rfl) (Reps.one (show Kd.M Kd.string _ _ _ (⟨#[115, 116, 121, 108, 101]⟩ : ByteArray) [.string (⟨#[115, 116, 121, 108, 101]⟩ : ByteArray)] from rfl) (Reps.one (show Kd.M Kd.string _ _ _ (⟨#[120, 109, 112]⟩ : ByteArray) [.string (⟨#[120, 109, 112]⟩ : ByteArray)] from rfl) (Reps.none _ _)))))))); intro v119 w3 ho4 hb hg_ hnew_; clear hg_ hnew_; (first | rw [← Ny118.out] at ho4 | (simp only [Int.reduceToNat] at ho4; rw [← Ny118.out] at ho4)); replace HO120 := Am (Kd.R_lower ho4 (below_size Bw)); replace HB := Bs hb; clear hb ho4; obtain ⟨Ao5, co5, eo5⟩ := Kd.R_slice HO120.out; subst eo5) | ((with_reducible refine gate_callee (f := 68) rfl ?_); refine goL (some 5) Tryz.func68 #[.string a0, .slice Ao5 y118.length co5] ?_; (with_reducible refine (kind_among.calls k a0 _ _ y118 t121 _ ?side1 ?side2 A2.out).mono ?_); (case side1 => repeat (first | exact (Kd.R_reads' HO120.out).2.2 | (with_reducible refine Kd.C_alloc ?_ _) | (with_reducible refine Kd.C_drewN ?_ _) | (with_reducible refine Kd.C_drew ?_))); (case side2 => exact (Kd.R_reads' HO120.out).2.1); rintro e w' ⟨rfl, ⟨nd, rfl⟩⟩; refine ⟨_, rfl, ?_⟩))
 go_ret;exact ⟨Re, Bw⟩

def kind_rcdata.f (k : Nat) (a0 : ByteArray) : Option (Bool) := (kind_among.f k a0 (([(⟨#[116, 101, 120, 116, 97, 114, 101, 97]⟩ : ByteArray), (⟨#[116, 105, 116, 108, 101]⟩ : ByteArray)] : List ByteArray))).bind fun t125 => (some t125)
theorem kind_rcdata.mono : ∀ a0 k, LeO (kind_rcdata.f k a0) (kind_rcdata.f (k + 1) a0) := by
  intro a0 k
  unfold kind_rcdata.f
  repeat' first
      | (with_reducible exact kind_among.mono _ _ _)
      | (with_reducible exact LeO.refl _)
      | (with_reducible exact LeO.none _)
      | (with_reducible refine LeO.ite ?_ ?_)
      | (with_reducible refine LeO.bind ?_ (fun _ => ?_))
theorem kind_rcdata.calls (k : Nat) (a0 : ByteArray) (r : Bool) (w : World) (h : kind_rcdata.f k a0 = some r) :
  Calls Tryz.prog 66 #[.string a0] w fun e w' => e = .returned (.bool r) ∧ Below w.heap.size w w' := by
 have HB := Am (Below.refl w.heap.size w);have H := h;clear h;unfold kind_rcdata.f at H;obtain ⟨y122, hy122⟩ : ∃ y_ : List ByteArray, y_ = (([(⟨#[116, 101, 120, 116, 97, 114, 101, 97]⟩ : ByteArray), (⟨#[116, 105, 116, 108, 101]⟩ : ByteArray)] : List ByteArray)) := ⟨_, rfl⟩;replace H : ((kind_among.f k a0 y122).bind fun t125 => (some t125)) = some r := by first | (rw [hy122]; with_reducible exact H) | (have H2_ := (Option.bind_some _ _).symm.trans H; rw [hy122]; with_reducible exact H2_) | (have H2_ := (Option.bind_some _ _).symm.trans H; with_reducible exact H2_) | with_reducible exact H | (rw [hy122]; exact H) | exact H
 have Ny122 := Am hy122;clear hy122;obtain ⟨t125, A2, H⟩ := bx H;replace H : (some t125) = some r := H;obtain rfl := si H;go_enter Tryz.func66, Tryz.ntmps66;go_wp2_with (first | ((with_reducible refine gate_dst (N := 4) rfl ?_); refine Kd.R_lit Kd.string _ 9 ?hg (N := 4) ?hd (xs := ([(⟨#[116, 101, 120, 116, 97, 114, 101, 97]⟩ : ByteArray), (⟨#[116, 105, 116, 108, 101]⟩ : ByteArray)] : List ByteArray)) (inner := [.string (⟨#[116, 101, 120, 116, 97, 114, 101, 97]⟩ : ByteArray), .string (⟨#[116, 105, 116, 108, 101]⟩ : ByteArray)]) (ok := fun _ => True) (okp := fun _ => True) ?hr ?hp (fun _ hk => hk) trivial (Below.refl _ _) (Nat.le_refl _) (by simp) ?_; (case hd => rfl); (case hg => rfl); (case hr => first | (go_simp; done) | (go_simp; rfl)); (case hp => exact (Reps.one (show Kd.M Kd.string _ _ _ (⟨#[116, 101, 120, 116, 97, 114, 101, 97]⟩ : ByteArray) [.string (⟨#[116, 101, 120, 116, 97, 114, 101, 97]⟩ : ByteArray)] from rfl) (Reps.one (show Kd.M Kd.string _ _ _ (⟨#[116, 105, 116, 108, 101]⟩ : ByteArray) [.string (⟨#[116, 105, 116, 108, 101]⟩ : ByteArray)] from rfl) (Reps.none _ _)))); intro v123 w3 ho4 hb hg_ hnew_; clear hg_ hnew_; (first | rw [← Ny122.out] at ho4 | (simp only [Int.reduceToNat] at ho4; rw [← Ny122.out] at ho4)); replace HO124 := Am (Kd.R_lower ho4 (below_size Bw)); replace HB := Bs hb; clear hb ho4; obtain ⟨Ao5, co5, eo5⟩ := Kd.R_slice HO124.out; subst eo5) | ((with_reducible refine gate_callee (f := 68) rfl ?_); refine goL (some 5) Tryz.func68 #[.string a0, .slice Ao5 y122.length co5] ?_; (with_reducible refine (kind_among.calls k a0 _ _ y122 t125 _ ?side1 ?side2 A2.out).mono ?_); (case side1 => repeat (first | exact (Kd.R_reads' HO124.out).2.2 | (with_reducible refine Kd.C_alloc ?_ _) | (with_reducible refine Kd.C_drewN ?_ _) | (with_reducible refine Kd.C_drew ?_))); (case side2 => exact (Kd.R_reads' HO124.out).2.1); rintro e w' ⟨rfl, ⟨nd, rfl⟩⟩; refine ⟨_, rfl, ?_⟩));go_ret;exact ⟨Re, Bw⟩

def kind_table.f (k : Nat) (a0 : ByteArray) : Option (Bool) := (kind_among.f k a0 (([(⟨#[99, 97, 112, 116, 105, 111, 110]⟩ : ByteArray), (⟨#[99, 111, 108]⟩ : ByteArray), (⟨#[99, 111, 108, 103, 114, 111, 117, 112]⟩ : ByteArray), (⟨#[116, 98, 111, 100, 121]⟩ : ByteArray), (⟨#[116, 100]⟩ : ByteArray), (⟨#[116, 102, 111, 111, 116]⟩ : ByteArray), (⟨#[116, 104]⟩ : ByteArray), (⟨#[116, 104, 101, 97, 100]⟩ : ByteArray), (⟨#[116, 114]⟩ : ByteArray)] : List ByteArray))).bind fun t129 => (some t129)
theorem kind_table.mono : ∀ a0 k, LeO (kind_table.f k a0) (kind_table.f (k + 1) a0) := by
  intro a0 k
  unfold kind_table.f
  repeat' first
      | (with_reducible exact kind_among.mono _ _ _)
      | (with_reducible exact LeO.refl _)
      | (with_reducible exact LeO.none _)
      | (with_reducible refine LeO.ite ?_ ?_)
      | (with_reducible refine LeO.bind ?_ (fun _ => ?_))
theorem kind_table.calls (k : Nat) (a0 : ByteArray) (r : Bool) (w : World) (h : kind_table.f k a0 = some r) :
  Calls Tryz.prog 71 #[.string a0] w fun e w' => e = .returned (.bool r) ∧ Below w.heap.size w w' := by
 have HB := Am (Below.refl w.heap.size w);have H := h;clear h;unfold kind_table.f at H;obtain ⟨y126, hy126⟩ : ∃ y_ : List ByteArray, y_ = (([(⟨#[99, 97, 112, 116, 105, 111, 110]⟩ : ByteArray), (⟨#[99, 111, 108]⟩ : ByteArray), (⟨#[99, 111, 108, 103, 114, 111, 117, 112]⟩ : ByteArray), (⟨#[116, 98, 111, 100, 121]⟩ : ByteArray), (⟨#[116, 100]⟩ : ByteArray), (⟨#[116, 102, 111, 111, 116]⟩ : ByteArray), (⟨#[116, 104]⟩ : ByteArray), (⟨#[116, 104, 101, 97, 100]⟩ : ByteArray), (⟨#[116, 114]⟩ : ByteArray)] : List ByteArray)) := ⟨_, rfl⟩;replace H : ((kind_among.f k a0 y126).bind fun t129 => (some t129)) = some r := by first | (rw [hy126]; with_reducible exact H) | (have H2_ := (Option.bind_some _ _).symm.trans H; rw [hy126]; with_reducible exact H2_) | (have H2_ := (Option.bind_some _ _).symm.trans H; with_reducible exact H2_) | with_reducible exact H | (rw [hy126]; exact H) | exact H
 have Ny126 := Am hy126;clear hy126;obtain ⟨t129, A2, H⟩ := bx H;replace H : (some t129) = some r := H;obtain rfl := si H;go_enter Tryz.func71, Tryz.ntmps71;go_wp2_with (first | ((with_reducible refine gate_dst (N := 4) rfl ?_); refine Kd.R_lit Kd.string _ 9 ?hg (N := 4) ?hd (xs := ([(⟨#[99, 97, 112, 116, 105, 111, 110]⟩ : ByteArray), (⟨#[99, 111, 108]⟩ : ByteArray), (⟨#[99, 111, 108, 103, 114, 111, 117, 112]⟩ : ByteArray), (⟨#[116, 98, 111, 100, 121]⟩ : ByteArray), (⟨#[116, 100]⟩ : ByteArray), (⟨#[116, 102, 111, 111, 116]⟩ : ByteArray), (⟨#[116, 104]⟩ : ByteArray), (⟨#[116, 104, 101, 97, 100]⟩ : ByteArray), (⟨#[116, 114]⟩ : ByteArray)] : List ByteArray)) (inner := [.string (⟨#[99, 97, 112, 116, 105, 111, 110]⟩ : ByteArray), .string (⟨#[99, 111, 108]⟩ : ByteArray), .string (⟨#[99, 111, 108, 103, 114, 111, 117, 112]⟩ : ByteArray), .string (⟨#[116, 98, 111, 100, 121]⟩ : ByteArray), .string (⟨#[116, 100]⟩ : ByteArray), .string (⟨#[116, 102, 111, 111, 116]⟩ : ByteArray), .string (⟨#[116, 104]⟩ : ByteArray), .string (⟨#[116, 104, 101, 97, 100]⟩ : ByteArray), .string (⟨#[116, 114]⟩ : ByteArray)]) (ok := fun _ => True) (okp := fun _ => True) ?hr ?hp (fun _ hk => hk) trivial (Below.refl _ _) (Nat.le_refl _) (by simp) ?_; (case hd => rfl); (case hg => rfl); (case hr => first | (go_simp; done) | (go_simp; rfl)); (case hp => exact (Reps.one (show Kd.M Kd.string _ _ _ (⟨#[99, 97, 112, 116, 105, 111, 110]⟩ : ByteArray) [.string (⟨#[99, 97, 112, 116, 105, 111, 110]⟩ : ByteArray)] from rfl) (Reps.one (show Kd.M Kd.string _ _ _ (⟨#[99, 111, 108]⟩ : ByteArray) [.string (⟨#[99, 111, 108]⟩ : ByteArray)] from rfl) (Reps.one (show Kd.M Kd.string _ _ _ (⟨#[99, 111, 108, 103, 114, 111, 117, 112]⟩ : ByteArray) [.string (⟨#[99, 111, 108, 103, 114, 111, 117, 112]⟩ : ByteArray)] from rfl) (Reps.one (show Kd.M Kd.string _ _ _ (⟨#[116, 98, 111, 100, 121]⟩ : ByteArray) [.string (⟨#[116, 98, 111, 100, 121]⟩ : ByteArray)] from rfl) (Reps.one (show Kd.M Kd.string _ _ _ (⟨#[116, 100]⟩ : ByteArray) [.string (⟨#[116, 100]⟩ : ByteArray)] from rfl) (Reps.one (show Kd.M Kd.string _ _ _ (⟨#[116, 102, 111, 111, 116]⟩ : ByteArray) [.string (⟨#[116, 102, 111, 111, 116]⟩ : ByteArray)] from rfl) (Reps.one (show Kd.M Kd.string _ _ _ (⟨#[116, 104]⟩ : ByteArray) [.string (⟨#[116, 104]⟩ : ByteArray)] from rfl) (Reps.one (show Kd.M Kd.string _ _ _ (⟨#[116, 104, 101, 97, 100]⟩ : ByteArray) [.string (⟨#[116, 104, 101, 97, 100]⟩ : ByteArray)] from rfl) (Reps.one (show Kd.M Kd.string _ _ _ (⟨#[116, 114]⟩ : ByteArray) [.string (⟨#[116, 114]⟩ : ByteArray)] from rfl) (Reps.none _ _))))))))))); intro v127 w3 ho4 hb hg_ hnew_; clear hg_ hnew_; (first | rw [← Ny126.out] at ho4 | (simp only [Int.reduceToNat] at ho4; rw [← Ny126.out] at ho4)); replace HO128 := Am (Kd.R_lower ho4 (below_size Bw)); replace HB := Bs hb; clear hb ho4; obtain ⟨Ao5, co5, eo5⟩ := Kd.R_slice HO128.out; subst eo5) | ((with_reducible refine gate_callee (f := 68) rfl ?_); refine goL (some 5) Tryz.func68 #[.string a0, .slice Ao5 y126.length co5] ?_; (with_reducible refine (kind_among.calls k a0 _ _ y126 t129 _ ?side1 ?side2 A2.out).mono ?_); (case side1 => repeat (first | exact (Kd.R_reads' HO128.out).2.2 | (with_reducible refine Kd.C_alloc ?_ _) | (with_reducible refine Kd.C_drewN ?_ _) | (with_reducible refine Kd.C_drew ?_))); (case side2 => exact (Kd.R_reads' HO128.out).2.1); rintro e w' ⟨rfl, ⟨nd, rfl⟩⟩; refine ⟨_, rfl, ?_⟩))
 go_ret;exact ⟨Re, Bw⟩

def kind_Is.f (k : Nat) (a0 : Int) (a1 : ByteArray) : Option (Bool) := if a0 = 1 then none else (if a0 = 2 then ((kind_raw.f k a1).bind fun t159 => (some t159)) else (if a0 = 3 then ((kind_rcdata.f k a1).bind fun t160 => (some t160)) else (if a0 = 4 then none else (if a0 = 5 then none else (if a0 = 6 then none else (if a0 = 7 then none else (if a0 = 8 then none else (if a0 = 9 then none else (if a0 = 10 then none else (if a0 = 11 then none else (if a0 = 12 then ((kind_table.f k a1).bind fun t175 => (if t175 = true then (some true) else ((kind_among.f k a1 (([(⟨#[98, 111, 100, 121]⟩ : ByteArray), (⟨#[102, 114, 97, 109, 101]⟩ : ByteArray), (⟨#[102, 114, 97, 109, 101, 115, 101, 116]⟩ : ByteArray), (⟨#[104, 101, 97, 100]⟩ : ByteArray), (⟨#[104, 116, 109, 108]⟩ : ByteArray)] : List ByteArray))).bind fun t179 => (some t179)))) else (some false))))))))))))
theorem kind_Is.mono : ∀ a0 a1 k, LeO (kind_Is.f k a0 a1) (kind_Is.f (k + 1) a0 a1) := by
 intro a0 a1 k;unfold kind_Is.f
 repeat' first
   | (with_reducible exact kind_among.mono _ _ _)
   | (with_reducible exact kind_raw.mono _ _)
   | (with_reducible exact kind_rcdata.mono _ _)
   | (with_reducible exact kind_table.mono _ _)
   | (with_reducible exact LeO.refl _)
   | (with_reducible exact LeO.none _)
   | (with_reducible refine LeO.ite ?_ ?_)
   | (with_reducible refine LeO.bind ?_ (fun _ => ?_))
theorem kind_Is.calls (k : Nat) (a0 : Int) (a1 : ByteArray) (r : Bool) (w : World) (h : kind_Is.f k a0 a1 = some r) :
  Calls Tryz.prog 47 #[.int .i64 a0, .string a1] w fun e w' => e = .returned (.bool r) ∧ Below w.heap.size w w' := by
 have HB := Am (Below.refl w.heap.size w);have H := h;clear h;unfold kind_Is.f at H
 by_cases c3 : a0 = 1
 ·rw [if_pos c3] at H;exact absurd H (by simp)
 rw [if_neg c3] at H;obtain ⟨c3b0, c3b1⟩ := neb c3
 by_cases c6 : a0 = 2
 ·rw [if_pos c6] at H;obtain ⟨c6b0, c6b1⟩ := eqb c6;clear c6;obtain ⟨t159, A7, H⟩ := bx H;replace H : (some t159) = some r := H;obtain rfl := si H;go_enter Tryz.func47, Tryz.ntmps47;go_wp2_with (first | ((with_reducible refine gate_callee (f := 65) rfl ?_); refine goL (some 13) Tryz.func65 #[.string a1] ?_; (with_reducible refine (kind_raw.calls k a1 t159 _ A7.out).mono ?_); rintro e w8 ⟨rfl, hb⟩; refine ⟨_, rfl, ?_⟩; replace HB := Bs hb; clear hb));go_ret;exact ⟨Re, Bw⟩
 rw [if_neg c6] at H;obtain ⟨c6b0, c6b1⟩ := neb c6
 by_cases c9 : a0 = 3
 ·rw [if_pos c9] at H;obtain ⟨c9b0, c9b1⟩ := eqb c9;clear c9;obtain ⟨t160, A10, H⟩ := bx H;replace H : (some t160) = some r := H;obtain rfl := si H;go_enter Tryz.func47, Tryz.ntmps47;go_wp2_with (first | ((with_reducible refine gate_callee (f := 66) rfl ?_); refine goL (some 17) Tryz.func66 #[.string a1] ?_; (with_reducible refine (kind_rcdata.calls k a1 t160 _ A10.out).mono ?_); rintro e w11 ⟨rfl, hb⟩; refine ⟨_, rfl, ?_⟩; replace HB := Bs hb; clear hb));go_ret;exact ⟨Re, Bw⟩
 rw [if_neg c9] at H;obtain ⟨c9b0, c9b1⟩ := neb c9
 by_cases c12 : a0 = 4
 ·rw [if_pos c12] at H;exact absurd H (by simp)
 rw [if_neg c12] at H;obtain ⟨c12b0, c12b1⟩ := neb c12
 by_cases c15 : a0 = 5
 ·rw [if_pos c15] at H;exact absurd H (by simp)
 rw [if_neg c15] at H;obtain ⟨c15b0, c15b1⟩ := neb c15
 by_cases c20 : a0 = 6
 ·rw [if_pos c20] at H;exact absurd H (by simp)
 rw [if_neg c20] at H;obtain ⟨c20b0, c20b1⟩ := neb c20
 by_cases c23 : a0 = 7
 ·rw [if_pos c23] at H;exact absurd H (by simp)
 rw [if_neg c23] at H;obtain ⟨c23b0, c23b1⟩ := neb c23
 by_cases c25 : a0 = 8
 ·rw [if_pos c25] at H;exact absurd H (by simp)
 rw [if_neg c25] at H;obtain ⟨c25b0, c25b1⟩ := neb c25
 by_cases c30 : a0 = 9
 ·rw [if_pos c30] at H;exact absurd H (by simp)
 rw [if_neg c30] at H;obtain ⟨c30b0, c30b1⟩ := neb c30
 by_cases c33 : a0 = 10
 ·rw [if_pos c33] at H;exact absurd H (by simp)
 rw [if_neg c33] at H;obtain ⟨c33b0, c33b1⟩ := neb c33
 by_cases c36 : a0 = 11
 ·rw [if_pos c36] at H;exact absurd H (by simp)
 rw [if_neg c36] at H;obtain ⟨c36b0, c36b1⟩ := neb c36
 by_cases c39 : a0 = 12
 ·rw [if_pos c39] at H;obtain ⟨c39b0, c39b1⟩ := eqb c39;clear c39;obtain ⟨t175, A40, H⟩ := bx H;(try dsimp -simprocs only at H)
  by_cases c41 : t175 = true
  ·subst c41;rw [if_pos rfl] at H;obtain rfl := si H;go_enter Tryz.func47, Tryz.ntmps47;go_wp2_with (first | ((with_reducible refine gate_callee (f := 71) rfl ?_); refine goL (some 55) Tryz.func71 #[.string a1] ?_; (with_reducible refine (kind_table.calls k a1 true _ A40.out).mono ?_); rintro e w42 ⟨rfl, hb⟩; refine ⟨_, rfl, ?_⟩; replace HB := Bs hb; clear hb));go_ret;exact ⟨Re, Bw⟩
  replace c41 := bf c41;subst c41;rw [if_neg (show ¬ (false = true) by decide)] at H;obtain ⟨y176, hy176⟩ : ∃ y_ : List ByteArray, y_ = (([(⟨#[98, 111, 100, 121]⟩ : ByteArray), (⟨#[102, 114, 97, 109, 101]⟩ : ByteArray), (⟨#[102, 114, 97, 109, 101, 115, 101, 116]⟩ : ByteArray), (⟨#[104, 101, 97, 100]⟩ : ByteArray), (⟨#[104, 116, 109, 108]⟩ : ByteArray)] : List ByteArray)) := ⟨_, rfl⟩;replace H : ((kind_among.f k a1 y176).bind fun t179 => (some t179)) = some r := by first | (rw [hy176]; with_reducible exact H) | (have H2_ := (Option.bind_some _ _).symm.trans H; rw [hy176]; with_reducible exact H2_) | (have H2_ := (Option.bind_some _ _).symm.trans H; with_reducible exact H2_) | with_reducible exact H | (rw [hy176]; exact H) | exact H
  have Ny176 := Am hy176;clear hy176;obtain ⟨t179, A43, H⟩ := bx H;replace H : (some t179) = some r := H;obtain rfl := si H;go_enter Tryz.func47, Tryz.ntmps47;go_wp2_with (first | ((with_reducible refine gate_callee (f := 71) rfl ?_); refine goL (some 55) Tryz.func71 #[.string a1] ?_; (with_reducible refine (kind_table.calls k a1 false _ A40.out).mono ?_); rintro e w44 ⟨rfl, hb⟩; refine ⟨_, rfl, ?_⟩; replace HB := Bs hb; clear hb) | ((with_reducible refine gate_dst (N := 58) rfl ?_); (try (refine gate_guard (by rfl) ?_; dsimp only)); refine Kd.R_lit Kd.string _ 9 ?hg (N := 58) ?hd (xs := ([(⟨#[98, 111, 100, 121]⟩ : ByteArray), (⟨#[102, 114, 97, 109, 101]⟩ : ByteArray), (⟨#[102, 114, 97, 109, 101, 115, 101, 116]⟩ : ByteArray), (⟨#[104, 101, 97, 100]⟩ : ByteArray), (⟨#[104, 116, 109, 108]⟩ : ByteArray)] : List ByteArray)) (inner := [.string (⟨#[98, 111, 100, 121]⟩ : ByteArray), .string (⟨#[102, 114, 97, 109, 101]⟩ : ByteArray), .string (⟨#[102, 114, 97, 109, 101, 115, 101, 116]⟩ : ByteArray), .string (⟨#[104, 101, 97, 100]⟩ : ByteArray), .string (⟨#[104, 116, 109, 108]⟩ : ByteArray)]) (ok := fun _ => True) (okp := fun _ => True) ?hr ?hp (fun _ hk => hk) trivial (Below.refl _ _) (Nat.le_refl _) (by simp) ?_; (case hd => rfl); (case hg => rfl); (case hr => first | (go_simp; done) | (go_simp; rfl)); (case hp => exact (Reps.one (show Kd.M Kd.string _ _ _ (⟨#[98, 111, 100, 121]⟩ : ByteArray) [.string (⟨#[98, 111, 100, 121]⟩ : ByteArray)] from rfl) (Reps.one (show Kd.M Kd.string _ _ _ (⟨#[102, 114, 97, 109, 101]⟩ : ByteArray) [.string (⟨#[102, 114, 97, 109, 101]⟩ : ByteArray)] from rfl) (Reps.one (show Kd.M Kd.string _ _ _ (⟨#[102, 114, 97, 109, 101, 115, 101, 116]⟩ : ByteArray) [.string (⟨#[102, 114, 97, 109, 101, 115, 101, 116]⟩ : ByteArray)] from rfl) (Reps.one (show Kd.M Kd.string _ _ _ (⟨#[104, 101, 97, 100]⟩ : ByteArray) [.string (⟨#[104, 101, 97, 100]⟩ : ByteArray)] from rfl) (Reps.one (show Kd.M Kd.string _ _ _ (⟨#[104, 116, 109, 108]⟩ : ByteArray) [.string (⟨#[104, 116, 109, 108]⟩ : ByteArray)] from rfl) (Reps.none _ _))))))); intro v177 w45 ho46 hb hg_ hnew_; clear hg_ hnew_; (first | rw [← Ny176.out] at ho46 | (simp only [Int.reduceToNat] at ho46; rw [← Ny176.out] at ho46)); replace HO178 := Am (Kd.R_lower ho46 (below_size Bw)); replace HB := Bs hb; clear hb ho46; obtain ⟨Ao47, co47, eo47⟩ := Kd.R_slice HO178.out; subst eo47) | (go_at_call 68; (with_reducible refine (kind_among.calls k a1 _ _ y176 t179 _ ?side1 ?side2 A43.out).mono ?_); (case side1 => repeat (first | exact (Kd.R_reads' HO178.out).2.2 | (with_reducible refine Kd.C_alloc ?_ _) | (with_reducible refine Kd.C_drewN ?_ _) | (with_reducible refine Kd.C_drew ?_))); (case side2 => exact (Kd.R_reads' HO178.out).2.1); rintro e w' ⟨rfl, ⟨nd, rfl⟩⟩))
  go_ret;exact ⟨Re, Bw⟩
 rw [if_neg c39] at H;obtain ⟨c39b0, c39b1⟩ := neb c39;obtain rfl := si H;go_enter Tryz.func47, Tryz.ntmps47;go_wp2;go_ret;exact ⟨Re, Bw⟩


def p_never.j0 : Nat → ByteArray → Bool → Option (Bool)
  | 0, _, _ => none
  | k + 1, x0, x4 => if x4 = true then (some true) else ((kind_Is.f k 2 x0).bind fun t130 => (if t130 = true then (some true) else ((kind_Is.f k 3 x0).bind fun t131 => (if t131 = true then (some true) else ((kind_Is.f k 12 x0).bind fun t132 => (some t132))))))
def p_never.f (k : Nat) (a0 : ByteArray) : Option (Bool) := if a0.toList = ([109, 97, 116, 104] : List UInt8) then (p_never.j0 k a0 (a0.toList == ([109, 97, 116, 104] : List UInt8))) else (if a0.toList = ([110, 111, 115, 99, 114, 105, 112, 116] : List UInt8) then (p_never.j0 k a0 (a0.toList == ([110, 111, 115, 99, 114, 105, 112, 116] : List UInt8))) else (if a0.toList = ([112, 108, 97, 105, 110, 116, 101, 120, 116] : List UInt8) then (p_never.j0 k a0 (a0.toList == ([112, 108, 97, 105, 110, 116, 101, 120, 116] : List UInt8))) else (if a0.toList = ([115, 118, 103] : List UInt8) then (p_never.j0 k a0 (a0.toList == ([115, 118, 103] : List UInt8))) else (p_never.j0 k a0 (a0.toList == ([116, 101, 109, 112, 108, 97, 116, 101] : List UInt8))))))
theorem p_never.mono_l : ∀ k, (∀ y0 y1, LeO (p_never.j0 k y0 y1) (p_never.j0 (k + 1) y0 y1))
 | 0 => fun _ _ r h => by simp [p_never.j0] at h
 | k + 1 => by
  have ih0 := p_never.mono_l k
  ·intro y0 y1
   unfold p_never.j0
   repeat' first
   | (with_reducible exact ih0 _ _)
   | (with_reducible exact kind_Is.mono _ _ _)
   | (with_reducible exact LeO.refl _)
   | (with_reducible exact LeO.none _)
   | (with_reducible refine LeO.ite ?_ ?_)
   | (with_reducible refine LeO.bind ?_ (fun _ => ?_))
theorem p_never.mono : ∀ a0 k, LeO (p_never.f k a0) (p_never.f (k + 1) a0) := by
 intro a0 k;have ih0 := p_never.mono_l k;unfold p_never.f
 repeat' first
   | (with_reducible exact ih0 _ _)
   | (with_reducible exact kind_Is.mono _ _ _)
   | (with_reducible exact LeO.refl _)
   | (with_reducible exact LeO.none _)
   | (with_reducible refine LeO.ite ?_ ?_)
   | (with_reducible refine LeO.bind ?_ (fun _ => ?_))
theorem p_never.calls (k : Nat) (a0 : ByteArray) (r : Bool) (w : World) (h : p_never.f k a0 = some r) :
  Calls Tryz.prog 28 #[.string a0] w fun e w' => e = .returned (.bool r) ∧ Below w.heap.size w w' := by
 have HB := Am (Below.refl w.heap.size w);have H := h;clear h;unfold p_never.f at H;have HC2 := Am H;clear H;go_enter Tryz.func28, Tryz.ntmps28
 go_upto_if 4 with (fail)
 go_cut [4] (fun v4 wc => ∃ (kq : Nat) (x4_1 : Bool), v4 = .bool x4_1 ∧ Aside0 (p_never.j0 kq a0 x4_1 = some r) ∧ Aside0 (kq ≤ k) ∧ Aside0 (Below w.heap.size w wc))
 case first =>
  have H := HC2.out;clear HC2
  by_cases c3 : a0.toList = ([109, 97, 116, 104] : List UInt8)
  ·rw [if_pos c3] at H;obtain ⟨c3b0, c3b1⟩ := eqb c3;clear c3;(first | rw [c3b0] | (simp only [i64_w, i32_w]; rw [c3b0]) | skip);have H' := Am H;clear H;go_wp2;go_meet
   case rel => exact ⟨_, ((a0.toList == ([109, 97, 116, 104] : List UInt8))), Rs, H', ⟨On⟩, ⟨Bw⟩⟩
  rw [if_neg c3] at H;obtain ⟨c3b0, c3b1⟩ := neb c3;(first | rw [c3b0] | (simp only [i64_w, i32_w]; rw [c3b0]) | skip)
  by_cases c4 : a0.toList = ([110, 111, 115, 99, 114, 105, 112, 116] : List UInt8)
  ·rw [if_pos c4] at H;obtain ⟨c4b0, c4b1⟩ := eqb c4;clear c4;have H' := Am H;clear H;go_wp2;go_meet
   case rel => exact ⟨_, ((a0.toList == ([110, 111, 115, 99, 114, 105, 112, 116] : List UInt8))), Rs, H', ⟨On⟩, ⟨Bw⟩⟩
  rw [if_neg c4] at H;obtain ⟨c4b0, c4b1⟩ := neb c4
  by_cases c5 : a0.toList = ([112, 108, 97, 105, 110, 116, 101, 120, 116] : List UInt8)
  ·rw [if_pos c5] at H;obtain ⟨c5b0, c5b1⟩ := eqb c5;clear c5;have H' := Am H;clear H;go_wp2;go_meet
   case rel => exact ⟨_, ((a0.toList == ([112, 108, 97, 105, 110, 116, 101, 120, 116] : List UInt8))), Rs, H', ⟨On⟩, ⟨Bw⟩⟩
  rw [if_neg c5] at H;obtain ⟨c5b0, c5b1⟩ := neb c5
  by_cases c6 : a0.toList = ([115, 118, 103] : List UInt8)
  ·rw [if_pos c6] at H;obtain ⟨c6b0, c6b1⟩ := eqb c6;clear c6;have H' := Am H;clear H;go_wp2;go_meet
   case rel => exact ⟨_, ((a0.toList == ([115, 118, 103] : List UInt8))), Rs, H', ⟨On⟩, ⟨Bw⟩⟩
  rw [if_neg c6] at H;obtain ⟨c6b0, c6b1⟩ := neb c6;have H' := Am H;clear H;go_wp2;go_meet
  case rel => exact ⟨_, ((a0.toList == ([116, 101, 109, 112, 108, 97, 116, 101] : List UInt8))), Rs, H', ⟨On⟩, ⟨Bw⟩⟩
 case rest =>
  clear HC2;(try clear c2);(try clear p2);(try clear c3);(try clear c3b0);(try clear c3b1);(try clear c4);(try clear c4b0);(try clear c4b1);(try clear c5);(try clear c5b0);(try clear c5b1);(try clear c6);(try clear c6b0);(try clear c6b1);obtain ⟨kq, x4_1, rfl, HA, HJ1, HB⟩ := hcut
  cases kq with
  | zero => exact absurd HA.out (by simp [p_never.j0])
  | succ kj1 =>
   have H := HA.out;clear HA;simp only [p_never.j0] at H
   by_cases c7 : x4_1 = true
   ·subst c7;rw [if_pos rfl] at H;obtain rfl := si H;go_wp2;go_ret;exact ⟨Re, Bw⟩
   replace c7 := bf c7;subst c7;rw [if_neg (show ¬ (false = true) by decide)] at H;obtain ⟨t130, A8, H⟩ := bx H;(try dsimp -simprocs only at H)
   by_cases c9 : t130 = true
   ·subst c9;rw [if_pos rfl] at H;obtain rfl := si H;go_wp2_with (first | ((with_reducible refine gate_callee (f := 47) rfl ?_); refine goL (some 11) Tryz.func47 #[.int .i64 2, .string a0] ?_; (with_reducible refine (kind_Is.calls kj1 2 a0 true _ A8.out).mono ?_); rintro e w10 ⟨rfl, hb⟩; refine ⟨_, rfl, ?_⟩; replace HB := Bs hb; clear hb));go_ret;exact ⟨Re, Bw⟩
   replace c9 := bf c9;subst c9;rw [if_neg (show ¬ (false = true) by decide)] at H;obtain ⟨t131, A11, H⟩ := bx H;(try dsimp -simprocs only at H)
   by_cases c12 : t131 = true
   ·subst c12;rw [if_pos rfl] at H;obtain rfl := si H;go_wp2_with (first | ((with_reducible refine gate_callee (f := 47) rfl ?_); refine goL (some 11) Tryz.func47 #[.int .i64 2, .string a0] ?_; (with_reducible refine (kind_Is.calls kj1 2 a0 false _ A8.out).mono ?_); rintro e w13 ⟨rfl, hb⟩; refine ⟨_, rfl, ?_⟩; replace HB := Bs hb; clear hb) | (go_at_call 47; (with_reducible refine (kind_Is.calls kj1 3 a0 true _ A11.out).mono ?_); rintro e w14 ⟨rfl, hb⟩; replace HB := Bs hb; clear hb));go_ret;exact ⟨Re, Bw⟩
   replace c12 := bf c12;subst c12;rw [if_neg (show ¬ (false = true) by decide)] at H;obtain ⟨t132, A15, H⟩ := bx H;replace H : (some t132) = some r := H;obtain rfl := si H;go_wp2_with (first | ((with_reducible refine gate_callee (f := 47) rfl ?_); refine goL (some 11) Tryz.func47 #[.int .i64 2, .string a0] ?_; (with_reducible refine (kind_Is.calls kj1 2 a0 false _ A8.out).mono ?_); rintro e w16 ⟨rfl, hb⟩; refine ⟨_, rfl, ?_⟩; replace HB := Bs hb; clear hb) | (go_at_call 47; (with_reducible refine (kind_Is.calls kj1 3 a0 false _ A11.out).mono ?_); rintro e w17 ⟨rfl, hb⟩; replace HB := Bs hb; clear hb) | (go_at_call 47; (with_reducible refine (kind_Is.calls kj1 12 a0 t132 _ A15.out).mono ?_); rintro e w18 ⟨rfl, hb⟩; replace HB := Bs hb; clear hb));go_ret;exact ⟨Re, Bw⟩

mutual
def p_Check.j0 : Nat → Bool → List (S38) → List ByteArray → List ByteArray → List ByteArray → Int → Option (Int)
  | 0, _, _, _, _, _, _ => none
  | k + 1, x38, x134000, x134001, x134002, x134003, x134004 => if x38 = true then (some 1) else (p_Check.l0 k ([] : List ByteArray) x134000 (x134000.length : Int) 0 x134000 x134001 x134002 x134003 x134004)
def p_Check.l0 : Nat → List ByteArray → List (S38) → Int → Int → List (S38) → List ByteArray → List ByteArray → List ByteArray → Int → Option (Int)
  | 0, _, _, _, _, _, _, _, _, _ => none
  | k + 1, x3, x40, x41, x42, x134000, x134001, x134002, x134003, x134004 => if x42 < x41 then (if 0 ≤ x42 then (if x42 < (x40.length : Int) then ((p_never.f k ((rd_T38 x40 x42).f0)).bind fun t142 => (if t142 = true then (some 1) else ((slC_.f k x134003 ((rd_T38 x40 x42).f0)).bind fun t143 => (if t143 = true then (some 1) else ((p_areNames.f k ((rd_T38 x40 x42).f1)).bind fun t144 => (if t144 = true then ((cf_acts.f ((rd_T38 x40 x42).f1)).bind fun t145 => (if t145 = true then (some 1) else (if x3.length < 8796093022208 then (p_Check.l0 k (x3 ++ [(rd_T38 x40 x42).f0]) x40 x41 (wrap64 (x42 + 1)) x134000 x134001 x134002 x134003 x134004) else (none)))) else (some 1))))))) else (none)) else (none)) else ((p_areNames.f k x3).bind fun t139 => (if t139 = true then (some 0) else (some 1)))
end
def p_Check.f (k : Nat) (l0_0 : List (S38)) (l0_1 : List ByteArray) (l0_2 : List ByteArray) (l0_3 : List ByteArray) (a0_4 : Int) : Option (Int) := (p_large.f l0_0 l0_1 l0_2 l0_3 a0_4).bind fun t134 => (if t134 = true then (some 4) else (if a0_4 < 1 then (p_Check.j0 k true l0_0 l0_1 l0_2 l0_3 a0_4) else (if a0_4 > 60 then (p_Check.j0 k true l0_0 l0_1 l0_2 l0_3 a0_4) else ((p_areNames.f k l0_1).bind fun t135 => (if t135 = true then ((p_areNames.f k l0_2).bind fun t136 => (if t136 = true then ((p_areNames.f k l0_3).bind fun t137 => (if t137 = true then ((cf_runs.f l0_2).bind fun t138 => (p_Check.j0 k t138 l0_0 l0_1 l0_2 l0_3 a0_4)) else (p_Check.j0 k true l0_0 l0_1 l0_2 l0_3 a0_4))) else (p_Check.j0 k true l0_0 l0_1 l0_2 l0_3 a0_4))) else (p_Check.j0 k true l0_0 l0_1 l0_2 l0_3 a0_4))))))
theorem p_Check.mono_l : ∀ k, (∀ y0 y1 y2 y3 y4 y5, LeO (p_Check.j0 k y0 y1 y2 y3 y4 y5) (p_Check.j0 (k + 1) y0 y1 y2 y3 y4 y5)) ∧ (∀ y0 y1 y2 y3 y4 y5 y6 y7 y8, LeO (p_Check.l0 k y0 y1 y2 y3 y4 y5 y6 y7 y8) (p_Check.l0 (k + 1) y0 y1 y2 y3 y4 y5 y6 y7 y8))
 | 0 => ⟨fun _ _ _ _ _ _ r h => by simp [p_Check.j0] at h, fun _ _ _ _ _ _ _ _ _ r h => by simp [p_Check.l0] at h⟩
 | k + 1 => by
  obtain ⟨ih0, ih1⟩ := p_Check.mono_l k
  refine ⟨?_, ?_⟩
  ·intro y0 y1 y2 y3 y4 y5
   unfold p_Check.j0
   repeat' first
   | (with_reducible exact ih0 _ _ _ _ _ _)
   | (with_reducible exact ih1 _ _ _ _ _ _ _ _ _)
   | (with_reducible exact p_areNames.mono _ _)
   | (with_reducible exact p_never.mono _ _)
   | (with_reducible exact slC_.mono _ _ _)
   | (with_reducible exact LeO.refl _)
   | (with_reducible exact LeO.none _)
   | (with_reducible refine LeO.ite ?_ ?_)
   | (with_reducible refine LeO.bind ?_ (fun _ => ?_))
  intro y0 y1 y2 y3 y4 y5 y6 y7 y8
  unfold p_Check.l0
  repeat' first
  | (with_reducible exact ih0 _ _ _ _ _ _)
  | (with_reducible exact ih1 _ _ _ _ _ _ _ _ _)
  | (with_reducible exact p_areNames.mono _ _)
  | (with_reducible exact p_never.mono _ _)
  | (with_reducible exact slC_.mono _ _ _)
  | (with_reducible exact LeO.refl _)
  | (with_reducible exact LeO.none _)
  | (with_reducible refine LeO.ite ?_ ?_)
  | (with_reducible refine LeO.bind ?_ (fun _ => ?_))
theorem p_Check.mono : ∀ a0 a1 a2 a3 a4 k, LeO (p_Check.f k a0 a1 a2 a3 a4) (p_Check.f (k + 1) a0 a1 a2 a3 a4) := by
 intro a0 a1 a2 a3 a4 k;obtain ⟨ih0, ih1⟩ := p_Check.mono_l k;unfold p_Check.f
 repeat' first
   | (with_reducible exact ih0 _ _ _ _ _ _)
   | (with_reducible exact ih1 _ _ _ _ _ _ _ _ _)
   | (with_reducible exact p_areNames.mono _ _)
   | (with_reducible exact p_never.mono _ _)
   | (with_reducible exact slC_.mono _ _ _)
   | (with_reducible exact LeO.refl _)
   | (with_reducible exact LeO.none _)
   | (with_reducible refine LeO.ite ?_ ?_)
   | (with_reducible refine LeO.bind ?_ (fun _ => ?_))
theorem p_Check.calls (k : Nat) (A0_0 : Option Addr) (c0_0 : Nat) (l0_0 : List (S38)) (A0_1 : Option Addr) (c0_1 : Nat) (l0_1 : List ByteArray) (A0_2 : Option Addr) (c0_2 : Nat) (l0_2 : List ByteArray) (A0_3 : Option Addr) (c0_3 : Nat) (l0_3 : List ByteArray) (a0_4 : Int) (r : Int) (w : World) (hr0_0 : Kd.C k38 w A0_0 l0_0.length l0_0) (hc0_0 : l0_0.length ≤ c0_0) (hr0_1 : Kd.C Kd.string w A0_1 l0_1.length l0_1) (hc0_1 : l0_1.length ≤ c0_1) (hr0_2 : Kd.C Kd.string w A0_2 l0_2.length l0_2) (hc0_2 : l0_2.length ≤ c0_2) (hr0_3 : Kd.C Kd.string w A0_3 l0_3.length l0_3) (hc0_3 : l0_3.length ≤ c0_3) (h : p_Check.f k l0_0 l0_1 l0_2 l0_3 a0_4 = some r) :
  Calls Tryz.prog 9 #[.agg #[.slice A0_0 l0_0.length c0_0, .slice A0_1 l0_1.length c0_1, .slice A0_2 l0_2.length c0_2, .slice A0_3 l0_3.length c0_3, .int .i64 a0_4]] w fun e w' => e = .returned (.int .i64 r) ∧ Below w.heap.size w w' := by
 have hu25 := Tryz.underlying25;have hu38 := Tryz.underlying38;obtain ⟨HR0_0, HC0_0, HR0_1, HC0_1⟩ := as4 hr0_0 hc0_0 hr0_1 hc0_1;clear hr0_0 hc0_0 hr0_1 hc0_1;obtain ⟨HR0_2, HC0_2, HR0_3, HC0_3⟩ := as4 hr0_2 hc0_2 hr0_3 hc0_3;clear hr0_2 hc0_2 hr0_3 hc0_3;have HB := Am (Below.refl w.heap.size w);have H := h;clear h;unfold p_Check.f at H;obtain ⟨t134, A2, H⟩ := bx H;(try dsimp -simprocs only at H)
 by_cases c3 : t134 = true
 ·subst c3;rw [if_pos rfl] at H;obtain rfl := si H;go_enter Tryz.func9, Tryz.ntmps9;go_wp2_with (first | ((with_reducible refine gate_dst (N := 1) rfl ?_); refine box5 25 1 (cs := #[.slice A0_0 l0_0.length c0_0, .slice A0_1 l0_1.length c0_1, .slice A0_2 l0_2.length c0_2, .slice A0_3 l0_3.length c0_3, .int .i64 a0_4]) ?_; clear HB; intro gb133 w4 HB BK133 GE133; obtain ⟨Z5_0, Z5_1, Z5_2, Z5_3, Z5_4, Y5_0, Y5_1, Y5_2, Y5_3, Y5_4⟩ := cells5 BK133) | ((with_reducible refine gate_callee (f := 24) rfl ?_); refine goL (some 7) Tryz.func24 #[.agg #[.slice A0_0 l0_0.length c0_0, .slice A0_1 l0_1.length c0_1, .slice A0_2 l0_2.length c0_2, .slice A0_3 l0_3.length c0_3, .int .i64 a0_4]] ?_; (with_reducible refine (p_large.calls _ _ l0_0 _ _ l0_1 _ _ l0_2 _ _ l0_3 a0_4 true _ (Cs HR0_0) HC0_0.out (Cs HR0_1) HC0_1.out (Cs HR0_2) HC0_2.out (Cs HR0_3) HC0_3.out A2.out).mono ?_); rintro e w6 ⟨rfl, hb⟩; refine ⟨_, rfl, ?_⟩; replace BK133 := Bb BK133 hb; replace HB := Bs hb; clear hb));go_ret;exact ⟨Re, Bw⟩
 replace c3 := bf c3;subst c3;rw [if_neg (show ¬ (false = true) by decide)] at H;have HC7 := Am H;clear H;go_enter Tryz.func9, Tryz.ntmps9
 go_upto_region 3 with (first | ((with_reducible refine gate_dst (N := 1) rfl ?_); refine box5 25 1 (cs := #[.slice A0_0 l0_0.length c0_0, .slice A0_1 l0_1.length c0_1, .slice A0_2 l0_2.length c0_2, .slice A0_3 l0_3.length c0_3, .int .i64 a0_4]) ?_; clear HB; intro gb133 w8 HB BK133 GE133; obtain ⟨Z9_0, Z9_1, Z9_2, Z9_3, Z9_4, Y9_0, Y9_1, Y9_2, Y9_3, Y9_4⟩ := cells5 BK133) | ((with_reducible refine gate_callee (f := 24) rfl ?_); refine goL (some 7) Tryz.func24 #[.agg #[.slice A0_0 l0_0.length c0_0, .slice A0_1 l0_1.length c0_1, .slice A0_2 l0_2.length c0_2, .slice A0_3 l0_3.length c0_3, .int .i64 a0_4]] ?_; (with_reducible refine (p_large.calls _ _ l0_0 _ _ l0_1 _ _ l0_2 _ _ l0_3 a0_4 false _ (Cs HR0_0) HC0_0.out (Cs HR0_1) HC0_1.out (Cs HR0_2) HC0_2.out (Cs HR0_3) HC0_3.out A2.out).mono ?_); rintro e w10 ⟨rfl, hb⟩; refine ⟨_, rfl, ?_⟩; replace BK133 := Bb BK133 hb; replace HB := Bs hb; clear hb))
 (try simp only [Act.put, List.setIfInBounds_toArray, List.set_cons_zero, List.set_cons_succ])
 go_cut [38] (fun v38 wc => ∃ (kq : Nat) (x38_6 : Bool), v38 = .bool x38_6 ∧ Aside0 (p_Check.j0 kq x38_6 l0_0 l0_1 l0_2 l0_3 a0_4 = some r) ∧ Aside0 (kq ≤ k) ∧ Aside0 (wc.heap[gb133]? = some (.cells #[(.slice A0_0 l0_0.length c0_0), (.slice A0_1 l0_1.length c0_1), (.slice A0_2 l0_2.length c0_2), (.slice A0_3 l0_3.length c0_3), .int .i64 a0_4] 25 (0, 0))) ∧ Aside0 (Below w.heap.size w wc))
 case first =>
  have H := HC7.out;clear HC7
  by_cases c11 : a0_4 < 1
  ·rw [if_pos c11] at H;have c11b0 := decide_eq_true c11;clear c11;(first | rw [c11b0] | (simp only [i64_w, i32_w]; rw [c11b0]) | skip);have H' := Am H;clear H;obtain ⟨Z12_0, Z12_1, Z12_2, Z12_3, Z12_4, Y12_0, Y12_1, Y12_2, Y12_3, Y12_4⟩ := cells5 BK133;go_wp2;go_meet
   case rel => exact ⟨_, (true), Rs, H', ⟨On⟩, ⟨(Bk BK133)⟩, ⟨Bw⟩⟩
  rw [if_neg c11] at H;have c11b0 := decide_eq_false c11;clear c11;(first | rw [c11b0] | (simp only [i64_w, i32_w]; rw [c11b0]) | skip)
  by_cases c13 : a0_4 > 60
  ·rw [if_pos c13] at H;have c13b0 := dgt c13;clear c13;have H' := Am H;clear H;obtain ⟨Z14_0, Z14_1, Z14_2, Z14_3, Z14_4, Y14_0, Y14_1, Y14_2, Y14_3, Y14_4⟩ := cells5 BK133;go_wp2;go_meet
   case rel => exact ⟨_, (true), Rs, H', ⟨On⟩, ⟨(Bk BK133)⟩, ⟨Bw⟩⟩
  rw [if_neg c13] at H;have c13b0 := ngt c13;clear c13;obtain ⟨t135, A15, H⟩ := bx H;(try dsimp -simprocs only at H)
  by_cases c16 : t135 = true
  ·subst c16;rw [if_pos rfl] at H;obtain ⟨t136, A17, H⟩ := bx H;(try dsimp -simprocs only at H)
   by_cases c18 : t136 = true
   ·subst c18;rw [if_pos rfl] at H;obtain ⟨t137, A19, H⟩ := bx H;(try dsimp -simprocs only at H)
    by_cases c20 : t137 = true
    ·subst c20;rw [if_pos rfl] at H;obtain ⟨t138, A21, H⟩ := bx H;replace H : (p_Check.j0 k t138 l0_0 l0_1 l0_2 l0_3 a0_4) = some r := H;have H' := Am H;clear H;obtain ⟨Z22_0, Z22_1, Z22_2, Z22_3, Z22_4, Y22_0, Y22_1, Y22_2, Y22_3, Y22_4⟩ := cells5 BK133;go_wp2_with (first | (go_at_call 25; (with_reducible refine (p_areNames.calls k _ _ l0_1 true _ (Cs HR0_1) HC0_1.out A15.out).mono ?_); rintro e w23 ⟨rfl, hb⟩; replace BK133 := Bb BK133 hb; replace HB := Bs hb; clear hb; obtain ⟨Z24_0, Z24_1, Z24_2, Z24_3, Z24_4, Y24_0, Y24_1, Y24_2, Y24_3, Y24_4⟩ := cells5 BK133) | (go_at_call 25; (with_reducible refine (p_areNames.calls k _ _ l0_2 true _ (Cs HR0_2) HC0_2.out A17.out).mono ?_); rintro e w25 ⟨rfl, hb⟩; replace BK133 := Bb BK133 hb; replace HB := Bs hb; clear hb; obtain ⟨Z26_0, Z26_1, Z26_2, Z26_3, Z26_4, Y26_0, Y26_1, Y26_2, Y26_3, Y26_4⟩ := cells5 BK133) | (go_at_call 25; (with_reducible refine (p_areNames.calls k _ _ l0_3 true _ (Cs HR0_3) HC0_3.out A19.out).mono ?_); rintro e w27 ⟨rfl, hb⟩; replace BK133 := Bb BK133 hb; replace HB := Bs hb; clear hb; obtain ⟨Z28_0, Z28_1, Z28_2, Z28_3, Z28_4, Y28_0, Y28_1, Y28_2, Y28_3, Y28_4⟩ := cells5 BK133) | (go_at_call 26; (with_reducible refine (cf_runs.calls _ _ l0_2 t138 _ (Cs HR0_2) HC0_2.out A21.out).mono ?_); rintro e w' ⟨rfl, ⟨nd, rfl⟩⟩));go_meet
     case rel => exact ⟨_, (t138), Rs, H', ⟨On⟩, ⟨(Bk BK133)⟩, ⟨Bw⟩⟩
    replace c20 := bf c20;subst c20;rw [if_neg (show ¬ (false = true) by decide)] at H;have H' := Am H;clear H;obtain ⟨Z29_0, Z29_1, Z29_2, Z29_3, Z29_4, Y29_0, Y29_1, Y29_2, Y29_3, Y29_4⟩ := cells5 BK133;go_wp2_with (first | (go_at_call 25; (with_reducible refine (p_areNames.calls k _ _ l0_1 true _ (Cs HR0_1) HC0_1.out A15.out).mono ?_); rintro e w30 ⟨rfl, hb⟩; replace BK133 := Bb BK133 hb; replace HB := Bs hb; clear hb; obtain ⟨Z31_0, Z31_1, Z31_2, Z31_3, Z31_4, Y31_0, Y31_1, Y31_2, Y31_3, Y31_4⟩ := cells5 BK133) | (go_at_call 25; (with_reducible refine (p_areNames.calls k _ _ l0_2 true _ (Cs HR0_2) HC0_2.out A17.out).mono ?_); rintro e w32 ⟨rfl, hb⟩; replace BK133 := Bb BK133 hb; replace HB := Bs hb; clear hb; obtain ⟨Z33_0, Z33_1, Z33_2, Z33_3, Z33_4, Y33_0, Y33_1, Y33_2, Y33_3, Y33_4⟩ := cells5 BK133) | (go_at_call 25; (with_reducible refine (p_areNames.calls k _ _ l0_3 false _ (Cs HR0_3) HC0_3.out A19.out).mono ?_); rintro e w34 ⟨rfl, hb⟩; replace BK133 := Bb BK133 hb; replace HB := Bs hb; clear hb));go_meet
    case rel => exact ⟨_, (true), Rs, H', ⟨On⟩, ⟨(Bk BK133)⟩, ⟨Bw⟩⟩
   replace c18 := bf c18;subst c18;rw [if_neg (show ¬ (false = true) by decide)] at H;have H' := Am H;clear H;obtain ⟨Z35_0, Z35_1, Z35_2, Z35_3, Z35_4, Y35_0, Y35_1, Y35_2, Y35_3, Y35_4⟩ := cells5 BK133;go_wp2_with (first | (go_at_call 25; (with_reducible refine (p_areNames.calls k _ _ l0_1 true _ (Cs HR0_1) HC0_1.out A15.out).mono ?_); rintro e w36 ⟨rfl, hb⟩; replace BK133 := Bb BK133 hb; replace HB := Bs hb; clear hb; obtain ⟨Z37_0, Z37_1, Z37_2, Z37_3, Z37_4, Y37_0, Y37_1, Y37_2, Y37_3, Y37_4⟩ := cells5 BK133) | (go_at_call 25; (with_reducible refine (p_areNames.calls k _ _ l0_2 false _ (Cs HR0_2) HC0_2.out A17.out).mono ?_); rintro e w38 ⟨rfl, hb⟩; replace BK133 := Bb BK133 hb; replace HB := Bs hb; clear hb));go_meet
   case rel => exact ⟨_, (true), Rs, H', ⟨On⟩, ⟨(Bk BK133)⟩, ⟨Bw⟩⟩
  replace c16 := bf c16;subst c16;rw [if_neg (show ¬ (false = true) by decide)] at H;have H' := Am H;clear H;obtain ⟨Z39_0, Z39_1, Z39_2, Z39_3, Z39_4, Y39_0, Y39_1, Y39_2, Y39_3, Y39_4⟩ := cells5 BK133;go_wp2_with (first | (go_at_call 25; (with_reducible refine (p_areNames.calls k _ _ l0_1 false _ (Cs HR0_1) HC0_1.out A15.out).mono ?_); rintro e w40 ⟨rfl, hb⟩; replace BK133 := Bb BK133 hb; replace HB := Bs hb; clear hb));go_meet
  case rel => exact ⟨_, (true), Rs, H', ⟨On⟩, ⟨(Bk BK133)⟩, ⟨Bw⟩⟩
 case rest =>
  clear HC7;(try clear c1);(try clear c2);(try clear p2);(try clear c3);(try clear c9);(try clear c11);(try clear c11b0);(try clear c13);(try clear c13b0);(try clear c16);(try clear c18);(try clear c20);(try clear c24);(try clear Z12_0 Z12_1 Z12_2 Z12_3 Z12_4);(try clear Z14_0 Z14_1 Z14_2 Z14_3 Z14_4);(try clear Z22_0 Z22_1 Z22_2 Z22_3 Z22_4);(try clear Z24_0 Z24_1 Z24_2 Z24_3 Z24_4);(try clear Z26_0 Z26_1 Z26_2 Z26_3 Z26_4);(try clear Z28_0 Z28_1 Z28_2 Z28_3 Z28_4);(try clear Z29_0 Z29_1 Z29_2 Z29_3 Z29_4);(try clear Z31_0 Z31_1 Z31_2 Z31_3 Z31_4);(try clear Z33_0 Z33_1 Z33_2 Z33_3 Z33_4);(try clear Z35_0 Z35_1 Z35_2 Z35_3 Z35_4);(try clear Z37_0 Z37_1 Z37_2 Z37_3 Z37_4);(try clear Z39_0 Z39_1 Z39_2 Z39_3 Z39_4);(try clear Z5_0 Z5_1 Z5_2 Z5_3 Z5_4);(try clear Z9_0 Z9_1 Z9_2 Z9_3 Z9_4);(try clear Y12_0 Y12_1 Y12_2 Y12_3 Y12_4);(try clear Y14_0 Y14_1 Y14_2 Y14_3 Y14_4);(try clear Y22_0 Y22_1 Y22_2 Y22_3 Y22_4);(try clear Y24_0 Y24_1 Y24_2 Y24_3 Y24_4);(try clear Y26_0 Y26_1 Y26_2 Y26_3 Y26_4);(try clear Y28_0 Y28_1 Y28_2 Y28_3 Y28_4);(try clear Y29_0 Y29_1 Y29_2 Y29_3 Y29_4);(try clear Y31_0 Y31_1 Y31_2 Y31_3 Y31_4);(try clear Y33_0 Y33_1 Y33_2 Y33_3 Y33_4);(try clear Y35_0 Y35_1 Y35_2 Y35_3 Y35_4);(try clear Y37_0 Y37_1 Y37_2 Y37_3 Y37_4);(try clear Y39_0 Y39_1 Y39_2 Y39_3 Y39_4);(try clear Y5_0 Y5_1 Y5_2 Y5_3 Y5_4);(try clear Y9_0 Y9_1 Y9_2 Y9_3 Y9_4);obtain ⟨kq, x38_6, rfl, HA, HJ6, BK133, HB⟩ := hcut
  cases kq with
  | zero => exact absurd HA.out (by simp [p_Check.j0])
  | succ kj6 =>
   have H := HA.out;clear HA;simp only [p_Check.j0] at H
   by_cases c41 : x38_6 = true
   ·subst c41;rw [if_pos rfl] at H;obtain rfl := si H;go_wp2;go_ret;exact ⟨Re, Bw⟩
   replace c41 := bf c41;subst c41;rw [if_neg (show ¬ (false = true) by decide)] at H;have H' := Am H;clear H;obtain ⟨Z42_0, Z42_1, Z42_2, Z42_3, Z42_4, Y42_0, Y42_1, Y42_2, Y42_3, Y42_4⟩ := cells5 BK133;go_wp2
   go_loopg [3, 42] kj6 (fun kq v3 v42 w' => ∃ (x3_2 : List ByteArray) (x42_2 : Int), v42 = .int .i64 x42_2 ∧ Aside0 (p_Check.l0 kq x3_2 l0_0 (l0_0.length : Int) x42_2 l0_0 l0_1 l0_2 l0_3 a0_4 = some r) ∧ Aside0 (kq ≤ kj6) ∧ Aside0 (Kd.R Kd.string 9 w' w.heap.size (fun _ => True) v3 x3_2) ∧ Aside0 (w'.heap[gb133]? = some (.cells #[(.slice A0_0 l0_0.length c0_0), (.slice A0_1 l0_1.length c0_1), (.slice A0_2 l0_2.length c0_2), (.slice A0_3 l0_3.length c0_3), .int .i64 a0_4] 25 (0, 0))) ∧ Aside0 (Below w.heap.size w w'))
   case atStart => exact ⟨(([] : List ByteArray)), (0), Rs, H', ⟨Nat.le_refl _⟩, ⟨by first | exact Kd.R_nil _ _ _ _ _ | exact Kd.N_nil _ _ _ _ _ | exact Kd.V_nil _ _ _ _ _ | exact Kd.Q_nil _ _ _ _ _ | exact Kd.S_nil _ _ _ _ _⟩, ⟨(Bk BK133)⟩, ⟨Bw⟩⟩
   case round =>
    clear H';(try clear c1);(try clear c2);(try clear p2);(try clear c3);(try clear c4);(try clear c9);(try clear c11);(try clear c11b0);(try clear c13);(try clear c13b0);(try clear c16);(try clear c18);(try clear c20);(try clear c24);(try clear c41);(try clear Z12_0 Z12_1 Z12_2 Z12_3 Z12_4);(try clear Z14_0 Z14_1 Z14_2 Z14_3 Z14_4);(try clear Z22_0 Z22_1 Z22_2 Z22_3 Z22_4);(try clear Z24_0 Z24_1 Z24_2 Z24_3 Z24_4);(try clear Z26_0 Z26_1 Z26_2 Z26_3 Z26_4);(try clear Z28_0 Z28_1 Z28_2 Z28_3 Z28_4);(try clear Z29_0 Z29_1 Z29_2 Z29_3 Z29_4);(try clear Z31_0 Z31_1 Z31_2 Z31_3 Z31_4);(try clear Z33_0 Z33_1 Z33_2 Z33_3 Z33_4);(try clear Z35_0 Z35_1 Z35_2 Z35_3 Z35_4);(try clear Z37_0 Z37_1 Z37_2 Z37_3 Z37_4);(try clear Z39_0 Z39_1 Z39_2 Z39_3 Z39_4);(try clear Z42_0 Z42_1 Z42_2 Z42_3 Z42_4);(try clear Z5_0 Z5_1 Z5_2 Z5_3 Z5_4);(try clear Z9_0 Z9_1 Z9_2 Z9_3 Z9_4);(try clear Y12_0 Y12_1 Y12_2 Y12_3 Y12_4);(try clear Y14_0 Y14_1 Y14_2 Y14_3 Y14_4);(try clear Y22_0 Y22_1 Y22_2 Y22_3 Y22_4);(try clear Y24_0 Y24_1 Y24_2 Y24_3 Y24_4);(try clear Y26_0 Y26_1 Y26_2 Y26_3 Y26_4);(try clear Y28_0 Y28_1 Y28_2 Y28_3 Y28_4);(try clear Y29_0 Y29_1 Y29_2 Y29_3 Y29_4);(try clear Y31_0 Y31_1 Y31_2 Y31_3 Y31_4);(try clear Y33_0 Y33_1 Y33_2 Y33_3 Y33_4);(try clear Y35_0 Y35_1 Y35_2 Y35_3 Y35_4);(try clear Y37_0 Y37_1 Y37_2 Y37_3 Y37_4);(try clear Y39_0 Y39_1 Y39_2 Y39_3 Y39_4);(try clear Y42_0 Y42_1 Y42_2 Y42_3 Y42_4);(try clear Y5_0 Y5_1 Y5_2 Y5_3 Y5_4);(try clear Y9_0 Y9_1 Y9_2 Y9_3 Y9_4);(try clear p2);obtain ⟨x3_2, x42_2, rfl, HA, HK2, HO_3, BK133, HB⟩ := hrel
    cases gk with
    | zero => exact absurd HA.out (by simp [p_Check.l0])
    | succ k2 =>
     have H := HA.out;clear HA;simp only [p_Check.l0] at H
     by_cases c43 : x42_2 < (l0_0.length : Int)
     ·rw [if_pos c43] at H;have c43b0 := decide_eq_true c43;clear c43
      by_cases c44 : 0 ≤ x42_2
      ·rw [if_pos c44] at H;have c44b0 := decide_eq_true c44;clear c44
       by_cases c45 : x42_2 < (l0_0.length : Int)
       ·rw [if_pos c45] at H;have c45b0 := decide_eq_true c45;clear c45;obtain ⟨t142, A46, H⟩ := bx H;(try dsimp -simprocs only at H)
        by_cases c47 : t142 = true
        ·subst c47;rw [if_pos rfl] at H;obtain rfl := si H;have p140 : 0 ≤ (x42_2 : Int) := Od;have q140 : x42_2 < (l0_0.length : Int) := Od;obtain ⟨ad140, A140_1, c140_1, e140, hx140_0, hx140_1, HC140_1, HR140_1⟩ := at'_T38 HR0_0.out x42_2 p140 q140;cases e140;replace p140 := eq_true p140;replace q140 := eq_true q140;go_wp2_with (first | ((with_reducible refine gate_dst (N := 5) rfl ?_); refine boxE 38 5 (cs := #[.string (⟨#[]⟩ : ByteArray), .slice none 0 0]) ?_; intro gb141 hg w48 hbox hb; have n0_ := Am (Kd.R_below (Rk HO_3.out) hb); have n1_ := Bb BK133 hb; have n2_ := Bs hb; have n3_ := Am (hbox); have n4_ := Am (Gg hg); have n5_ := Am (Gg hg); have n6_ := Nl hg BK133; have n7_ := Ng hg BK133; clear HO_3; clear BK133; clear HB; have HO_3 := n0_; have BK133 := n1_; have HB := n2_; have BK141 := n3_; have GW141 := n4_; have GE141 := n5_; have NB133_141 := n6_; have NB141_133 := n7_; clear n0_ n1_ n2_ n3_ n4_ n5_ n6_ n7_; clear hb hbox hg; have hnb49 := NB141_133.out; have hnc49 := NB133_141.out; obtain ⟨Z50_0, Z50_1, Y50_0, Y50_1⟩ := cells2 BK141) | ((with_reducible refine gate_callee (f := 28) rfl ?_); refine goL (some 48) Tryz.func28 #[.string ((rd_T38 l0_0 x42_2).f0)] ?_; (with_reducible refine (p_never.calls k2 ((rd_T38 l0_0 x42_2).f0) true _ A46.out).mono ?_); rintro e w51 ⟨rfl, hb⟩; refine ⟨_, rfl, ?_⟩; have n0_ := Am (Kd.R_below (Rk (Kd.R_mono (Kd.R_far (p := ⟨gb141, 1, none⟩) (Kd.R_far (p := ⟨gb141, 0, none⟩) (Kd.R_types HO_3.out BK141.out (by decide)) (fun _ hk => hk.2) (.string ((rd_T38 l0_0 x42_2).f0))) (fun _ hk => hk.2) (.slice A140_1 ((rd_T38 l0_0 x42_2).f1).length c140_1)) (fun _ h_ => h_.1))) hb); have n1_ := Am (blk_below (g := gb133) (o := .cells #[.slice (some ad140) l0_0.length c0_0, .slice A0_1 l0_1.length c0_1, .slice A0_2 l0_2.length c0_2, .slice A0_3 l0_3.length c0_3, .int .i64 a0_4] 25 (0, 0)) (Bf BK133) hb); have n2_ := Am (blk_below (g := gb141) (o := .cells #[.string ((rd_T38 l0_0 x42_2).f0), .slice A140_1 ((rd_T38 l0_0 x42_2).f1).length c140_1] 38 (0, 0)) (Bp BK141) hb); have n3_ := Bs hb; clear HO_3; clear BK133; clear BK141; clear HB; have HO_3 := n0_; have BK133 := n1_; have BK141 := n2_; have HB := n3_; clear n0_ n1_ n2_ n3_; (try clear hb); (try clear hb2); (try clear hk); (try clear hi)))
         go_ret;exact ⟨Re, Bw⟩
        replace c47 := bf c47;subst c47;rw [if_neg (show ¬ (false = true) by decide)] at H;obtain ⟨t143, A52, H⟩ := bx H;(try dsimp -simprocs only at H)
        by_cases c53 : t143 = true
        ·subst c53;rw [if_pos rfl] at H;obtain rfl := si H;have p140 : 0 ≤ (x42_2 : Int) := Od;have q140 : x42_2 < (l0_0.length : Int) := Od;obtain ⟨ad140, A140_1, c140_1, e140, hx140_0, hx140_1, HC140_1, HR140_1⟩ := at'_T38 HR0_0.out x42_2 p140 q140;cases e140;replace p140 := eq_true p140;replace q140 := eq_true q140;go_wp2_with (first | ((with_reducible refine gate_dst (N := 5) rfl ?_); refine boxE 38 5 (cs := #[.string (⟨#[]⟩ : ByteArray), .slice none 0 0]) ?_; intro gb141 hg w54 hbox hb; have n0_ := Am (Kd.R_below (Rk HO_3.out) hb); have n1_ := Bb BK133 hb; have n2_ := Bs hb; have n3_ := Am (hbox); have n4_ := Am (Gg hg); have n5_ := Am (Gg hg); have n6_ := Nl hg BK133; have n7_ := Ng hg BK133; clear HO_3; clear BK133; clear HB; have HO_3 := n0_; have BK133 := n1_; have HB := n2_; have BK141 := n3_; have GW141 := n4_; have GE141 := n5_; have NB133_141 := n6_; have NB141_133 := n7_; clear n0_ n1_ n2_ n3_ n4_ n5_ n6_ n7_; clear hb hbox hg; have hnb55 := NB141_133.out; have hnc55 := NB133_141.out; obtain ⟨Z56_0, Z56_1, Y56_0, Y56_1⟩ := cells2 BK141) | ((with_reducible refine gate_callee (f := 28) rfl ?_); refine goL (some 48) Tryz.func28 #[.string ((rd_T38 l0_0 x42_2).f0)] ?_; (with_reducible refine (p_never.calls k2 ((rd_T38 l0_0 x42_2).f0) false _ A46.out).mono ?_); rintro e w57 ⟨rfl, hb⟩; refine ⟨_, rfl, ?_⟩; have n0_ := Am (Kd.R_below (Rk (Kd.R_mono (Kd.R_far (p := ⟨gb141, 1, none⟩) (Kd.R_far (p := ⟨gb141, 0, none⟩) (Kd.R_types HO_3.out BK141.out (by decide)) (fun _ hk => hk.2) (.string ((rd_T38 l0_0 x42_2).f0))) (fun _ hk => hk.2) (.slice A140_1 ((rd_T38 l0_0 x42_2).f1).length c140_1)) (fun _ h_ => h_.1))) hb); have n1_ := Am (blk_below (g := gb133) (o := .cells #[.slice (some ad140) l0_0.length c0_0, .slice A0_1 l0_1.length c0_1, .slice A0_2 l0_2.length c0_2, .slice A0_3 l0_3.length c0_3, .int .i64 a0_4] 25 (0, 0)) (Bf BK133) hb); have n2_ := Am (blk_below (g := gb141) (o := .cells #[.string ((rd_T38 l0_0 x42_2).f0), .slice A140_1 ((rd_T38 l0_0 x42_2).f1).length c140_1] 38 (0, 0)) (Bp BK141) hb); have n3_ := Bs hb; clear HO_3; clear BK133; clear BK141; clear HB; have HO_3 := n0_; have BK133 := n1_; have BK141 := n2_; have HB := n3_; clear n0_ n1_ n2_ n3_; (try clear hb); (try clear hb2); (try clear hk); (try clear hi); obtain ⟨Z58_0, Z58_1, Z58_2, Z58_3, Z58_4, Y58_0, Y58_1, Y58_2, Y58_3, Y58_4⟩ := cells5 BK133; obtain ⟨Z59_0, Z59_1, Y59_0, Y59_1⟩ := cells2 BK141) | (go_at_call 29; (with_reducible refine (slC_.calls k2 _ _ l0_3 ((rd_T38 l0_0 x42_2).f0) true _ (Cs HR0_3) HC0_3.out A52.out).mono ?_); rintro e w' ⟨rfl, ⟨nd, rfl⟩⟩))
         go_ret;exact ⟨Re, Bw⟩
        replace c53 := bf c53;subst c53;rw [if_neg (show ¬ (false = true) by decide)] at H;obtain ⟨t144, A60, H⟩ := bx H;(try dsimp -simprocs only at H)
        by_cases c61 : t144 = true
        ·subst c61;rw [if_pos rfl] at H;obtain ⟨t145, A62, H⟩ := bx H;(try dsimp -simprocs only at H)
         by_cases c63 : t145 = true
         ·subst c63;rw [if_pos rfl] at H;obtain rfl := si H;have p140 : 0 ≤ (x42_2 : Int) := Od;have q140 : x42_2 < (l0_0.length : Int) := Od;obtain ⟨ad140, A140_1, c140_1, e140, hx140_0, hx140_1, HC140_1, HR140_1⟩ := at'_T38 HR0_0.out x42_2 p140 q140;cases e140;replace p140 := eq_true p140;replace q140 := eq_true q140;go_wp2_with (first | ((with_reducible refine gate_dst (N := 5) rfl ?_); refine boxE 38 5 (cs := #[.string (⟨#[]⟩ : ByteArray), .slice none 0 0]) ?_; intro gb141 hg w64 hbox hb; have n0_ := Am (Kd.R_below (Rk HO_3.out) hb); have n1_ := Bb BK133 hb; have n2_ := Bs hb; have n3_ := Am (hbox); have n4_ := Am (Gg hg); have n5_ := Am (Gg hg); have n6_ := Nl hg BK133; have n7_ := Ng hg BK133; clear HO_3; clear BK133; clear HB; have HO_3 := n0_; have BK133 := n1_; have HB := n2_; have BK141 := n3_; have GW141 := n4_; have GE141 := n5_; have NB133_141 := n6_; have NB141_133 := n7_; clear n0_ n1_ n2_ n3_ n4_ n5_ n6_ n7_; clear hb hbox hg; have hnb65 := NB141_133.out; have hnc65 := NB133_141.out; obtain ⟨Z66_0, Z66_1, Y66_0, Y66_1⟩ := cells2 BK141) | ((with_reducible refine gate_callee (f := 28) rfl ?_); refine goL (some 48) Tryz.func28 #[.string ((rd_T38 l0_0 x42_2).f0)] ?_; (with_reducible refine (p_never.calls k2 ((rd_T38 l0_0 x42_2).f0) false _ A46.out).mono ?_); rintro e w67 ⟨rfl, hb⟩; refine ⟨_, rfl, ?_⟩; have n0_ := Am (Kd.R_below (Rk (Kd.R_mono (Kd.R_far (p := ⟨gb141, 1, none⟩) (Kd.R_far (p := ⟨gb141, 0, none⟩) (Kd.R_types HO_3.out BK141.out (by decide)) (fun _ hk => hk.2) (.string ((rd_T38 l0_0 x42_2).f0))) (fun _ hk => hk.2) (.slice A140_1 ((rd_T38 l0_0 x42_2).f1).length c140_1)) (fun _ h_ => h_.1))) hb); have n1_ := Am (blk_below (g := gb133) (o := .cells #[.slice (some ad140) l0_0.length c0_0, .slice A0_1 l0_1.length c0_1, .slice A0_2 l0_2.length c0_2, .slice A0_3 l0_3.length c0_3, .int .i64 a0_4] 25 (0, 0)) (Bf BK133) hb); have n2_ := Am (blk_below (g := gb141) (o := .cells #[.string ((rd_T38 l0_0 x42_2).f0), .slice A140_1 ((rd_T38 l0_0 x42_2).f1).length c140_1] 38 (0, 0)) (Bp BK141) hb); have n3_ := Bs hb; clear HO_3; clear BK133; clear BK141; clear HB; have HO_3 := n0_; have BK133 := n1_; have BK141 := n2_; have HB := n3_; clear n0_ n1_ n2_ n3_; (try clear hb); (try clear hb2); (try clear hk); (try clear hi); obtain ⟨Z68_0, Z68_1, Z68_2, Z68_3, Z68_4, Y68_0, Y68_1, Y68_2, Y68_3, Y68_4⟩ := cells5 BK133; obtain ⟨Z69_0, Z69_1, Y69_0, Y69_1⟩ := cells2 BK141) | (go_at_call 29; (with_reducible refine (slC_.calls k2 _ _ l0_3 ((rd_T38 l0_0 x42_2).f0) false _ (Cs HR0_3) HC0_3.out A52.out).mono ?_); rintro e w' ⟨rfl, ⟨nd, rfl⟩⟩) | (go_at_call 25; (with_reducible refine (p_areNames.calls k2 _ _ ((rd_T38 l0_0 x42_2).f1) true _ ?side1 HC140_1.out A60.out).mono ?_); (case side1 => exact Cd (Kd.C_below HR140_1.out Bw)); rintro e w70 ⟨rfl, hb⟩; have n0_ := Am (Kd.R_below (Rk HO_3.out) hb); have n1_ := Bb BK133 hb; have n2_ := Bb BK141 hb; have n3_ := Bs hb; clear HO_3; clear BK133; clear BK141; clear HB; have HO_3 := n0_; have BK133 := n1_; have BK141 := n2_; have HB := n3_; clear n0_ n1_ n2_ n3_; (try clear hb); (try clear hb2); (try clear hk); (try clear hi); obtain ⟨Z71_0, Z71_1, Y71_0, Y71_1⟩ := cells2 BK141) | (go_at_call 26; (with_reducible refine (cf_acts.calls _ _ ((rd_T38 l0_0 x42_2).f1) true _ (Cs HR140_1) HC140_1.out A62.out).mono ?_); rintro e w' ⟨rfl, ⟨nd, rfl⟩⟩))
          go_ret;exact ⟨Re, Bw⟩
         replace c63 := bf c63;subst c63;rw [if_neg (show ¬ (false = true) by decide)] at H
         by_cases c72 : x3_2.length < 8796093022208
         ·rw [if_pos c72] at H;have LMc72 := Am c72;clear c72;obtain ⟨y146, hy146⟩ : ∃ y_ : List ByteArray, y_ = (x3_2 ++ [(rd_T38 l0_0 x42_2).f0]) := ⟨_, rfl⟩;replace H : (p_Check.l0 k2 y146 l0_0 (l0_0.length : Int) (wrap64 (x42_2 + 1)) l0_0 l0_1 l0_2 l0_3 a0_4) = some r := by first | (rw [hy146]; with_reducible exact H) | (have H2_ := (Option.bind_some _ _).symm.trans H; rw [hy146]; with_reducible exact H2_) | (have H2_ := (Option.bind_some _ _).symm.trans H; with_reducible exact H2_) | with_reducible exact H | (rw [hy146]; exact H) | exact H
          have Ny146 := Am hy146;clear hy146;have H' := Am H;clear H;have p140 : 0 ≤ (x42_2 : Int) := Od;have q140 : x42_2 < (l0_0.length : Int) := Od;obtain ⟨ad140, A140_1, c140_1, e140, hx140_0, hx140_1, HC140_1, HR140_1⟩ := at'_T38 HR0_0.out x42_2 p140 q140;cases e140;replace p140 := eq_true p140;replace q140 := eq_true q140;go_wp2_with (first | ((with_reducible refine gate_dst (N := 5) rfl ?_); refine boxE 38 5 (cs := #[.string (⟨#[]⟩ : ByteArray), .slice none 0 0]) ?_; intro gb141 hg w73 hbox hb; have n0_ := Am (Kd.R_below (Rk HO_3.out) hb); have n1_ := Bb BK133 hb; have n2_ := Bs hb; have n3_ := Am (hbox); have n4_ := Am (Gg hg); have n5_ := Am (Gg hg); have n6_ := Nl hg BK133; have n7_ := Ng hg BK133; clear HO_3; clear BK133; clear HB; have HO_3 := n0_; have BK133 := n1_; have HB := n2_; have BK141 := n3_; have GW141 := n4_; have GE141 := n5_; have NB133_141 := n6_; have NB141_133 := n7_; clear n0_ n1_ n2_ n3_ n4_ n5_ n6_ n7_; clear hb hbox hg; have hnb74 := NB141_133.out; have hnc74 := NB133_141.out; obtain ⟨Z75_0, Z75_1, Y75_0, Y75_1⟩ := cells2 BK141) | ((with_reducible refine gate_callee (f := 28) rfl ?_); refine goL (some 48) Tryz.func28 #[.string ((rd_T38 l0_0 x42_2).f0)] ?_; (with_reducible refine (p_never.calls k2 ((rd_T38 l0_0 x42_2).f0) false _ A46.out).mono ?_); rintro e w76 ⟨rfl, hb⟩; refine ⟨_, rfl, ?_⟩; have n0_ := Am (Kd.R_below (Rk (Kd.R_mono (Kd.R_far (p := ⟨gb141, 1, none⟩) (Kd.R_far (p := ⟨gb141, 0, none⟩) (Kd.R_types HO_3.out BK141.out (by decide)) (fun _ hk => hk.2) (.string ((rd_T38 l0_0 x42_2).f0))) (fun _ hk => hk.2) (.slice A140_1 ((rd_T38 l0_0 x42_2).f1).length c140_1)) (fun _ h_ => h_.1))) hb); have n1_ := Am (blk_below (g := gb133) (o := .cells #[.slice (some ad140) l0_0.length c0_0, .slice A0_1 l0_1.length c0_1, .slice A0_2 l0_2.length c0_2, .slice A0_3 l0_3.length c0_3, .int .i64 a0_4] 25 (0, 0)) (Bf BK133) hb); have n2_ := Am (blk_below (g := gb141) (o := .cells #[.string ((rd_T38 l0_0 x42_2).f0), .slice A140_1 ((rd_T38 l0_0 x42_2).f1).length c140_1] 38 (0, 0)) (Bp BK141) hb); have n3_ := Bs hb; clear HO_3; clear BK133; clear BK141; clear HB; have HO_3 := n0_; have BK133 := n1_; have BK141 := n2_; have HB := n3_; clear n0_ n1_ n2_ n3_; (try clear hb); (try clear hb2); (try clear hk); (try clear hi); obtain ⟨Z77_0, Z77_1, Z77_2, Z77_3, Z77_4, Y77_0, Y77_1, Y77_2, Y77_3, Y77_4⟩ := cells5 BK133; obtain ⟨Z78_0, Z78_1, Y78_0, Y78_1⟩ := cells2 BK141) | (go_at_call 29; (with_reducible refine (slC_.calls k2 _ _ l0_3 ((rd_T38 l0_0 x42_2).f0) false _ (Cs HR0_3) HC0_3.out A52.out).mono ?_); rintro e w' ⟨rfl, ⟨nd, rfl⟩⟩) | (go_at_call 25; (with_reducible refine (p_areNames.calls k2 _ _ ((rd_T38 l0_0 x42_2).f1) true _ ?side1 HC140_1.out A60.out).mono ?_); (case side1 => exact Cd (Kd.C_below HR140_1.out Bw)); rintro e w79 ⟨rfl, hb⟩; have n0_ := Am (Kd.R_below (Rk HO_3.out) hb); have n1_ := Bb BK133 hb; have n2_ := Bb BK141 hb; have n3_ := Bs hb; clear HO_3; clear BK133; clear BK141; clear HB; have HO_3 := n0_; have BK133 := n1_; have BK141 := n2_; have HB := n3_; clear n0_ n1_ n2_ n3_; (try clear hb); (try clear hb2); (try clear hk); (try clear hi); obtain ⟨Z80_0, Z80_1, Y80_0, Y80_1⟩ := cells2 BK141) | (go_at_call 26; (with_reducible refine (cf_acts.calls _ _ ((rd_T38 l0_0 x42_2).f1) false _ (Cs HR140_1) HC140_1.out A62.out).mono ?_); rintro e w' ⟨rfl, ⟨nd, rfl⟩⟩) | ((with_reducible refine gate_builtin (b := .append) (xs := #[.tmp 67, .tmp 70]) rfl ?_); at_builtin; refine Kd.R_append Kd.string (w0 := w) w.heap.size rfl (.tmp 67) (.tmp 70) 23 9 (.string ⟨#[]⟩) 16 rfl Tryz.underlying23 info9 rfl (by decide) (by omega) u3 x3_2 ((rd_T38 l0_0 x42_2).f0) [.string ((rd_T38 l0_0 x42_2).f0)] (fun _ => True) (fun _ => False) rfl rfl ?aP (fun _ hk => hk.elim) ?aF ?aO ?aB ?aS ?aL ?_; (case aP => exact rfl); (case aB => exact Bw); (case aF => exact (fun _ _ => trivial)); (case aO => exact (Rk HO_3.out)); (case aS => exact (below_size Bw)); (case aL => have := LMc72.out; omega); intro v147 w81 ho hb hg hat; rw [← Ny146.out] at ho; replace BK133 := Am (blk_grown (g := gb133) (o := .cells #[.slice (some ad140) l0_0.length c0_0, .slice A0_1 l0_1.length c0_1, .slice A0_2 l0_2.length c0_2, .slice A0_3 l0_3.length c0_3, .int .i64 a0_4] 25 (0, 0)) (Bk BK133) hg (Kd.R_ne HO_3.out BK133.out (by decide))); replace BK141 := Am (blk_grown (g := gb141) (o := .cells #[.string ((rd_T38 l0_0 x42_2).f0), .slice A140_1 ((rd_T38 l0_0 x42_2).f1).length c140_1] 38 (0, 0)) (Bk BK141) hg (Kd.R_ne HO_3.out BK141.out (by decide))); replace HO148 := Am (ho); replace HB := Am (hb); clear ho hb hg hat))
          go_roundg k2
          case measure => have := HJ6.out; have := HK2.out; omega
          case rel => exact ⟨(y146), (wrap64 (x42_2 + 1)), Rs, H', ⟨by have := HJ6.out; have := HK2.out; omega⟩, ⟨by (with_reducible repeat (first | apply Kd.R_alloc | apply Kd.R_drewN | apply Kd.R_drew)); exact HO148.out⟩, ⟨(Bk BK133)⟩, ⟨Bw⟩⟩
         rw [if_neg c72] at H;exact absurd H (by simp)
        replace c61 := bf c61;subst c61;rw [if_neg (show ¬ (false = true) by decide)] at H;obtain rfl := si H;have p140 : 0 ≤ (x42_2 : Int) := Od;have q140 : x42_2 < (l0_0.length : Int) := Od;obtain ⟨ad140, A140_1, c140_1, e140, hx140_0, hx140_1, HC140_1, HR140_1⟩ := at'_T38 HR0_0.out x42_2 p140 q140;cases e140;replace p140 := eq_true p140;replace q140 := eq_true q140;go_wp2_with (first | ((with_reducible refine gate_dst (N := 5) rfl ?_); refine boxE 38 5 (cs := #[.string (⟨#[]⟩ : ByteArray), .slice none 0 0]) ?_; intro gb141 hg w82 hbox hb; have n0_ := Am (Kd.R_below (Rk HO_3.out) hb); have n1_ := Bb BK133 hb; have n2_ := Bs hb; have n3_ := Am (hbox); have n4_ := Am (Gg hg); have n5_ := Am (Gg hg); have n6_ := Nl hg BK133; have n7_ := Ng hg BK133; clear HO_3; clear BK133; clear HB; have HO_3 := n0_; have BK133 := n1_; have HB := n2_; have BK141 := n3_; have GW141 := n4_; have GE141 := n5_; have NB133_141 := n6_; have NB141_133 := n7_; clear n0_ n1_ n2_ n3_ n4_ n5_ n6_ n7_; clear hb hbox hg; have hnb83 := NB141_133.out; have hnc83 := NB133_141.out; obtain ⟨Z84_0, Z84_1, Y84_0, Y84_1⟩ := cells2 BK141) | ((with_reducible refine gate_callee (f := 28) rfl ?_); refine goL (some 48) Tryz.func28 #[.string ((rd_T38 l0_0 x42_2).f0)] ?_; (with_reducible refine (p_never.calls k2 ((rd_T38 l0_0 x42_2).f0) false _ A46.out).mono ?_); rintro e w85 ⟨rfl, hb⟩; refine ⟨_, rfl, ?_⟩; have n0_ := Am (Kd.R_below (Rk (Kd.R_mono (Kd.R_far (p := ⟨gb141, 1, none⟩) (Kd.R_far (p := ⟨gb141, 0, none⟩) (Kd.R_types HO_3.out BK141.out (by decide)) (fun _ hk => hk.2) (.string ((rd_T38 l0_0 x42_2).f0))) (fun _ hk => hk.2) (.slice A140_1 ((rd_T38 l0_0 x42_2).f1).length c140_1)) (fun _ h_ => h_.1))) hb); have n1_ := Am (blk_below (g := gb133) (o := .cells #[.slice (some ad140) l0_0.length c0_0, .slice A0_1 l0_1.length c0_1, .slice A0_2 l0_2.length c0_2, .slice A0_3 l0_3.length c0_3, .int .i64 a0_4] 25 (0, 0)) (Bf BK133) hb); have n2_ := Am (blk_below (g := gb141) (o := .cells #[.string ((rd_T38 l0_0 x42_2).f0), .slice A140_1 ((rd_T38 l0_0 x42_2).f1).length c140_1] 38 (0, 0)) (Bp BK141) hb); have n3_ := Bs hb; clear HO_3; clear BK133; clear BK141; clear HB; have HO_3 := n0_; have BK133 := n1_; have BK141 := n2_; have HB := n3_; clear n0_ n1_ n2_ n3_; (try clear hb); (try clear hb2); (try clear hk); (try clear hi); obtain ⟨Z86_0, Z86_1, Z86_2, Z86_3, Z86_4, Y86_0, Y86_1, Y86_2, Y86_3, Y86_4⟩ := cells5 BK133; obtain ⟨Z87_0, Z87_1, Y87_0, Y87_1⟩ := cells2 BK141) | (go_at_call 29; (with_reducible refine (slC_.calls k2 _ _ l0_3 ((rd_T38 l0_0 x42_2).f0) false _ (Cs HR0_3) HC0_3.out A52.out).mono ?_); rintro e w' ⟨rfl, ⟨nd, rfl⟩⟩) | (go_at_call 25; (with_reducible refine (p_areNames.calls k2 _ _ ((rd_T38 l0_0 x42_2).f1) false _ ?side1 HC140_1.out A60.out).mono ?_); (case side1 => exact Cd (Kd.C_below HR140_1.out Bw)); rintro e w88 ⟨rfl, hb⟩; have n0_ := Am (Kd.R_below (Rk HO_3.out) hb); have n1_ := Bb BK133 hb; have n2_ := Bb BK141 hb; have n3_ := Bs hb; clear HO_3; clear BK133; clear BK141; clear HB; have HO_3 := n0_; have BK133 := n1_; have BK141 := n2_; have HB := n3_; clear n0_ n1_ n2_ n3_; (try clear hb); (try clear hb2); (try clear hk); (try clear hi)))
        go_ret;exact ⟨Re, Bw⟩
       rw [if_neg c45] at H;exact absurd H (by simp)
      rw [if_neg c44] at H;exact absurd H (by simp)
     rw [if_neg c43] at H;have c43b0 := decide_eq_false c43;clear c43;obtain ⟨t139, A89, H⟩ := bx H;replace H : (if t139 = true then (some 0) else (some 1)) = some r := H
     by_cases c90 : t139 = true
     ·subst c90;rw [if_pos rfl] at H;obtain rfl := si H;obtain ⟨Ao91, co91, eo91⟩ := Kd.R_slice HO_3.out;subst eo91;go_wp2_with (first | ((with_reducible refine gate_callee (f := 25) rfl ?_); refine goL (some 74) Tryz.func25 #[.slice Ao91 x3_2.length co91] ?_; (with_reducible refine (p_areNames.calls k2 _ _ x3_2 true _ ?side1 ?side2 A89.out).mono ?_); (case side1 => repeat (first | exact (Kd.R_reads' HO_3.out).2.2 | (with_reducible refine Kd.C_alloc ?_ _) | (with_reducible refine Kd.C_drewN ?_ _) | (with_reducible refine Kd.C_drew ?_))); (case side2 => exact (Kd.R_reads' HO_3.out).2.1); rintro e w92 ⟨rfl, hb⟩; refine ⟨_, rfl, ?_⟩; have n0_ := Am (Kd.R_below (Rk HO_3.out) hb); have n1_ := Bb BK133 hb; have n2_ := Bs hb; clear HO_3; clear BK133; clear HB; have HO_3 := n0_; have BK133 := n1_; have HB := n2_; clear n0_ n1_ n2_; (try clear hb); (try clear hb2); (try clear hk); (try clear hi)));go_ret;exact ⟨Re, Bw⟩
     replace c90 := bf c90;subst c90;rw [if_neg (show ¬ (false = true) by decide)] at H;obtain rfl := si H;obtain ⟨Ao93, co93, eo93⟩ := Kd.R_slice HO_3.out;subst eo93;go_wp2_with (first | ((with_reducible refine gate_callee (f := 25) rfl ?_); refine goL (some 74) Tryz.func25 #[.slice Ao93 x3_2.length co93] ?_; (with_reducible refine (p_areNames.calls k2 _ _ x3_2 false _ ?side1 ?side2 A89.out).mono ?_); (case side1 => repeat (first | exact (Kd.R_reads' HO_3.out).2.2 | (with_reducible refine Kd.C_alloc ?_ _) | (with_reducible refine Kd.C_drewN ?_ _) | (with_reducible refine Kd.C_drew ?_))); (case side2 => exact (Kd.R_reads' HO_3.out).2.1); rintro e w94 ⟨rfl, hb⟩; refine ⟨_, rfl, ?_⟩; have n0_ := Am (Kd.R_below (Rk HO_3.out) hb); have n1_ := Bb BK133 hb; have n2_ := Bs hb; clear HO_3; clear BK133; clear HB; have HO_3 := n0_; have BK133 := n1_; have HB := n2_; clear n0_ n1_ n2_; (try clear hb); (try clear hb2); (try clear hk); (try clear hi)));go_ret;exact ⟨Re, Bw⟩

theorem info38_ : (Tryz.prog.info? 38).map (fun i => (i.zero, i.size, i.bytes)) = some (some (.agg #[(.string ⟨#[]⟩), (.slice none 0 0)]), 2, 40) := by kernel_rfl
abbrev oddC : List PanicEntry := [{ v := .iface 112 (.agg #[]), recovered := false }]
theorem must_yes (w : World) : Calls Tryz.prog 76 #[.bool true] w fun e w' => e = .returned (.tuple #[]) ∧ w = w' := by
  go_enter Tryz.func76, Tryz.ntmps76
  go_wp2
  go_end0
  exact ⟨rfl, rfl⟩
theorem must_no (w : World) : Calls Tryz.prog 76 #[.bool false] w fun e w' => e = .panicked oddC ∧ w = w' := by
  have hp : ∀ (t : TypeId) (v : Value) (w : World), (Instr.panic (.iface t v)).run Tryz.prog w = .halt (.panic (.iface t v)) w := fun _ _ _ => rfl
  go_enter Tryz.func76, Tryz.ntmps76
  go_wp2
  exact ⟨rfl, rfl, rfl⟩
def numGo : List UInt8 → Int → Option Int
  | [], n => some n
  | c :: r, n => if 48 ≤ (c.toNat : Int) ∧ (c.toNat : Int) ≤ 57 then numGo r (10 * n + ((c.toNat : Int) - 48)) else none
def numOk (s : ByteArray) : Bool := s.size == 1 || (s.size == 2 && bt s 0 != 48)
def numS (s : ByteArray) : Option Int := if numOk s = true then numGo s.data.toList 0 else none
theorem num_bad (s : ByteArray) (w : World) (h : numOk s = false) :
  Calls Tryz.prog 77 #[.string s] w fun e w' => e = .panicked oddC ∧ Below w.heap.size w w' := by
 unfold numOk at h;rw [Bool.or_eq_false_iff] at h;obtain ⟨h1, h2⟩ := h;have b1 : ((s.size : Int) == 1) = false := by rw [beq_eq_false_iff_ne] at h1 ⊢; omega
 by_cases h3 : s.size = 2
 ·have b2 : ((s.size : Int) == 2) = true := by rw [beq_iff_eq]; omega
  have hx : ∀ h : 0 < s.size, ((s[0]'h).toNat : Int) = bt s 0 := bt_at s 0;have qi_ : (0 < (s.size : Int)) = True := eq_true (by omega);have q_ : (0 < s.size) = True := eq_true (by omega)
  have b3 : (bt s 0 != 48) = false := by
   rw [h3] at h2; simpa using h2
  clear h1 h2 h3;go_enter Tryz.func77, Tryz.ntmps77;go_wp2_with (go_at_call 76; refine (must_no _).mono ?_; rintro e w' ⟨rfl, rfl⟩);exact ⟨rfl, rfl, Below.refl _ _⟩
 have b2 : ((s.size : Int) == 2) = false := by rw [beq_eq_false_iff_ne]; omega
 clear h1 h2 h3;go_enter Tryz.func77, Tryz.ntmps77;go_wp2_with (go_at_call 76; refine (must_no _).mono ?_; rintro e w' ⟨rfl, rfl⟩);exact ⟨rfl, rfl, Below.refl _ _⟩
def numEnd : Option Int → Ending
  | some r => .returned (.int .i64 r)
  | none => .panicked oddC
def NumLoop (s : ByteArray) (R : Option Int) (w : World) (k : Nat) (n : Int) (m : Nat) (wr : World) : Prop :=
  k ≤ s.size ∧ Aside0 (numGo (s.data.toList.drop k) n = R) ∧ Aside0 (k = 0 ∧ n = 0 ∨ k = 1 ∧ 0 ≤ n ∧ n ≤ 9 ∨ 2 ≤ k ∧ 0 ≤ n ∧ n ≤ 99) ∧ wr = (Lib.bytesWorld w 5 s).drewN m
theorem num_walk (s : ByteArray) (R : Option Int) (w : World) (h : numOk s = true) (hR : numGo s.data.toList 0 = R) :
  Calls Tryz.prog 77 #[.string s] w fun e w' => e = numEnd R ∧ Below w.heap.size w w' := by
 have hsz : s.size = 1 ∨ s.size = 2 := by
  unfold numOk at h;rw [Bool.or_eq_true] at h
  rcases h with h | h
  ·left; simpa using h
  right; rw [Bool.and_eq_true] at h; simpa using h.1
 have hsz2 : s.size ≤ 2 := by omega
 have hx : ∀ h : 0 < s.size, ((s[0]'h).toNat : Int) = bt s 0 := bt_at s 0;have qi_ : (0 < (s.size : Int)) = True := eq_true (by omega);have q_ : (0 < s.size) = True := eq_true (by omega);have hcv := fun W => Lib.run_convert_string_bytes (P := Tryz.prog) W 9 44 5 s Tryz.underlying9 Tryz.underlying44 Tryz.underlying5
 have hl : s.data.toList.length = s.size := by simp
 have HL := Am hl;have HR := Am hR;have HS := Am hsz;clear hl hR
 have hcnd : ((s.size : Int) == 1) = true ∨ ((s.size : Int) == 1) = false ∧ ((s.size : Int) == 2) = true ∧ (bt s 0 != 48) = true := by
  rcases hsz with h1 | h2
  ·left; rw [beq_iff_eq]; omega
  right
  unfold numOk at h;rw [h2] at h ⊢;exact ⟨rfl, rfl, by simpa using h⟩
 clear h hsz
 rcases hcnd with b1 | ⟨b1, b2, b3⟩
 ·go_enter Tryz.func77, Tryz.ntmps77;go_wp2_with (go_at_call 76; refine (must_yes _).mono ?_; rintro e w' ⟨rfl, rfl⟩)
  go_loopw [3, 23] (fun v3 v23 wr => ∃ (k : Nat) (n : Int) (m : Nat), v23 = .int .i64 k ∧ v3 = .int .i64 n ∧ NumLoop s R w k n m wr) (fun _ i _ => s.size - (intOf i).toNat)
  case atStart => exact ⟨0, 0, 0, rfl, rfl, Nat.zero_le _, ⟨HR.out⟩, ⟨.inl ⟨rfl, rfl⟩⟩, rfl⟩
  case round =>
   obtain ⟨k, n, m, rfl, rfl, hk, HG, HN, rfl⟩ := hrel
   by_cases hlt : k < s.size
   ·obtain ⟨c, hc⟩ : ∃ c, s.data.toList[k]? = some c := ⟨_, List.getElem?_eq_getElem (by rw [HL.out]; exact hlt)⟩;obtain ⟨x, hx_⟩ : ∃ x : Int, x = (c.toNat : Int) := ⟨_, rfl⟩
    have hcell : (Lib.bytesWorld w 5 s).cell? ⟨w.heap.size, k, none⟩ = some (.int .u8 x) := by
     have h := Lib.bytesWorld_cell w 5 s k hlt;rw [List.getD_eq_getElem?_getD, hc] at h;rw [h, hx_]; rfl
    have HD := Am (show s.data.toList.drop k = c :: s.data.toList.drop (k + 1) by
     obtain ⟨h1, h2⟩ := List.getElem?_eq_some_iff.mp hc
     rw [List.drop_eq_getElem_cons h1, h2])
    have HX := Am hx_;have hn0 : 0 ≤ n := by have := HN.out; omega
    have hn1 : n ≤ 99 := by have := HN.out; omega
    have hx0 : 0 ≤ x := by omega
    have hx1 : x ≤ 255 := by have := c.toNat_lt; omega
    clear hx_ hc
    by_cases hfig : 48 ≤ x ∧ x ≤ 57
    ·have A := Am (fig_yes hfig)
     have HG' := Am (show numGo (s.data.toList.drop (k + 1)) (10 * n + (x - 48)) = R by
      have h := HG.out;rw [HD.out] at h;unfold numGo at h;rw [if_pos (by rw [← HX.out]; exact hfig), ← HX.out] at h
      exact h)
     obtain ⟨hf1, hf2⟩ := hfig;have hm1 : (x - 48) % 256 = x - 48 := by omega
     go_wp2_with (first | (go_at_call 63; (with_reducible refine (kind_Figure.calls x true _ A.out).mono ?_); rintro e w' ⟨rfl, ⟨nd, rfl⟩⟩) | (go_at_call 76; refine (must_yes _).mono ?_; rintro e w' ⟨rfl, rfl⟩));go_roundw
     case rel => exact ⟨k + 1, 10 * n + (x - 48), _, by go_num, by first | rfl | go_num, by omega, HG', ⟨by have := HN.out; omega⟩, by first | rfl | exact World.drewN_drewN _ _ _⟩
     case measure => simp [intOf]; omega
    have A := Am (fig_no hx0 hx1 hfig)
    have HE := Am (show R = none by
     have h := HG.out;rw [HD.out] at h;unfold numGo at h;rw [if_neg (by rw [← HX.out]; exact hfig)] at h
     exact h.symm)
    clear hfig;go_wp2_with (first | (go_at_call 63; (with_reducible refine (kind_Figure.calls x false _ A.out).mono ?_); rintro e w' ⟨rfl, ⟨nd, rfl⟩⟩) | (go_at_call 76; refine (must_no _).mono ?_; rintro e w' ⟨rfl, rfl⟩));exact ⟨rfl, by rw [HE.out]; rfl, by first | exact pw_below_drewN (pw_below_drewN (bytes_below (Below.refl _ _) (Nat.le_refl _) 5 s) _) _ | exact pw_below_drewN (bytes_below (Below.refl _ _) (Nat.le_refl _) 5 s) _⟩
   obtain rfl : k = s.size := by omega
   have HE := Am (show R = some n by
    have h := HG.out;rw [List.drop_of_length_le (by rw [HL.out]; omega)] at h
    exact h.symm)
   go_wp2;go_ret;exact ⟨by show Ending.returned (Value.int .i64 n) = _; rw [HE.out]; rfl, by first | exact pw_below_drewN (bytes_below (Below.refl _ _) (Nat.le_refl _) 5 s) _⟩
 go_enter Tryz.func77, Tryz.ntmps77;go_wp2_with (go_at_call 76; refine (must_yes _).mono ?_; rintro e w' ⟨rfl, rfl⟩)
 go_loopw [3, 23] (fun v3 v23 wr => ∃ (k : Nat) (n : Int) (m : Nat), v23 = .int .i64 k ∧ v3 = .int .i64 n ∧ NumLoop s R w k n m wr) (fun _ i _ => s.size - (intOf i).toNat)
 case atStart => exact ⟨0, 0, 0, rfl, rfl, Nat.zero_le _, ⟨HR.out⟩, ⟨.inl ⟨rfl, rfl⟩⟩, rfl⟩
 case round =>
  obtain ⟨k, n, m, rfl, rfl, hk, HG, HN, rfl⟩ := hrel
  by_cases hlt : k < s.size
  ·obtain ⟨c, hc⟩ : ∃ c, s.data.toList[k]? = some c := ⟨_, List.getElem?_eq_getElem (by rw [HL.out]; exact hlt)⟩;obtain ⟨x, hx_⟩ : ∃ x : Int, x = (c.toNat : Int) := ⟨_, rfl⟩
   have hcell : (Lib.bytesWorld w 5 s).cell? ⟨w.heap.size, k, none⟩ = some (.int .u8 x) := by
    have h := Lib.bytesWorld_cell w 5 s k hlt;rw [List.getD_eq_getElem?_getD, hc] at h;rw [h, hx_]; rfl
   have HD := Am (show s.data.toList.drop k = c :: s.data.toList.drop (k + 1) by
    obtain ⟨h1, h2⟩ := List.getElem?_eq_some_iff.mp hc
    rw [List.drop_eq_getElem_cons h1, h2])
   have HX := Am hx_;have hn0 : 0 ≤ n := by have := HN.out; omega
   have hn1 : n ≤ 99 := by have := HN.out; omega
   have hx0 : 0 ≤ x := by omega
   have hx1 : x ≤ 255 := by have := c.toNat_lt; omega
   clear hx_ hc
   by_cases hfig : 48 ≤ x ∧ x ≤ 57
   ·have A := Am (fig_yes hfig)
    have HG' := Am (show numGo (s.data.toList.drop (k + 1)) (10 * n + (x - 48)) = R by
     have h := HG.out;rw [HD.out] at h;unfold numGo at h;rw [if_pos (by rw [← HX.out]; exact hfig), ← HX.out] at h
     exact h)
    obtain ⟨hf1, hf2⟩ := hfig;have hm1 : (x - 48) % 256 = x - 48 := by omega
    go_wp2_with (first | (go_at_call 63; (with_reducible refine (kind_Figure.calls x true _ A.out).mono ?_); rintro e w' ⟨rfl, ⟨nd, rfl⟩⟩) | (go_at_call 76; refine (must_yes _).mono ?_; rintro e w' ⟨rfl, rfl⟩));go_roundw
    case rel => exact ⟨k + 1, 10 * n + (x - 48), _, by go_num, by first | rfl | go_num, by omega, HG', ⟨by have := HN.out; omega⟩, by first | rfl | exact World.drewN_drewN _ _ _⟩
    case measure => simp [intOf]; omega
   have A := Am (fig_no hx0 hx1 hfig)
   have HE := Am (show R = none by
    have h := HG.out;rw [HD.out] at h;unfold numGo at h;rw [if_neg (by rw [← HX.out]; exact hfig)] at h
    exact h.symm)
   clear hfig;go_wp2_with (first | (go_at_call 63; (with_reducible refine (kind_Figure.calls x false _ A.out).mono ?_); rintro e w' ⟨rfl, ⟨nd, rfl⟩⟩) | (go_at_call 76; refine (must_no _).mono ?_; rintro e w' ⟨rfl, rfl⟩));exact ⟨rfl, by rw [HE.out]; rfl, by first | exact pw_below_drewN (pw_below_drewN (bytes_below (Below.refl _ _) (Nat.le_refl _) 5 s) _) _ | exact pw_below_drewN (bytes_below (Below.refl _ _) (Nat.le_refl _) 5 s) _⟩
  obtain rfl : k = s.size := by omega
  have HE := Am (show R = some n by
   have h := HG.out;rw [List.drop_of_length_le (by rw [HL.out]; omega)] at h
   exact h.symm)
  go_wp2;go_ret;exact ⟨by show Ending.returned (Value.int .i64 n) = _; rw [HE.out]; rfl, by first | exact pw_below_drewN (bytes_below (Below.refl _ _) (Nat.le_refl _) 5 s) _⟩
theorem num_some (s : ByteArray) (n : Int) (w : World) (h : numS s = some n) :
    Calls Tryz.prog 77 #[.string s] w fun e w' => e = .returned (.int .i64 n) ∧ Below w.heap.size w w' := by
  unfold numS at h
  split at h
  · next h1 => exact (num_walk s (some n) w h1 h).mono fun e w' ⟨he, hb⟩ => ⟨he, hb⟩
  · exact absurd h (by simp)
theorem num_none (s : ByteArray) (w : World) (h : numS s = none) :
    Calls Tryz.prog 77 #[.string s] w fun e w' => e = .panicked oddC ∧ Below w.heap.size w w' := by
  unfold numS at h
  split at h
  · next h1 => exact (num_walk s none w h1 h).mono fun e w' ⟨he, hb⟩ => ⟨he, hb⟩
  · next h1 => exact num_bad s w (Bool.eq_false_iff.mpr h1)
def PolSt (B pb : Nat) (w : World) (v0 v1 v2 v3 : Value) (l0 : List S38) (l1 l2 l3 : List ByteArray) (d : Int) : Prop :=
  w.heap[pb]? = some (.cells #[v0, v1, v2, v3, .int .i64 d] 25 (0, 0)) ∧
  Kd.S k38 38 w B (fun k_ => some k_ ≠ (v1 : Value).ownBlock ∧ some k_ ≠ (v2 : Value).ownBlock ∧ some k_ ≠ (v3 : Value).ownBlock) v0 l0 ∧
  Kd.R Kd.string 9 w B (fun k_ => some k_ ≠ (v2 : Value).ownBlock ∧ some k_ ≠ (v3 : Value).ownBlock) v1 l1 ∧
  Kd.R Kd.string 9 w B (fun k_ => some k_ ≠ (v1 : Value).ownBlock ∧ some k_ ≠ (v3 : Value).ownBlock) v2 l2 ∧
  Kd.R Kd.string 9 w B (fun k_ => some k_ ≠ (v1 : Value).ownBlock ∧ some k_ ≠ (v2 : Value).ownBlock) v3 l3
theorem pol_t53 : ∀ q, q ∈ 38 :: k38.E → q ≠ 25 := by decide
theorem pol_t9 : ∀ q, q ∈ 9 :: (Kd.string).E → q ≠ 25 := by decide
theorem PolSt.below {B pb : Nat} {w w1 : World} {v0 v1 v2 v3 : Value} {l0 : List S38} {l1 l2 l3 : List ByteArray} {d : Int} (h : PolSt B pb w v0 v1 v2 v3 l0 l1 l2 l3 d) (hb : Below w.heap.size w w1) : PolSt B pb w1 v0 v1 v2 v3 l0 l1 l2 l3 d :=
  ⟨blk_below h.1 hb, Kd.S_below h.2.1 hb, Kd.R_below h.2.2.1 hb, Kd.R_below h.2.2.2.1 hb, Kd.R_below h.2.2.2.2 hb⟩
theorem PolSt.deep {B pb : Nat} {w : World} {v0 v1 v2 v3 : Value} {l0 : List S38} {l1 l2 l3 : List ByteArray} {d : Int} (h : PolSt B pb w v0 v1 v2 v3 l0 l1 l2 l3 d) (d' : Int) : PolSt B pb (w.setCell ⟨pb, 4, none⟩ (.int .i64 d')) v0 v1 v2 v3 l0 l1 l2 l3 d' :=
 ⟨blk_put h.1 4 _ rfl, Kd.S_set h.2.1 h.1 pol_t53 4 _, Kd.R_set h.2.2.1 h.1 pol_t9 4 _, Kd.R_set h.2.2.2.1 h.1 pol_t9 4 _, Kd.R_set h.2.2.2.2 h.1 pol_t9 4 _⟩
theorem PolSt.links {B pb : Nat} {w w1 : World} {v0 v1 v2 v3 u : Value} {l0 : List S38} {l1 l2 l3 m : List ByteArray} {d : Int} (h : PolSt B pb w v0 v1 v2 v3 l0 l1 l2 l3 d)
  (hr : Kd.R Kd.string 9 w1 B (fun k_ => some k_ ≠ (v2 : Value).ownBlock ∧ some k_ ≠ (v3 : Value).ownBlock) u m) (hg : w.grownBy w1 v1.ownBlock) (hat : u.ownBlock = v1.ownBlock ∨ ∃ b, u.ownBlock = some b ∧ w.heap.size ≤ b) :
  PolSt B pb (w1.setCell ⟨pb, 1, none⟩ u) v0 u v2 v3 l0 m l2 l3 d := by
 obtain ⟨hb, h0, h1, h2, h3⟩ := h;have hb1 := blk_grown hb hg (Kd.R_ne h1 hb (by decide));have g0 := Kd.S_after (v := v1) (Kd.S_mono h0 (ok' := fun k_ => (some k_ ≠ (v2 : Value).ownBlock ∧ some k_ ≠ (v3 : Value).ownBlock) ∧ some k_ ≠ (v1 : Value).ownBlock) (fun _ hk => ⟨⟨hk.2.1, hk.2.2⟩, hk.1⟩)) hg hat;have g2 := Kd.R_after (v := v1) (Kd.R_mono h2 (ok' := fun k_ => (some k_ ≠ (v3 : Value).ownBlock) ∧ some k_ ≠ (v1 : Value).ownBlock) (fun _ hk => ⟨hk.2, hk.1⟩)) hg hat;have g3 := Kd.R_after (v := v1) (Kd.R_mono h3 (ok' := fun k_ => (some k_ ≠ (v2 : Value).ownBlock) ∧ some k_ ≠ (v1 : Value).ownBlock) (fun _ hk => ⟨hk.2, hk.1⟩)) hg hat;exact ⟨blk_put hb1 1 _ rfl, Kd.S_mono (Kd.S_set g0 hb1 pol_t53 1 _) (fun _ hk => ⟨hk.2, hk.1.1, hk.1.2⟩), Kd.R_set hr hb1 pol_t9 1 _, Kd.R_mono (Kd.R_set g2 hb1 pol_t9 1 _) (fun _ hk => ⟨hk.2, hk.1⟩), Kd.R_mono (Kd.R_set g3 hb1 pol_t9 1 _) (fun _ hk => ⟨hk.2, hk.1⟩)⟩
theorem PolSt.schemes {B pb : Nat} {w w1 : World} {v0 v1 v2 v3 u : Value} {l0 : List S38} {l1 l2 l3 m : List ByteArray} {d : Int} (h : PolSt B pb w v0 v1 v2 v3 l0 l1 l2 l3 d)
  (hr : Kd.R Kd.string 9 w1 B (fun k_ => some k_ ≠ (v1 : Value).ownBlock ∧ some k_ ≠ (v3 : Value).ownBlock) u m) (hg : w.grownBy w1 v2.ownBlock) (hat : u.ownBlock = v2.ownBlock ∨ ∃ b, u.ownBlock = some b ∧ w.heap.size ≤ b) :
  PolSt B pb (w1.setCell ⟨pb, 2, none⟩ u) v0 v1 u v3 l0 l1 m l3 d := by
 obtain ⟨hb, h0, h1, h2, h3⟩ := h;have hb1 := blk_grown hb hg (Kd.R_ne h2 hb (by decide));have g0 := Kd.S_after (v := v2) (Kd.S_mono h0 (ok' := fun k_ => (some k_ ≠ (v1 : Value).ownBlock ∧ some k_ ≠ (v3 : Value).ownBlock) ∧ some k_ ≠ (v2 : Value).ownBlock) (fun _ hk => ⟨⟨hk.1, hk.2.2⟩, hk.2.1⟩)) hg hat;have g1 := Kd.R_after (v := v2) (Kd.R_mono h1 (ok' := fun k_ => (some k_ ≠ (v3 : Value).ownBlock) ∧ some k_ ≠ (v2 : Value).ownBlock) (fun _ hk => ⟨hk.2, hk.1⟩)) hg hat;have g3 := Kd.R_after (v := v2) (Kd.R_mono h3 (ok' := fun k_ => (some k_ ≠ (v1 : Value).ownBlock) ∧ some k_ ≠ (v2 : Value).ownBlock) (fun _ hk => ⟨hk.1, hk.2⟩)) hg hat;exact ⟨blk_put hb1 2 _ rfl, Kd.S_mono (Kd.S_set g0 hb1 pol_t53 2 _) (fun _ hk => ⟨hk.1.1, hk.2, hk.1.2⟩), Kd.R_mono (Kd.R_set g1 hb1 pol_t9 2 _) (fun _ hk => ⟨hk.2, hk.1⟩), Kd.R_set hr hb1 pol_t9 2 _, Kd.R_set g3 hb1 pol_t9 2 _⟩
theorem PolSt.drops {B pb : Nat} {w w1 : World} {v0 v1 v2 v3 u : Value} {l0 : List S38} {l1 l2 l3 m : List ByteArray} {d : Int} (h : PolSt B pb w v0 v1 v2 v3 l0 l1 l2 l3 d)
  (hr : Kd.R Kd.string 9 w1 B (fun k_ => some k_ ≠ (v1 : Value).ownBlock ∧ some k_ ≠ (v2 : Value).ownBlock) u m) (hg : w.grownBy w1 v3.ownBlock) (hat : u.ownBlock = v3.ownBlock ∨ ∃ b, u.ownBlock = some b ∧ w.heap.size ≤ b) :
  PolSt B pb (w1.setCell ⟨pb, 3, none⟩ u) v0 v1 v2 u l0 l1 l2 m d := by
 obtain ⟨hb, h0, h1, h2, h3⟩ := h;have hb1 := blk_grown hb hg (Kd.R_ne h3 hb (by decide));have g0 := Kd.S_after (v := v3) (Kd.S_mono h0 (ok' := fun k_ => (some k_ ≠ (v1 : Value).ownBlock ∧ some k_ ≠ (v2 : Value).ownBlock) ∧ some k_ ≠ (v3 : Value).ownBlock) (fun _ hk => ⟨⟨hk.1, hk.2.1⟩, hk.2.2⟩)) hg hat;have g1 := Kd.R_after (v := v3) (Kd.R_mono h1 (ok' := fun k_ => (some k_ ≠ (v2 : Value).ownBlock) ∧ some k_ ≠ (v3 : Value).ownBlock) (fun _ hk => ⟨hk.1, hk.2⟩)) hg hat;have g2 := Kd.R_after (v := v3) (Kd.R_mono h2 (ok' := fun k_ => (some k_ ≠ (v1 : Value).ownBlock) ∧ some k_ ≠ (v3 : Value).ownBlock) (fun _ hk => ⟨hk.1, hk.2⟩)) hg hat;exact ⟨blk_put hb1 3 _ rfl, Kd.S_mono (Kd.S_set g0 hb1 pol_t53 3 _) (fun _ hk => ⟨hk.1.1, hk.1.2, hk.2⟩), Kd.R_set g1 hb1 pol_t9 3 _, Kd.R_set g2 hb1 pol_t9 3 _, Kd.R_set hr hb1 pol_t9 3 _⟩

def sayW (l0 : List S38) (l1 l2 l3 : List ByteArray) (d : Int) (x : ByteArray) (r : List ByteArray) : Option (List S38 × List ByteArray × List ByteArray × List ByteArray × Int) :=
  if x.toList = ([100, 101, 101, 112] : List UInt8) then (match r with | [y] => (numS y).map fun n => (l0, l1, l2, l3, n) | _ => none)
  else if x.toList = ([101, 108, 101, 109, 101, 110, 116] : List UInt8) then (match r with | [] => none | y :: t => some (l0 ++ [⟨y, t⟩], l1, l2, l3, d))
  else if x.toList = ([108, 105, 110, 107] : List UInt8) then some (l0, l1 ++ r, l2, l3, d)
  else if x.toList = ([115, 99, 104, 101, 109, 101] : List UInt8) then some (l0, l1, l2 ++ r, l3, d)
  else if x.toList = ([100, 114, 111, 112] : List UInt8) then some (l0, l1, l2, l3 ++ r, d)
  else none
def sayS (l0 : List S38) (l1 l2 l3 : List ByteArray) (d : Int) (s : ByteArray) : Option (List S38 × List ByteArray × List ByteArray × List ByteArray × Int) :=
  match plWords s with
  | [] => some (l0, l1, l2, l3, d)
  | x :: r => if bt s 0 = 35 then some (l0, l1, l2, l3, d) else sayW l0 l1 l2 l3 d x r
theorem words_pos {s : ByteArray} (h : plWords s ≠ []) : 0 < s.size := by
  rcases Nat.eq_zero_or_pos s.size with h0 | h0
  · exfalso
    apply h
    have he : s = ByteArray.empty := by
      obtain ⟨⟨l⟩⟩ := s
      simp [ByteArray.size] at h0
      subst h0; rfl
    subst he
    decide +kernel
  · exact h0
theorem say_words (s : ByteArray) (m : Int) (w : World) (hs : s.size < 4294967281) (hm : w.cell? ⟨0, 0, none⟩ = some (.int .i64 m)) (ws : List ByteArray) (h : plWords s = ws) :
  Calls Tryz.prog 75 #[.string s] w fun e w' => ∃ b cap, e = .returned (.slice (some ⟨b, 0, none⟩) ws.length cap) ∧ w.heap.size ≤ b ∧ Kd.R Kd.string 9 w' w.heap.size (fun _ => True) (.slice (some ⟨b, 0, none⟩) ws.length cap) ws ∧ Below w.heap.size w w' := by
 subst h;exact (pl_words s m w hs hm).mono fun e w' ⟨cap, he, ho, hb⟩ => ⟨_, cap, he, Nat.le_refl _, Kd.R_of_own ho (fun _ _ => trivial), hb⟩

theorem say_empty (B pb : Nat) (m : Int) (s : ByteArray) (v0 v1 v2 v3 : Value) (l0 : List S38) (l1 l2 l3 : List ByteArray) (d : Int) (w0 w : World) (hs : s.size < 4294967281) (hm : w.cell? ⟨0, 0, none⟩ = some (.int .i64 m)) (hP : PolSt B pb w v0 v1 v2 v3 l0 l1 l2 l3 d) (hB : Below B w0 w) (hBw : B ≤ w.heap.size) (h : plWords s = []) :
  Calls Tryz.prog 51 #[.pointer (some ⟨pb, 0, none⟩), .string s] w fun e w' => e = .returned (.tuple #[]) ∧ PolSt B pb w' v0 v1 v2 v3 l0 l1 l2 l3 d ∧ Below w.heap.size w w' := by
 obtain ⟨ws, hws⟩ : ∃ ws, plWords s = ws := ⟨_, rfl⟩;have HW := Am hws;rw [h] at hws;have e0 : ((ws.length : Int) == 0) = true := by rw [← hws]; rfl
 have HM := Am hm;have HP := Am hP;clear hws h hm hP hB;go_enter Tryz.func51, Tryz.ntmps51;go_wp2_with (go_at_call 75; refine (say_words s m _ hs HM.out ws HW.out).mono ?_; rintro e w1 ⟨b, cap, rfl, hb0, ho, hb⟩; have HP1 := Am (HP.out.below hb); have HO := Am ho; have HB1 := Am hb; have HBb := Am hb0; clear ho hb hb0);refine bodyPost_ret (results_none rfl _ _ _) rfl ?_;exact ⟨rfl, HP1.out, HB1.out⟩

theorem say_note (B pb : Nat) (m : Int) (s : ByteArray) (v0 v1 v2 v3 : Value) (l0 : List S38) (l1 l2 l3 : List ByteArray) (d : Int) (w0 w : World) (hs : s.size < 4294967281) (hm : w.cell? ⟨0, 0, none⟩ = some (.int .i64 m)) (hP : PolSt B pb w v0 v1 v2 v3 l0 l1 l2 l3 d) (hB : Below B w0 w) (hBw : B ≤ w.heap.size) (x : ByteArray) (r : List ByteArray) (h : plWords s = x :: r) (h35 : bt s 0 = 35) :
  Calls Tryz.prog 51 #[.pointer (some ⟨pb, 0, none⟩), .string s] w fun e w' => e = .returned (.tuple #[]) ∧ PolSt B pb w' v0 v1 v2 v3 l0 l1 l2 l3 d ∧ Below w.heap.size w w' := by
 obtain ⟨ws, hws⟩ : ∃ ws, plWords s = ws := ⟨_, rfl⟩;have HW := Am hws;rw [h] at hws;have HWS := Am hws;have hlw : ws.length = r.length + 1 := by rw [← hws]; rfl
 have e0 : ((ws.length : Int) == 0) = false := by rw [beq_eq_false_iff_ne]; omega
 have e1 : (0 < (ws.length : Int)) = True := eq_true (by omega);have e1n : (0 < ws.length) = True := eq_true (by omega);have e2 : (1 ≤ (ws.length : Int)) = True := eq_true (by omega);have hp := words_pos (s := s) (by rw [h]; simp);have hx : ∀ h : 0 < s.size, ((s[0]'h).toNat : Int) = bt s 0 := bt_at s 0;have qi_ : (0 < (s.size : Int)) = True := eq_true (by omega);have q_ : (0 < s.size) = True := eq_true hp;have HM := Am hm;have HP := Am hP;have HB0 := Am hB;clear hws h hm hP hB hp hlw;have b35 : (bt s 0 == 35) = true := beq_iff_eq.mpr h35;clear h35;go_enter Tryz.func51, Tryz.ntmps51;go_wp2_with (go_at_call 75; refine (say_words s m _ hs HM.out ws HW.out).mono ?_; rintro e w1 ⟨b, cap, rfl, hb0, ho, hb⟩; have HP1 := Am (HP.out.below hb); have HO := Am ho; have HB1 := Am hb; have HBb := Am hb0; clear ho hb hb0);refine bodyPost_ret (results_none rfl _ _ _) rfl ?_;exact ⟨rfl, HP1.out, HB1.out⟩

theorem say_odd (B pb : Nat) (m : Int) (s : ByteArray) (v0 v1 v2 v3 : Value) (l0 : List S38) (l1 l2 l3 : List ByteArray) (d : Int) (w0 w : World) (hs : s.size < 4294967281) (hm : w.cell? ⟨0, 0, none⟩ = some (.int .i64 m)) (hP : PolSt B pb w v0 v1 v2 v3 l0 l1 l2 l3 d) (hB : Below B w0 w) (hBw : B ≤ w.heap.size) (x : ByteArray) (r : List ByteArray) (h : plWords s = x :: r) (h35 : bt s 0 ≠ 35) (hdeep : x.toList ≠ ([100, 101, 101, 112] : List UInt8)) (helement : x.toList ≠ ([101, 108, 101, 109, 101, 110, 116] : List UInt8)) (hlink : x.toList ≠ ([108, 105, 110, 107] : List UInt8)) (hscheme : x.toList ≠ ([115, 99, 104, 101, 109, 101] : List UInt8)) (hdrop : x.toList ≠ ([100, 114, 111, 112] : List UInt8)) :
  Calls Tryz.prog 51 #[.pointer (some ⟨pb, 0, none⟩), .string s] w fun e w' => e = .panicked oddC ∧ Below w.heap.size w w' := by
 obtain ⟨ws, hws⟩ : ∃ ws, plWords s = ws := ⟨_, rfl⟩;have HW := Am hws;rw [h] at hws;have HWS := Am hws;have hlw : ws.length = r.length + 1 := by rw [← hws]; rfl
 have e0 : ((ws.length : Int) == 0) = false := by rw [beq_eq_false_iff_ne]; omega
 have e1 : (0 < (ws.length : Int)) = True := eq_true (by omega);have e1n : (0 < ws.length) = True := eq_true (by omega);have e2 : (1 ≤ (ws.length : Int)) = True := eq_true (by omega);have hp := words_pos (s := s) (by rw [h]; simp);have hx : ∀ h : 0 < s.size, ((s[0]'h).toNat : Int) = bt s 0 := bt_at s 0;have qi_ : (0 < (s.size : Int)) = True := eq_true (by omega);have q_ : (0 < s.size) = True := eq_true hp;have HM := Am hm;have HP := Am hP;have HB0 := Am hB;clear hws h hm hP hB hp hlw;have b35 : (bt s 0 == 35) = false := beq_eq_false_iff_ne.mpr h35;clear h35;have t_deep : (x.toList == ([100, 101, 101, 112] : List UInt8)) = false := by first | exact beq_iff_eq.mpr hk | (rw [beq_eq_false_iff_ne]; first | exact hdeep | (rw [hk]; decide))
 have t_element : (x.toList == ([101, 108, 101, 109, 101, 110, 116] : List UInt8)) = false := by first | exact beq_iff_eq.mpr hk | (rw [beq_eq_false_iff_ne]; first | exact helement | (rw [hk]; decide))
 have t_link : (x.toList == ([108, 105, 110, 107] : List UInt8)) = false := by first | exact beq_iff_eq.mpr hk | (rw [beq_eq_false_iff_ne]; first | exact hlink | (rw [hk]; decide))
 have t_scheme : (x.toList == ([115, 99, 104, 101, 109, 101] : List UInt8)) = false := by first | exact beq_iff_eq.mpr hk | (rw [beq_eq_false_iff_ne]; first | exact hscheme | (rw [hk]; decide))
 have t_drop : (x.toList == ([100, 114, 111, 112] : List UInt8)) = false := by first | exact beq_iff_eq.mpr hk | (rw [beq_eq_false_iff_ne]; first | exact hdrop | (rw [hk]; decide))
 clear hdeep helement hlink hscheme hdrop;go_enter Tryz.func51, Tryz.ntmps51;go_wp2_with (first | (go_at_call 75; refine (say_words s m _ hs HM.out ws HW.out).mono ?_; rintro e w1 ⟨b, cap, rfl, hb0, ho, hb⟩; have HP1 := Am (HP.out.below hb); have HO := Am ho; have HB1 := Am hb; have HBb := Am hb0; clear ho hb hb0; obtain ⟨i0_, hi0_, _, hsz_, _⟩ := info_parts info9; have hRR := Kd.R_reads' HO.out; obtain ⟨Ad, hcut, hA, hCd⟩ := print_drop_of (P := Tryz.prog) Value.string (⟨#[]⟩ : ByteArray) 23 9 .i64 Tryz.underlying23 hi0_ hsz_ (some ⟨b, 0, none⟩) cap ws 1 (by omega) (of_eq_true e2) hRR.2.1; have hRd := hA _ (Kd.reads_of_C hRR.2.2); have hdr : ws.drop (1 : Int).toNat = r := (by rw [← HWS.out]; rfl); rw [hdr] at hcut hRd hCd; have HRd := Am (Kd.C_of_reads (h1 := fun _ => rfl) hRd); have HCd := Am hCd; obtain ⟨ad_, e_, hx0⟩ := Kd.at_string hRR.2.2 0 (by omega) (of_eq_true e1); cases e_; (try rw [show ((0 : Int)).toNat = 0 from rfl] at hx0); (try rw [Addr.add_zero'] at hx0); have hrd : rdOf ByteArray.empty ws 0 = x := (by rw [← HWS.out]; rfl); rw [hrd] at hx0; clear hA hRd hCd hdr hrd hRR hi0_ hsz_) | (go_at_call 76; refine (must_no _).mono ?_; rintro e w' ⟨rfl, rfl⟩));exact ⟨rfl, rfl, HB1.out⟩

theorem say_deep_len (B pb : Nat) (m : Int) (s : ByteArray) (v0 v1 v2 v3 : Value) (l0 : List S38) (l1 l2 l3 : List ByteArray) (d : Int) (w0 w : World) (hs : s.size < 4294967281) (hm : w.cell? ⟨0, 0, none⟩ = some (.int .i64 m)) (hP : PolSt B pb w v0 v1 v2 v3 l0 l1 l2 l3 d) (hB : Below B w0 w) (hBw : B ≤ w.heap.size) (x : ByteArray) (r : List ByteArray) (h : plWords s = x :: r) (h35 : bt s 0 ≠ 35) (hk : x.toList = ([100, 101, 101, 112] : List UInt8)) (hr : r.length ≠ 1) :
  Calls Tryz.prog 51 #[.pointer (some ⟨pb, 0, none⟩), .string s] w fun e w' => e = .panicked oddC ∧ Below w.heap.size w w' := by
 obtain ⟨ws, hws⟩ : ∃ ws, plWords s = ws := ⟨_, rfl⟩;have HW := Am hws;rw [h] at hws;have HWS := Am hws;have hlw : ws.length = r.length + 1 := by rw [← hws]; rfl
 have e0 : ((ws.length : Int) == 0) = false := by rw [beq_eq_false_iff_ne]; omega
 have e1 : (0 < (ws.length : Int)) = True := eq_true (by omega);have e1n : (0 < ws.length) = True := eq_true (by omega);have e2 : (1 ≤ (ws.length : Int)) = True := eq_true (by omega);have hp := words_pos (s := s) (by rw [h]; simp);have hx : ∀ h : 0 < s.size, ((s[0]'h).toNat : Int) = bt s 0 := bt_at s 0;have qi_ : (0 < (s.size : Int)) = True := eq_true (by omega);have q_ : (0 < s.size) = True := eq_true hp;have HM := Am hm;have HP := Am hP;have HB0 := Am hB;clear hws h hm hP hB hp hlw;have b35 : (bt s 0 == 35) = false := beq_eq_false_iff_ne.mpr h35;clear h35;have t_deep : (x.toList == ([100, 101, 101, 112] : List UInt8)) = true := by first | exact beq_iff_eq.mpr hk | (rw [beq_eq_false_iff_ne]; first | exact hdeep | (rw [hk]; decide))
 have r1 : ((r.length : Int) == 1) = false := by rw [beq_eq_false_iff_ne]; omega
 clear hk hr;go_enter Tryz.func51, Tryz.ntmps51;go_wp2_with (first | (go_at_call 75; refine (say_words s m _ hs HM.out ws HW.out).mono ?_; rintro e w1 ⟨b, cap, rfl, hb0, ho, hb⟩; have HP1 := Am (HP.out.below hb); have HO := Am ho; have HB1 := Am hb; have HBb := Am hb0; clear ho hb hb0; obtain ⟨i0_, hi0_, _, hsz_, _⟩ := info_parts info9; have hRR := Kd.R_reads' HO.out; obtain ⟨Ad, hcut, hA, hCd⟩ := print_drop_of (P := Tryz.prog) Value.string (⟨#[]⟩ : ByteArray) 23 9 .i64 Tryz.underlying23 hi0_ hsz_ (some ⟨b, 0, none⟩) cap ws 1 (by omega) (of_eq_true e2) hRR.2.1; have hRd := hA _ (Kd.reads_of_C hRR.2.2); have hdr : ws.drop (1 : Int).toNat = r := (by rw [← HWS.out]; rfl); rw [hdr] at hcut hRd hCd; have HRd := Am (Kd.C_of_reads (h1 := fun _ => rfl) hRd); have HCd := Am hCd; obtain ⟨ad_, e_, hx0⟩ := Kd.at_string hRR.2.2 0 (by omega) (of_eq_true e1); cases e_; (try rw [show ((0 : Int)).toNat = 0 from rfl] at hx0); (try rw [Addr.add_zero'] at hx0); have hrd : rdOf ByteArray.empty ws 0 = x := (by rw [← HWS.out]; rfl); rw [hrd] at hx0; clear hA hRd hCd hdr hrd hRR hi0_ hsz_) | (go_at_call 76; refine (must_no _).mono ?_; rintro e w' ⟨rfl, rfl⟩));exact ⟨rfl, rfl, HB1.out⟩

theorem say_deep_bad (B pb : Nat) (m : Int) (s : ByteArray) (v0 v1 v2 v3 : Value) (l0 : List S38) (l1 l2 l3 : List ByteArray) (d : Int) (w0 w : World) (hs : s.size < 4294967281) (hm : w.cell? ⟨0, 0, none⟩ = some (.int .i64 m)) (hP : PolSt B pb w v0 v1 v2 v3 l0 l1 l2 l3 d) (hB : Below B w0 w) (hBw : B ≤ w.heap.size) (y x : ByteArray) (h : plWords s = [x, y]) (h35 : bt s 0 ≠ 35) (hk : x.toList = ([100, 101, 101, 112] : List UInt8)) (hnum : numS y = none) :
  Calls Tryz.prog 51 #[.pointer (some ⟨pb, 0, none⟩), .string s] w fun e w' => e = .panicked oddC ∧ Below w.heap.size w w' := by
 obtain ⟨r, hr⟩ : ∃ r, r = [y] := ⟨_, rfl⟩;rw [← hr] at h;obtain ⟨ws, hws⟩ : ∃ ws, plWords s = ws := ⟨_, rfl⟩;have HW := Am hws;rw [h] at hws;have HWS := Am hws;have hlw : ws.length = r.length + 1 := by rw [← hws]; rfl
 have e0 : ((ws.length : Int) == 0) = false := by rw [beq_eq_false_iff_ne]; omega
 have e1 : (0 < (ws.length : Int)) = True := eq_true (by omega);have e1n : (0 < ws.length) = True := eq_true (by omega);have e2 : (1 ≤ (ws.length : Int)) = True := eq_true (by omega);have hp := words_pos (s := s) (by rw [h]; simp);have hx : ∀ h : 0 < s.size, ((s[0]'h).toNat : Int) = bt s 0 := bt_at s 0;have qi_ : (0 < (s.size : Int)) = True := eq_true (by omega);have q_ : (0 < s.size) = True := eq_true hp;have HM := Am hm;have HP := Am hP;have HB0 := Am hB;clear hws h hm hP hB hp hlw;have b35 : (bt s 0 == 35) = false := beq_eq_false_iff_ne.mpr h35;clear h35;have t_deep : (x.toList == ([100, 101, 101, 112] : List UInt8)) = true := by first | exact beq_iff_eq.mpr hk | (rw [beq_eq_false_iff_ne]; first | exact hdeep | (rw [hk]; decide))
 have r1 : ((r.length : Int) == 1) = true := by rw [hr]; rfl
 have r0 : (0 < (r.length : Int)) = True := eq_true (by rw [hr]; simp);have r0n : (0 < r.length) = True := eq_true (by rw [hr]; simp);have hy : rdOf ByteArray.empty r 0 = y := by rw [hr]; rfl
 have HN := Am hnum;clear hk hr hnum;go_enter Tryz.func51, Tryz.ntmps51;go_wp2_with (first | (go_at_call 75; refine (say_words s m _ hs HM.out ws HW.out).mono ?_; rintro e w1 ⟨b, cap, rfl, hb0, ho, hb⟩; have HP1 := Am (HP.out.below hb); have HO := Am ho; have HB1 := Am hb; have HBb := Am hb0; clear ho hb hb0; obtain ⟨i0_, hi0_, _, hsz_, _⟩ := info_parts info9; have hRR := Kd.R_reads' HO.out; obtain ⟨Ad, hcut, hA, hCd⟩ := print_drop_of (P := Tryz.prog) Value.string (⟨#[]⟩ : ByteArray) 23 9 .i64 Tryz.underlying23 hi0_ hsz_ (some ⟨b, 0, none⟩) cap ws 1 (by omega) (of_eq_true e2) hRR.2.1; have hRd := hA _ (Kd.reads_of_C hRR.2.2); have hdr : ws.drop (1 : Int).toNat = r := (by rw [← HWS.out]; rfl); rw [hdr] at hcut hRd hCd; have HRd := Am (Kd.C_of_reads (h1 := fun _ => rfl) hRd); have HCd := Am hCd; obtain ⟨ad_, e_, hx0⟩ := Kd.at_string hRR.2.2 0 (by omega) (of_eq_true e1); cases e_; (try rw [show ((0 : Int)).toNat = 0 from rfl] at hx0); (try rw [Addr.add_zero'] at hx0); have hrd : rdOf ByteArray.empty ws 0 = x := (by rw [← HWS.out]; rfl); rw [hrd] at hx0; clear hA hRd hCd hdr hrd hRR hi0_ hsz_; obtain ⟨ad1, e1_, hx1⟩ := Kd.at_string HRd.out 0 (by omega) (of_eq_true r0); cases e1_; (try rw [show ((0 : Int)).toNat = 0 from rfl] at hx1); (try rw [Addr.add_zero'] at hx1); rw [hy] at hx1) | (go_at_call 76; refine (must_yes _).mono ?_; rintro e w' ⟨rfl, rfl⟩) | (go_at_call 77; refine (num_none y _ HN.out).mono ?_; rintro e w2 ⟨rfl, hb⟩; have HB2 := Am hb; clear hb));exact ⟨rfl, rfl, below_step HB1.out HB2.out⟩

theorem say_deep (B pb : Nat) (m : Int) (s : ByteArray) (v0 v1 v2 v3 : Value) (l0 : List S38) (l1 l2 l3 : List ByteArray) (d : Int) (w0 w : World) (hs : s.size < 4294967281) (hm : w.cell? ⟨0, 0, none⟩ = some (.int .i64 m)) (hP : PolSt B pb w v0 v1 v2 v3 l0 l1 l2 l3 d) (hB : Below B w0 w) (hBw : B ≤ w.heap.size) (hpb : B ≤ pb) (y x : ByteArray) (n : Int) (h : plWords s = [x, y]) (h35 : bt s 0 ≠ 35) (hk : x.toList = ([100, 101, 101, 112] : List UInt8)) (hnum : numS y = some n) :
  Calls Tryz.prog 51 #[.pointer (some ⟨pb, 0, none⟩), .string s] w fun e w' => e = .returned (.tuple #[]) ∧ PolSt B pb w' v0 v1 v2 v3 l0 l1 l2 l3 n ∧ Below B w0 w' := by
 obtain ⟨r, hr⟩ : ∃ r, r = [y] := ⟨_, rfl⟩;rw [← hr] at h;obtain ⟨ws, hws⟩ : ∃ ws, plWords s = ws := ⟨_, rfl⟩;have HW := Am hws;rw [h] at hws;have HWS := Am hws;have hlw : ws.length = r.length + 1 := by rw [← hws]; rfl
 have e0 : ((ws.length : Int) == 0) = false := by rw [beq_eq_false_iff_ne]; omega
 have e1 : (0 < (ws.length : Int)) = True := eq_true (by omega);have e1n : (0 < ws.length) = True := eq_true (by omega);have e2 : (1 ≤ (ws.length : Int)) = True := eq_true (by omega);have hp := words_pos (s := s) (by rw [h]; simp);have hx : ∀ h : 0 < s.size, ((s[0]'h).toNat : Int) = bt s 0 := bt_at s 0;have qi_ : (0 < (s.size : Int)) = True := eq_true (by omega);have q_ : (0 < s.size) = True := eq_true hp;have HM := Am hm;have HP := Am hP;have HB0 := Am hB;clear hws h hm hP hB hp hlw;have b35 : (bt s 0 == 35) = false := beq_eq_false_iff_ne.mpr h35;clear h35;have t_deep : (x.toList == ([100, 101, 101, 112] : List UInt8)) = true := by first | exact beq_iff_eq.mpr hk | (rw [beq_eq_false_iff_ne]; first | exact hdeep | (rw [hk]; decide))
 have r1 : ((r.length : Int) == 1) = true := by rw [hr]; rfl
 have r0 : (0 < (r.length : Int)) = True := eq_true (by rw [hr]; simp);have r0n : (0 < r.length) = True := eq_true (by rw [hr]; simp);have hy : rdOf ByteArray.empty r 0 = y := by rw [hr]; rfl
 have HN := Am hnum;clear hk hr hnum;go_enter Tryz.func51, Tryz.ntmps51;go_wp2_with (first | (go_at_call 75; refine (say_words s m _ hs HM.out ws HW.out).mono ?_; rintro e w1 ⟨b, cap, rfl, hb0, ho, hb⟩; have HP1 := Am (HP.out.below hb); have HO := Am ho; have HB1 := Am hb; have HBb := Am hb0; clear ho hb hb0; obtain ⟨i0_, hi0_, _, hsz_, _⟩ := info_parts info9; have hRR := Kd.R_reads' HO.out; obtain ⟨Ad, hcut, hA, hCd⟩ := print_drop_of (P := Tryz.prog) Value.string (⟨#[]⟩ : ByteArray) 23 9 .i64 Tryz.underlying23 hi0_ hsz_ (some ⟨b, 0, none⟩) cap ws 1 (by omega) (of_eq_true e2) hRR.2.1; have hRd := hA _ (Kd.reads_of_C hRR.2.2); have hdr : ws.drop (1 : Int).toNat = r := (by rw [← HWS.out]; rfl); rw [hdr] at hcut hRd hCd; have HRd := Am (Kd.C_of_reads (h1 := fun _ => rfl) hRd); have HCd := Am hCd; obtain ⟨ad_, e_, hx0⟩ := Kd.at_string hRR.2.2 0 (by omega) (of_eq_true e1); cases e_; (try rw [show ((0 : Int)).toNat = 0 from rfl] at hx0); (try rw [Addr.add_zero'] at hx0); have hrd : rdOf ByteArray.empty ws 0 = x := (by rw [← HWS.out]; rfl); rw [hrd] at hx0; clear hA hRd hCd hdr hrd hRR hi0_ hsz_; obtain ⟨ad1, e1_, hx1⟩ := Kd.at_string HRd.out 0 (by omega) (of_eq_true r0); cases e1_; (try rw [show ((0 : Int)).toNat = 0 from rfl] at hx1); (try rw [Addr.add_zero'] at hx1); rw [hy] at hx1) | (go_at_call 76; refine (must_yes _).mono ?_; rintro e w' ⟨rfl, rfl⟩) | (go_at_call 77; refine (num_some y n _ HN.out).mono ?_; rintro e w2 ⟨rfl, hb⟩; have HB2 := Am (below_step HB1.out hb); have HP2 := Am (HP1.out.below hb); clear hb; have hcz : w2.cell? ⟨pb, 4, none⟩ = some (.int .i64 d) := (blk_cell HP2.out.1 4).trans rfl; have hfz := blk_frozen HP2.out.1 4));go_end0;exact ⟨rfl, HP2.out.deep n, ((HB0.out).trans (HB2.out.mono hBw)).setCell hpb _⟩

theorem say_link (B pb : Nat) (m : Int) (s : ByteArray) (v0 v1 v2 v3 : Value) (l0 : List S38) (l1 l2 l3 : List ByteArray) (d : Int) (w0 w : World) (hs : s.size < 4294967281) (hm : w.cell? ⟨0, 0, none⟩ = some (.int .i64 m)) (hP : PolSt B pb w v0 v1 v2 v3 l0 l1 l2 l3 d) (hB : Below B w0 w) (hBw : B ≤ w.heap.size) (hpb : B ≤ pb) (x : ByteArray) (r : List ByteArray) (h : plWords s = x :: r) (h35 : bt s 0 ≠ 35) (hk : x.toList = ([108, 105, 110, 107] : List UInt8)) (hlen : (l1.length + r.length) * 16 ≤ 140737488355328) :
  Calls Tryz.prog 51 #[.pointer (some ⟨pb, 0, none⟩), .string s] w fun e w' => e = .returned (.tuple #[]) ∧ (∃ u, PolSt B pb w' v0 u v2 v3 l0 (l1 ++ r) l2 l3 d) ∧ Below B w0 w' := by
 obtain ⟨ws, hws⟩ : ∃ ws, plWords s = ws := ⟨_, rfl⟩;have HW := Am hws;rw [h] at hws;have HWS := Am hws;have hlw : ws.length = r.length + 1 := by rw [← hws]; rfl
 have e0 : ((ws.length : Int) == 0) = false := by rw [beq_eq_false_iff_ne]; omega
 have e1 : (0 < (ws.length : Int)) = True := eq_true (by omega);have e1n : (0 < ws.length) = True := eq_true (by omega);have e2 : (1 ≤ (ws.length : Int)) = True := eq_true (by omega);have hp := words_pos (s := s) (by rw [h]; simp);have hx : ∀ h : 0 < s.size, ((s[0]'h).toNat : Int) = bt s 0 := bt_at s 0;have qi_ : (0 < (s.size : Int)) = True := eq_true (by omega);have q_ : (0 < s.size) = True := eq_true hp;have HM := Am hm;have HP := Am hP;have HB0 := Am hB;clear hws h hm hP hB hp hlw;have b35 : (bt s 0 == 35) = false := beq_eq_false_iff_ne.mpr h35;clear h35;have t_deep : (x.toList == ([100, 101, 101, 112] : List UInt8)) = false := by first | exact beq_iff_eq.mpr hk | (rw [beq_eq_false_iff_ne]; first | exact hdeep | (rw [hk]; decide))
 have t_element : (x.toList == ([101, 108, 101, 109, 101, 110, 116] : List UInt8)) = false := by first | exact beq_iff_eq.mpr hk | (rw [beq_eq_false_iff_ne]; first | exact helement | (rw [hk]; decide))
 have t_link : (x.toList == ([108, 105, 110, 107] : List UInt8)) = true := by first | exact beq_iff_eq.mpr hk | (rw [beq_eq_false_iff_ne]; first | exact hlink | (rw [hk]; decide))
 clear hk;go_enter Tryz.func51, Tryz.ntmps51;go_wp2_with (first | (go_at_call 75; refine (say_words s m _ hs HM.out ws HW.out).mono ?_; rintro e w1 ⟨b, cap, rfl, hb0, ho, hb⟩; have HP1 := Am (HP.out.below hb); have HO := Am ho; have HB1 := Am hb; have HBb := Am hb0; clear ho hb hb0; obtain ⟨i0_, hi0_, _, hsz_, _⟩ := info_parts info9; have hRR := Kd.R_reads' HO.out; obtain ⟨Ad, hcut, hA, hCd⟩ := print_drop_of (P := Tryz.prog) Value.string (⟨#[]⟩ : ByteArray) 23 9 .i64 Tryz.underlying23 hi0_ hsz_ (some ⟨b, 0, none⟩) cap ws 1 (by omega) (of_eq_true e2) hRR.2.1; have hRd := hA _ (Kd.reads_of_C hRR.2.2); have hdr : ws.drop (1 : Int).toNat = r := (by rw [← HWS.out]; rfl); rw [hdr] at hcut hRd hCd; have HRd := Am (Kd.C_of_reads (h1 := fun _ => rfl) hRd); have HCd := Am hCd; obtain ⟨ad_, e_, hx0⟩ := Kd.at_string hRR.2.2 0 (by omega) (of_eq_true e1); cases e_; (try rw [show ((0 : Int)).toNat = 0 from rfl] at hx0); (try rw [Addr.add_zero'] at hx0); have hrd : rdOf ByteArray.empty ws 0 = x := (by rw [← HWS.out]; rfl); rw [hrd] at hx0; clear hA hRd hCd hdr hrd hRR hi0_ hsz_; have hcz : w1.cell? ⟨pb, 1, none⟩ = some v1 := (blk_cell HP1.out.1 1).trans rfl; have hfz := blk_frozen HP1.out.1 1) | ((with_reducible refine gate_builtin (b := .append) (xs := #[.tmp 63, .tmp 64]) rfl ?_); at_builtin; refine Kd.R_append_rows Kd.string (w0 := w0) B rfl (.tmp 63) (.tmp 64) 23 9 (.string ⟨#[]⟩) 16 rfl Tryz.underlying23 info9 rfl (by decide) (by omega) v1 l1 r _ _ _ (fun k_ => some k_ ≠ (v2 : Value).ownBlock ∧ some k_ ≠ (v3 : Value).ownBlock) (fun _ => False) rfl rfl ?aO ?aR (fun _ _ h => h) (fun _ h => h.elim) ?aF ?aB ?aS ?aL ?_; (case aR => exact HRd.out); (case aB => exact (HB0.out).trans (HB1.out.mono hBw)); (case aF => exact (fun k_ hk => ⟨Kd.fresh' (Kd.R_lt HP1.out.2.2.2.1) k_ hk, Kd.fresh' (Kd.R_lt HP1.out.2.2.2.2) k_ hk⟩)); (case aO => exact HP1.out.2.2.1); (case aS => exact Nat.le_trans hBw HB1.out.size); (case aL => exact hlen); intro u w2 hr_ hb_ hg_ hat_; obtain ⟨Au, cu, eu_⟩ := Kd.R_slice hr_; subst eu_; have h_ := HP1.out.links hr_ hg_ hat_; simp only [List.length_append] at h_; have HP2 := Am h_; clear h_; have HB2 := Am hb_; have hb2_ := blk_grown HP1.out.1 hg_ (Kd.R_ne HP1.out.2.2.1 HP1.out.1 (by decide)); have hcz2 : w2.cell? ⟨pb, 1, none⟩ = some v1 := (blk_cell hb2_ 1).trans rfl; have hfz2 := blk_frozen hb2_ 1; clear hr_ hb_ hg_ hat_ hb2_))
 go_end0;exact ⟨rfl, ⟨_, HP2.out⟩, HB2.out.setCell hpb _⟩

theorem say_scheme (B pb : Nat) (m : Int) (s : ByteArray) (v0 v1 v2 v3 : Value) (l0 : List S38) (l1 l2 l3 : List ByteArray) (d : Int) (w0 w : World) (hs : s.size < 4294967281) (hm : w.cell? ⟨0, 0, none⟩ = some (.int .i64 m)) (hP : PolSt B pb w v0 v1 v2 v3 l0 l1 l2 l3 d) (hB : Below B w0 w) (hBw : B ≤ w.heap.size) (hpb : B ≤ pb) (x : ByteArray) (r : List ByteArray) (h : plWords s = x :: r) (h35 : bt s 0 ≠ 35) (hk : x.toList = ([115, 99, 104, 101, 109, 101] : List UInt8)) (hlen : (l2.length + r.length) * 16 ≤ 140737488355328) :
  Calls Tryz.prog 51 #[.pointer (some ⟨pb, 0, none⟩), .string s] w fun e w' => e = .returned (.tuple #[]) ∧ (∃ u, PolSt B pb w' v0 v1 u v3 l0 l1 (l2 ++ r) l3 d) ∧ Below B w0 w' := by
 obtain ⟨ws, hws⟩ : ∃ ws, plWords s = ws := ⟨_, rfl⟩;have HW := Am hws;rw [h] at hws;have HWS := Am hws;have hlw : ws.length = r.length + 1 := by rw [← hws]; rfl
 have e0 : ((ws.length : Int) == 0) = false := by rw [beq_eq_false_iff_ne]; omega
 have e1 : (0 < (ws.length : Int)) = True := eq_true (by omega);have e1n : (0 < ws.length) = True := eq_true (by omega);have e2 : (1 ≤ (ws.length : Int)) = True := eq_true (by omega);have hp := words_pos (s := s) (by rw [h]; simp);have hx : ∀ h : 0 < s.size, ((s[0]'h).toNat : Int) = bt s 0 := bt_at s 0;have qi_ : (0 < (s.size : Int)) = True := eq_true (by omega);have q_ : (0 < s.size) = True := eq_true hp;have HM := Am hm;have HP := Am hP;have HB0 := Am hB;clear hws h hm hP hB hp hlw;have b35 : (bt s 0 == 35) = false := beq_eq_false_iff_ne.mpr h35;clear h35;have t_deep : (x.toList == ([100, 101, 101, 112] : List UInt8)) = false := by first | exact beq_iff_eq.mpr hk | (rw [beq_eq_false_iff_ne]; first | exact hdeep | (rw [hk]; decide))
 have t_element : (x.toList == ([101, 108, 101, 109, 101, 110, 116] : List UInt8)) = false := by first | exact beq_iff_eq.mpr hk | (rw [beq_eq_false_iff_ne]; first | exact helement | (rw [hk]; decide))
 have t_link : (x.toList == ([108, 105, 110, 107] : List UInt8)) = false := by first | exact beq_iff_eq.mpr hk | (rw [beq_eq_false_iff_ne]; first | exact hlink | (rw [hk]; decide))
 have t_scheme : (x.toList == ([115, 99, 104, 101, 109, 101] : List UInt8)) = true := by first | exact beq_iff_eq.mpr hk | (rw [beq_eq_false_iff_ne]; first | exact hscheme | (rw [hk]; decide))
 clear hk;go_enter Tryz.func51, Tryz.ntmps51;go_wp2_with (first | (go_at_call 75; refine (say_words s m _ hs HM.out ws HW.out).mono ?_; rintro e w1 ⟨b, cap, rfl, hb0, ho, hb⟩; have HP1 := Am (HP.out.below hb); have HO := Am ho; have HB1 := Am hb; have HBb := Am hb0; clear ho hb hb0; obtain ⟨i0_, hi0_, _, hsz_, _⟩ := info_parts info9; have hRR := Kd.R_reads' HO.out; obtain ⟨Ad, hcut, hA, hCd⟩ := print_drop_of (P := Tryz.prog) Value.string (⟨#[]⟩ : ByteArray) 23 9 .i64 Tryz.underlying23 hi0_ hsz_ (some ⟨b, 0, none⟩) cap ws 1 (by omega) (of_eq_true e2) hRR.2.1; have hRd := hA _ (Kd.reads_of_C hRR.2.2); have hdr : ws.drop (1 : Int).toNat = r := (by rw [← HWS.out]; rfl); rw [hdr] at hcut hRd hCd; have HRd := Am (Kd.C_of_reads (h1 := fun _ => rfl) hRd); have HCd := Am hCd; obtain ⟨ad_, e_, hx0⟩ := Kd.at_string hRR.2.2 0 (by omega) (of_eq_true e1); cases e_; (try rw [show ((0 : Int)).toNat = 0 from rfl] at hx0); (try rw [Addr.add_zero'] at hx0); have hrd : rdOf ByteArray.empty ws 0 = x := (by rw [← HWS.out]; rfl); rw [hrd] at hx0; clear hA hRd hCd hdr hrd hRR hi0_ hsz_; have hcz : w1.cell? ⟨pb, 2, none⟩ = some v2 := (blk_cell HP1.out.1 2).trans rfl; have hfz := blk_frozen HP1.out.1 2) | ((with_reducible refine gate_builtin (b := .append) (xs := #[.tmp 74, .tmp 75]) rfl ?_); at_builtin; refine Kd.R_append_rows Kd.string (w0 := w0) B rfl (.tmp 74) (.tmp 75) 23 9 (.string ⟨#[]⟩) 16 rfl Tryz.underlying23 info9 rfl (by decide) (by omega) v2 l2 r _ _ _ (fun k_ => some k_ ≠ (v1 : Value).ownBlock ∧ some k_ ≠ (v3 : Value).ownBlock) (fun _ => False) rfl rfl ?aO ?aR (fun _ _ h => h) (fun _ h => h.elim) ?aF ?aB ?aS ?aL ?_; (case aR => exact HRd.out); (case aB => exact (HB0.out).trans (HB1.out.mono hBw)); (case aF => exact (fun k_ hk => ⟨Kd.fresh' (Kd.R_lt HP1.out.2.2.1) k_ hk, Kd.fresh' (Kd.R_lt HP1.out.2.2.2.2) k_ hk⟩)); (case aO => exact HP1.out.2.2.2.1); (case aS => exact Nat.le_trans hBw HB1.out.size); (case aL => exact hlen); intro u w2 hr_ hb_ hg_ hat_; obtain ⟨Au, cu, eu_⟩ := Kd.R_slice hr_; subst eu_; have h_ := HP1.out.schemes hr_ hg_ hat_; simp only [List.length_append] at h_; have HP2 := Am h_; clear h_; have HB2 := Am hb_; have hb2_ := blk_grown HP1.out.1 hg_ (Kd.R_ne HP1.out.2.2.2.1 HP1.out.1 (by decide)); have hcz2 : w2.cell? ⟨pb, 2, none⟩ = some v2 := (blk_cell hb2_ 2).trans rfl; have hfz2 := blk_frozen hb2_ 2; clear hr_ hb_ hg_ hat_ hb2_))
 go_end0;exact ⟨rfl, ⟨_, HP2.out⟩, HB2.out.setCell hpb _⟩

theorem say_drop (B pb : Nat) (m : Int) (s : ByteArray) (v0 v1 v2 v3 : Value) (l0 : List S38) (l1 l2 l3 : List ByteArray) (d : Int) (w0 w : World) (hs : s.size < 4294967281) (hm : w.cell? ⟨0, 0, none⟩ = some (.int .i64 m)) (hP : PolSt B pb w v0 v1 v2 v3 l0 l1 l2 l3 d) (hB : Below B w0 w) (hBw : B ≤ w.heap.size) (hpb : B ≤ pb) (x : ByteArray) (r : List ByteArray) (h : plWords s = x :: r) (h35 : bt s 0 ≠ 35) (hk : x.toList = ([100, 114, 111, 112] : List UInt8)) (hlen : (l3.length + r.length) * 16 ≤ 140737488355328) :
  Calls Tryz.prog 51 #[.pointer (some ⟨pb, 0, none⟩), .string s] w fun e w' => e = .returned (.tuple #[]) ∧ (∃ u, PolSt B pb w' v0 v1 v2 u l0 l1 l2 (l3 ++ r) d) ∧ Below B w0 w' := by
 obtain ⟨ws, hws⟩ : ∃ ws, plWords s = ws := ⟨_, rfl⟩;have HW := Am hws;rw [h] at hws;have HWS := Am hws;have hlw : ws.length = r.length + 1 := by rw [← hws]; rfl
 have e0 : ((ws.length : Int) == 0) = false := by rw [beq_eq_false_iff_ne]; omega
 have e1 : (0 < (ws.length : Int)) = True := eq_true (by omega);have e1n : (0 < ws.length) = True := eq_true (by omega);have e2 : (1 ≤ (ws.length : Int)) = True := eq_true (by omega);have hp := words_pos (s := s) (by rw [h]; simp);have hx : ∀ h : 0 < s.size, ((s[0]'h).toNat : Int) = bt s 0 := bt_at s 0;have qi_ : (0 < (s.size : Int)) = True := eq_true (by omega);have q_ : (0 < s.size) = True := eq_true hp;have HM := Am hm;have HP := Am hP;have HB0 := Am hB;clear hws h hm hP hB hp hlw;have b35 : (bt s 0 == 35) = false := beq_eq_false_iff_ne.mpr h35;clear h35;have t_deep : (x.toList == ([100, 101, 101, 112] : List UInt8)) = false := by first | exact beq_iff_eq.mpr hk | (rw [beq_eq_false_iff_ne]; first | exact hdeep | (rw [hk]; decide))
 have t_element : (x.toList == ([101, 108, 101, 109, 101, 110, 116] : List UInt8)) = false := by first | exact beq_iff_eq.mpr hk | (rw [beq_eq_false_iff_ne]; first | exact helement | (rw [hk]; decide))
 have t_link : (x.toList == ([108, 105, 110, 107] : List UInt8)) = false := by first | exact beq_iff_eq.mpr hk | (rw [beq_eq_false_iff_ne]; first | exact hlink | (rw [hk]; decide))
 have t_scheme : (x.toList == ([115, 99, 104, 101, 109, 101] : List UInt8)) = false := by first | exact beq_iff_eq.mpr hk | (rw [beq_eq_false_iff_ne]; first | exact hscheme | (rw [hk]; decide))
 have t_drop : (x.toList == ([100, 114, 111, 112] : List UInt8)) = true := by first | exact beq_iff_eq.mpr hk | (rw [beq_eq_false_iff_ne]; first | exact hdrop | (rw [hk]; decide))
 clear hk;go_enter Tryz.func51, Tryz.ntmps51;go_wp2_with (first | (go_at_call 75; refine (say_words s m _ hs HM.out ws HW.out).mono ?_; rintro e w1 ⟨b, cap, rfl, hb0, ho, hb⟩; have HP1 := Am (HP.out.below hb); have HO := Am ho; have HB1 := Am hb; have HBb := Am hb0; clear ho hb hb0; obtain ⟨i0_, hi0_, _, hsz_, _⟩ := info_parts info9; have hRR := Kd.R_reads' HO.out; obtain ⟨Ad, hcut, hA, hCd⟩ := print_drop_of (P := Tryz.prog) Value.string (⟨#[]⟩ : ByteArray) 23 9 .i64 Tryz.underlying23 hi0_ hsz_ (some ⟨b, 0, none⟩) cap ws 1 (by omega) (of_eq_true e2) hRR.2.1; have hRd := hA _ (Kd.reads_of_C hRR.2.2); have hdr : ws.drop (1 : Int).toNat = r := (by rw [← HWS.out]; rfl); rw [hdr] at hcut hRd hCd; have HRd := Am (Kd.C_of_reads (h1 := fun _ => rfl) hRd); have HCd := Am hCd; obtain ⟨ad_, e_, hx0⟩ := Kd.at_string hRR.2.2 0 (by omega) (of_eq_true e1); cases e_; (try rw [show ((0 : Int)).toNat = 0 from rfl] at hx0); (try rw [Addr.add_zero'] at hx0); have hrd : rdOf ByteArray.empty ws 0 = x := (by rw [← HWS.out]; rfl); rw [hrd] at hx0; clear hA hRd hCd hdr hrd hRR hi0_ hsz_; have hcz : w1.cell? ⟨pb, 3, none⟩ = some v3 := (blk_cell HP1.out.1 3).trans rfl; have hfz := blk_frozen HP1.out.1 3) | ((with_reducible refine gate_builtin (b := .append) (xs := #[.tmp 85, .tmp 86]) rfl ?_); at_builtin; refine Kd.R_append_rows Kd.string (w0 := w0) B rfl (.tmp 85) (.tmp 86) 23 9 (.string ⟨#[]⟩) 16 rfl Tryz.underlying23 info9 rfl (by decide) (by omega) v3 l3 r _ _ _ (fun k_ => some k_ ≠ (v1 : Value).ownBlock ∧ some k_ ≠ (v2 : Value).ownBlock) (fun _ => False) rfl rfl ?aO ?aR (fun _ _ h => h) (fun _ h => h.elim) ?aF ?aB ?aS ?aL ?_; (case aR => exact HRd.out); (case aB => exact (HB0.out).trans (HB1.out.mono hBw)); (case aF => exact (fun k_ hk => ⟨Kd.fresh' (Kd.R_lt HP1.out.2.2.1) k_ hk, Kd.fresh' (Kd.R_lt HP1.out.2.2.2.1) k_ hk⟩)); (case aO => exact HP1.out.2.2.2.2); (case aS => exact Nat.le_trans hBw HB1.out.size); (case aL => exact hlen); intro u w2 hr_ hb_ hg_ hat_; obtain ⟨Au, cu, eu_⟩ := Kd.R_slice hr_; subst eu_; have h_ := HP1.out.drops hr_ hg_ hat_; simp only [List.length_append] at h_; have HP2 := Am h_; clear h_; have HB2 := Am hb_; have hb2_ := blk_grown HP1.out.1 hg_ (Kd.R_ne HP1.out.2.2.2.2 HP1.out.1 (by decide)); have hcz2 : w2.cell? ⟨pb, 3, none⟩ = some v3 := (blk_cell hb2_ 3).trans rfl; have hfz2 := blk_frozen hb2_ 3; clear hr_ hb_ hg_ hat_ hb2_))
 go_end0;exact ⟨rfl, ⟨_, HP2.out⟩, HB2.out.setCell hpb _⟩


theorem PolSt.rules {B pb : Nat} {w w1 : World} {v0 v1 v2 v3 u : Value} {l0 m : List S38} {l1 l2 l3 : List ByteArray} {d : Int} (h : PolSt B pb w v0 v1 v2 v3 l0 l1 l2 l3 d)
  (hr : Kd.S k38 38 w1 B (fun k_ => some k_ ≠ (v1 : Value).ownBlock ∧ some k_ ≠ (v2 : Value).ownBlock ∧ some k_ ≠ (v3 : Value).ownBlock) u m) (hg : w.grownBy w1 v0.ownBlock) :
  PolSt B pb (w1.setCell ⟨pb, 0, none⟩ u) u v1 v2 v3 m l1 l2 l3 d := by
 obtain ⟨hb, h0, h1, h2, h3⟩ := h;have hb1 := blk_grown hb hg (Kd.S_ne h0 hb (by decide));have t9 : ∀ q, q ∈ 9 :: (Kd.string).E → q ≠ 38 := by decide
 have g1 := Kd.R_over' h1 (Kd.S_typed h0) t9 hg;have g2 := Kd.R_over' h2 (Kd.S_typed h0) t9 hg;have g3 := Kd.R_over' h3 (Kd.S_typed h0) t9 hg;exact ⟨blk_put hb1 0 _ rfl, Kd.S_set hr hb1 pol_t53 0 _, Kd.R_set g1 hb1 pol_t9 0 _, Kd.R_set g2 hb1 pol_t9 0 _, Kd.R_set g3 hb1 pol_t9 0 _⟩
theorem pol_drop (b o c : Nat) (xs : List ByteArray) (j : Nat) (hj : j ≤ xs.length) (hc : xs.length ≤ c) :
  ∃ o' : Nat, (∀ W : World, (Instr.slice 23 (.slice (some ⟨b, o, none⟩) xs.length c) (some (.int .i64 (j : Int))) none none).run Tryz.prog W = .ok (.slice (some ⟨b, o', none⟩) (xs.drop j).length (c - j)) W) ∧
   (∀ w : World, Kd.C Kd.string w (some ⟨b, o, none⟩) xs.length xs → Kd.C Kd.string w (some ⟨b, o', none⟩) (xs.drop j).length (xs.drop j)) ∧ (xs.drop j).length ≤ c - j := by
 obtain ⟨i0, hi, _, hsz, _⟩ := info_parts info9;have hl : (xs.drop j).length = xs.length - j := List.length_drop
 have hA : (if c = j then some (⟨b, o, none⟩ : Addr) else (some (⟨b, o, none⟩ : Addr)).map (·.add j)) = some ⟨b, if c = j then o else o + j, none⟩ := by
  split
  ·rfl
  show some ((⟨b, o, none⟩ : Addr).add j) = _;rw [show (⟨b, o, none⟩ : Addr).add j = ⟨b, o + j, none⟩ by unfold Addr.add; split <;> simp_all]
 refine ⟨if c = j then o else o + j, fun W => ?_, fun w h => ?_, by omega⟩
 ·have hel : Tryz.prog.elem 23 = 9 := by simp [Program.elem, Tryz.underlying23]
  have hu : Tryz.prog.underlying 23 = some (.slice (Tryz.prog.elem 23)) := by rw [hel]; exact Tryz.underlying23
  rw [run_slice_l W 23 (some ⟨b, o, none⟩) xs.length c hu .i64 (j : Int) (Int.natCast_nonneg _) (by omega), hel, hl, ← hA]
  simp [sizeOf, typeInfo, hi, hsz, sliced, Result.andThen]
 have h1 := (Kd.reads_of_C (d := (⟨#[]⟩ : ByteArray)) h).drop_ j hj hc;rw [hA] at h1;rw [hl];exact Kd.C_of_reads (h1 := fun _ => rfl) h1
theorem clone_kd (b o c : Nat) (l : List ByteArray) (w : World) (hr : Kd.C Kd.string w (some ⟨b, o, none⟩) l.length l) (hl : l.length * 16 ≤ 140737488355328) :
  Calls Tryz.prog 78 #[.slice (some ⟨b, o, none⟩) l.length c] w fun e w' => ∃ v', e = .returned v' ∧ Kd.R Kd.string 9 w' w.heap.size (fun _ => True) v' l ∧ Below w.heap.size w w' := by
 refine (pl_clone b o l.length c l w (Nat.le_refl _) hl (fun j hj => ?_)).mono ?_
 ·obtain ⟨ad, he, hx⟩ := Kd.at_string hr (j : Int) (by omega) (by omega);cases he;rw [show ((j : Int)).toNat = j from rfl, show (⟨b, o, none⟩ : Addr).add j = ⟨b, o + j, none⟩ by unfold Addr.add; split <;> simp_all] at hx;rw [hx]; rfl
 rintro e w' ⟨v', he, ho, hb⟩;rw [List.take_length] at ho;exact ⟨v', he, Kd.R_of_own ho (fun _ _ => trivial), hb⟩

theorem say_element_bad (B pb : Nat) (m : Int) (s : ByteArray) (v0 v1 v2 v3 : Value) (l0 : List S38) (l1 l2 l3 : List ByteArray) (d : Int) (w0 w : World) (hs : s.size < 4294967281) (hm : w.cell? ⟨0, 0, none⟩ = some (.int .i64 m)) (hP : PolSt B pb w v0 v1 v2 v3 l0 l1 l2 l3 d) (hB : Below B w0 w) (hBw : B ≤ w.heap.size) (x : ByteArray) (h : plWords s = [x]) (h35 : bt s 0 ≠ 35) (hk : x.toList = ([101, 108, 101, 109, 101, 110, 116] : List UInt8)) :
  Calls Tryz.prog 51 #[.pointer (some ⟨pb, 0, none⟩), .string s] w fun e w' => e = .panicked oddC ∧ Below w.heap.size w w' := by
 obtain ⟨r, hr⟩ : ∃ r : List ByteArray, r = [] := ⟨_, rfl⟩;rw [← hr] at h;obtain ⟨ws, hws⟩ : ∃ ws, plWords s = ws := ⟨_, rfl⟩;have HW := Am hws;rw [h] at hws;have HWS := Am hws;have hlw : ws.length = r.length + 1 := by rw [← hws]; rfl
 have e0 : ((ws.length : Int) == 0) = false := by rw [beq_eq_false_iff_ne]; omega
 have e1 : (0 < (ws.length : Int)) = True := eq_true (by omega);have e1n : (0 < ws.length) = True := eq_true (by omega);have e2 : (1 ≤ (ws.length : Int)) = True := eq_true (by omega);have hp := words_pos (s := s) (by rw [h]; simp);have hx : ∀ h : 0 < s.size, ((s[0]'h).toNat : Int) = bt s 0 := bt_at s 0;have qi_ : (0 < (s.size : Int)) = True := eq_true (by omega);have q_ : (0 < s.size) = True := eq_true hp;have HM := Am hm;have HP := Am hP;have HB0 := Am hB;clear hws h hm hP hB hp hlw;have b35 : (bt s 0 == 35) = false := beq_eq_false_iff_ne.mpr h35;clear h35;have t_deep : (x.toList == ([100, 101, 101, 112] : List UInt8)) = false := by first | exact beq_iff_eq.mpr hk | (rw [beq_eq_false_iff_ne]; first | exact hdeep | (rw [hk]; decide))
 have t_element : (x.toList == ([101, 108, 101, 109, 101, 110, 116] : List UInt8)) = true := by first | exact beq_iff_eq.mpr hk | (rw [beq_eq_false_iff_ne]; first | exact helement | (rw [hk]; decide))
 have r1 : decide (0 < (r.length : Int)) = false := by rw [hr]; rfl
 have r1n : decide (0 < r.length) = false := by rw [hr]; rfl
 clear hk hr;go_enter Tryz.func51, Tryz.ntmps51;go_wp2_with (first | (go_at_call 75; refine (say_words s m _ hs HM.out ws HW.out).mono ?_; rintro e w1 ⟨b, cap, rfl, hb0, ho, hb⟩; have HP1 := Am (HP.out.below hb); have HO := Am ho; have HB1 := Am hb; have HBb := Am hb0; clear ho hb hb0; obtain ⟨i0_, hi0_, _, hsz_, _⟩ := info_parts info9; have hRR := Kd.R_reads' HO.out; obtain ⟨Ad, hcut, hA, hCd⟩ := print_drop_of (P := Tryz.prog) Value.string (⟨#[]⟩ : ByteArray) 23 9 .i64 Tryz.underlying23 hi0_ hsz_ (some ⟨b, 0, none⟩) cap ws 1 (by omega) (of_eq_true e2) hRR.2.1; have hRd := hA _ (Kd.reads_of_C hRR.2.2); have hdr : ws.drop (1 : Int).toNat = r := (by rw [← HWS.out]; rfl); rw [hdr] at hcut hRd hCd; have HRd := Am (Kd.C_of_reads (h1 := fun _ => rfl) hRd); have HCd := Am hCd; obtain ⟨ad_, e_, hx0⟩ := Kd.at_string hRR.2.2 0 (by omega) (of_eq_true e1); cases e_; (try rw [show ((0 : Int)).toNat = 0 from rfl] at hx0); (try rw [Addr.add_zero'] at hx0); have hrd : rdOf ByteArray.empty ws 0 = x := (by rw [← HWS.out]; rfl); rw [hrd] at hx0; clear hA hRd hCd hdr hrd hRR hi0_ hsz_) | (go_at_call 76; refine (must_no _).mono ?_; rintro e w' ⟨rfl, rfl⟩));exact ⟨rfl, rfl, HB1.out⟩

theorem say_element (B pb : Nat) (m : Int) (s : ByteArray) (v0 v1 v2 v3 : Value) (l0 : List S38) (l1 l2 l3 : List ByteArray) (d : Int) (w0 w : World) (hs : s.size < 4294967281) (hm : w.cell? ⟨0, 0, none⟩ = some (.int .i64 m)) (hP : PolSt B pb w v0 v1 v2 v3 l0 l1 l2 l3 d) (hB : Below B w0 w) (hBw : B ≤ w.heap.size) (hpb : B ≤ pb) (x y : ByteArray) (t : List ByteArray) (h : plWords s = x :: y :: t) (h35 : bt s 0 ≠ 35) (hk : x.toList = ([101, 108, 101, 109, 101, 110, 116] : List UInt8)) (hlen : (l0.length + 1) * 40 ≤ 140737488355328) (htl : t.length * 16 ≤ 140737488355328) :
  Calls Tryz.prog 51 #[.pointer (some ⟨pb, 0, none⟩), .string s] w fun e w' => e = .returned (.tuple #[]) ∧ (∃ u, PolSt B pb w' u v1 v2 v3 (l0 ++ [⟨y, t⟩]) l1 l2 l3 d) ∧ Below B w0 w' := by
 obtain ⟨r, hr⟩ : ∃ r, r = y :: t := ⟨_, rfl⟩;rw [← hr] at h;obtain ⟨ws, hws⟩ : ∃ ws, plWords s = ws := ⟨_, rfl⟩;have HW := Am hws;rw [h] at hws;have HWS := Am hws;have hlw : ws.length = r.length + 1 := by rw [← hws]; rfl
 have e0 : ((ws.length : Int) == 0) = false := by rw [beq_eq_false_iff_ne]; omega
 have e1 : (0 < (ws.length : Int)) = True := eq_true (by omega);have e1n : (0 < ws.length) = True := eq_true (by omega);have e2 : (1 ≤ (ws.length : Int)) = True := eq_true (by omega);have hp := words_pos (s := s) (by rw [h]; simp);have hx : ∀ h : 0 < s.size, ((s[0]'h).toNat : Int) = bt s 0 := bt_at s 0;have qi_ : (0 < (s.size : Int)) = True := eq_true (by omega);have q_ : (0 < s.size) = True := eq_true hp;have HM := Am hm;have HP := Am hP;have HB0 := Am hB;clear hws h hm hP hB hp hlw;have b35 : (bt s 0 == 35) = false := beq_eq_false_iff_ne.mpr h35;clear h35;have t_deep : (x.toList == ([100, 101, 101, 112] : List UInt8)) = false := by first | exact beq_iff_eq.mpr hk | (rw [beq_eq_false_iff_ne]; first | exact hdeep | (rw [hk]; decide))
 have t_element : (x.toList == ([101, 108, 101, 109, 101, 110, 116] : List UInt8)) = true := by first | exact beq_iff_eq.mpr hk | (rw [beq_eq_false_iff_ne]; first | exact helement | (rw [hk]; decide))
 have r1 : decide (0 < (r.length : Int)) = true := by rw [hr]; simp
 have r1n : decide (0 < r.length) = true := by rw [hr]; simp
 have r0 : (0 < (r.length : Int)) = True := eq_true (by rw [hr]; simp);have r0n : (0 < r.length) = True := eq_true (by rw [hr]; simp);have hy : rdOf ByteArray.empty r 0 = y := by rw [hr]; rfl
 have hdr2 : r.drop 1 = t := by rw [hr]; rfl
 clear hk hr;go_enter Tryz.func51, Tryz.ntmps51
 go_upto_region 10 with (first | (go_at_call 75; refine (say_words s m _ hs HM.out ws HW.out).mono ?_; rintro e w1 ⟨b, cap, rfl, hb0, ho, hb⟩; have HP1 := Am (HP.out.below hb); have HO := Am ho; have HB1 := Am hb; have HBb := Am hb0; clear ho hb hb0; have hRR := Kd.R_reads' HO.out; obtain ⟨o1, hcut, hA, hCd⟩ := pol_drop b 0 cap ws 1 (by have := of_eq_true e1n; omega) hRR.2.1; have hRd := hA _ hRR.2.2; have hdr : ws.drop 1 = r := (by rw [← HWS.out]; rfl); rw [hdr] at hcut hRd hCd; replace hcut : ∀ W : World, (Instr.slice 23 (.slice (some ⟨b, 0, none⟩) ws.length cap) (some (.int .i64 1)) none none).run Tryz.prog W = .ok (.slice (some ⟨b, o1, none⟩) r.length (cap - 1)) W := hcut; have HRd := Am hRd; have HCd := Am hCd; obtain ⟨ad_, e_, hx0⟩ := Kd.at_string hRR.2.2 0 (by omega) (of_eq_true e1); cases e_; (try rw [show ((0 : Int)).toNat = 0 from rfl] at hx0); (try rw [Addr.add_zero'] at hx0); have hrd : rdOf ByteArray.empty ws 0 = x := (by rw [← HWS.out]; rfl); rw [hrd] at hx0; clear hA hRd hCd hdr hrd hRR; obtain ⟨ad1, e1_, hx1⟩ := Kd.at_string HRd.out 0 (by omega) (of_eq_true r0); cases e1_; (try rw [show ((0 : Int)).toNat = 0 from rfl] at hx1); (try rw [Addr.add_zero'] at hx1); rw [hy] at hx1; obtain ⟨o2, hcut2, hA2, hC2⟩ := pol_drop b o1 (cap - 1) r 1 (by have := of_eq_true r0n; omega) HCd.out; rw [hdr2] at hcut2 hA2; replace hcut2 : ∀ W : World, (Instr.slice 23 (.slice (some ⟨b, o1, none⟩) r.length (cap - 1)) (some (.int .i64 1)) none none).run Tryz.prog W = .ok (.slice (some ⟨b, o2, none⟩) t.length (cap - 1 - 1)) W := hcut2; have HA2 := Am (hA2 _ HRd.out); clear hA2 hC2; have hcz : w1.cell? ⟨pb, 0, none⟩ = some v0 := (blk_cell HP1.out.1 0).trans rfl; have hfz := blk_frozen HP1.out.1 0) | (go_at_call 76; refine (must_yes _).mono ?_; rintro e w' ⟨rfl, rfl⟩))
 go_region_law (first | (go_simp; go_at_call 78; (refine (clone_kd b o2 (cap - 1 - 1) t _ ?c1 htl).mono ?_); (case c1 => repeat (first | exact HA2.out | (with_reducible refine Kd.C_drewN ?_ _) | (with_reducible refine Kd.C_drew ?_))); rintro e w2 ⟨v', rfl, hov, hbv⟩; obtain ⟨Av, cv, ev⟩ := Kd.R_slice hov; subst ev; have hb12 : Below w1.heap.size w1 w2 := below_step (by repeat (first | exact Below.refl _ _ | apply below_drew1 | apply pw_below_drewN | apply below_alloc)) hbv; have HB12 := Am hb12; have HOV := Am hov; have HBV := Am (show w1.heap.size ≤ _ from Nat.le_refl _); have HP2 := Am (HP1.out.below hb12); have hcz2 : w2.cell? ⟨pb, 0, none⟩ = some v0 := (blk_cell HP2.out.1 0).trans rfl; have hx2 := (hb12.cell (World.block_lt_of_cell? w1 _ hx1)).trans hx1; have hczA : ∀ o_, (w2.alloc o_).cell? ⟨pb, 0, none⟩ = some v0 := fun o_ => (blk_cell (blk_alloc HP2.out.1 o_) 0).trans rfl; clear hov hbv hb12) | (refine Kd.S_append_step k38 (w0 := w0) B (by rfl) (.tmp 45) (.tmp 53) 22 38 (.agg #[(.string ⟨#[]⟩), (.slice none 0 0)]) 40 rfl Tryz.underlying22 info38_ rfl (by decide) (by omega) v0 l0 (⟨y, t⟩ : S38) [.string y, .slice Av t.length cv] (fun k_ => some k_ ≠ (v1 : Value).ownBlock ∧ some k_ ≠ (v2 : Value).ownBlock ∧ some k_ ≠ (v3 : Value).ownBlock) (fun k_ => some k_ = (.slice Av t.length cv : Value).ownBlock) rfl rfl ?aP ?aK ?aF ?aO ?aB ?aS hlen ?_; (case aP => exact k38_mkM _ _ _ (⟨y, t⟩ : S38) (Kd.R_of_own (own_less (Kd.own_of_R HOV.out) (Nat.le_trans hBw HB1.out.size)) (fun k hk => hk.symm))); (case aK => exact fun k hk => by have h0 := Kd.R_base HOV.out k hk.symm; exact ⟨⟨Kd.fresh' (Kd.R_lt HP1.out.2.2.1) k h0, Kd.fresh' (Kd.R_lt HP1.out.2.2.2.1) k h0, Kd.fresh' (Kd.R_lt HP1.out.2.2.2.2) k h0⟩, Kd.fresh' (Kd.S_lt HP1.out.2.1) k h0⟩); (case aF => exact fun k h0 => ⟨Kd.fresh' (Kd.R_lt HP2.out.2.2.1) k h0, Kd.fresh' (Kd.R_lt HP2.out.2.2.2.1) k h0, Kd.fresh' (Kd.R_lt HP2.out.2.2.2.2) k h0⟩); (case aO => exact Kd.S_mono (Kd.S_old HP1.out.2.1 HB12.out) (fun k hk => ⟨hk.1, fun h_ => by have h0 : w1.heap.size ≤ k := Kd.R_base HOV.out k h_.symm; have h2_ := hk.2; omega⟩)); (case aB => exact (HB0.out).trans ((below_step HB1.out HB12.out).mono hBw)); (case aS => exact Nat.le_trans hBw (below_step HB1.out HB12.out).size); intro u w3 hr_ hb_ hg_ hat_; obtain ⟨Au, cu, eu_⟩ := Kd.S_slice hr_; subst eu_; have h_ := PolSt.rules HP2.out hr_ hg_; simp only [List.length_append, List.length_cons, List.length_nil, Nat.zero_add] at h_; have HP3 := Am h_; have HB3 := Am hb_; have hb3_ := blk_grown HP2.out.1 hg_ (Kd.S_ne HP2.out.2.1 HP2.out.1 (by decide)); have hcz3 : w3.cell? ⟨pb, 0, none⟩ = some v0 := (blk_cell hb3_ 0).trans rfl; have hfz3 := blk_frozen hb3_ 0; clear h_ hr_ hb_ hg_ hat_ hb3_))
 all_goals (first | go_end0 | (go_wp2; go_end0))
 all_goals exact ⟨rfl, ⟨_, HP3.out⟩, HB3.out.setCell hpb _⟩
theorem words_le (s : ByteArray) : (plWords s).length ≤ s.size + 1 := by
  have h1 := plPieces_len 32 s
  have h2 := Lib.countB_le ⟨#[32]⟩ (Nat.le_refl 1) s.size s (Nat.le_refl _)
  have h3 : (plWords s).length ≤ (plPieces 32 s).length := List.length_filter_le _ _
  omega
theorem say_ok (B pb : Nat) (m : Int) (s : ByteArray) (v0 v1 v2 v3 : Value) (l0 : List S38) (l1 l2 l3 : List ByteArray) (d : Int) (w0 w : World) (hs : s.size ≤ 5000) (hm : w.cell? ⟨0, 0, none⟩ = some (.int .i64 m)) (hP : PolSt B pb w v0 v1 v2 v3 l0 l1 l2 l3 d) (hB : Below B w0 w) (hBw : B ≤ w.heap.size) (hpb : B ≤ pb)
  (b0 : l0.length ≤ 1000000000) (b1 : l1.length ≤ 1000000000) (b2 : l2.length ≤ 1000000000) (b3 : l3.length ≤ 1000000000)
  (m0 : List S38) (m1 m2 m3 : List ByteArray) (d' : Int) (h : sayS l0 l1 l2 l3 d s = some (m0, m1, m2, m3, d')) :
  Calls Tryz.prog 51 #[.pointer (some ⟨pb, 0, none⟩), .string s] w fun e w' => e = .returned (.tuple #[]) ∧ (∃ u0 u1 u2 u3, PolSt B pb w' u0 u1 u2 u3 m0 m1 m2 m3 d') ∧ Below B w0 w' ∧ m0.length ≤ l0.length + 5001 ∧ m1.length ≤ l1.length + 5001 ∧ m2.length ≤ l2.length + 5001 ∧ m3.length ≤ l3.length + 5001 := by
 have hs' : s.size < 4294967281 := by omega
 have hwl := words_le s;unfold sayS at h
 split at h
 ·next hw =>
  obtain ⟨rfl, rfl, rfl, rfl, rfl⟩ : l0 = m0 ∧ l1 = m1 ∧ l2 = m2 ∧ l3 = m3 ∧ d = d' := by simpa using h
  refine (say_empty B pb m s v0 v1 v2 v3 l0 l1 l2 l3 d w0 w hs' hm hP hB hBw hw).mono ?_;rintro e w' ⟨he, hp, hb⟩;exact ⟨he, ⟨_, _, _, _, hp⟩, hB.trans (hb.mono hBw), by omega, by omega, by omega, by omega⟩
 next x r hw =>
 rw [hw] at hwl;simp only [List.length_cons] at hwl
 split at h
 ·next h35 =>
  obtain ⟨rfl, rfl, rfl, rfl, rfl⟩ : l0 = m0 ∧ l1 = m1 ∧ l2 = m2 ∧ l3 = m3 ∧ d = d' := by simpa using h
  refine (say_note B pb m s v0 v1 v2 v3 l0 l1 l2 l3 d w0 w hs' hm hP hB hBw x r hw h35).mono ?_;rintro e w' ⟨he, hp, hb⟩;exact ⟨he, ⟨_, _, _, _, hp⟩, hB.trans (hb.mono hBw), by omega, by omega, by omega, by omega⟩
 next h35 =>
 unfold sayW at h
 split at h
 ·next hk =>
  split at h
  ·next y =>
   cases hn : numS y with
   | none => rw [hn] at h; simp at h
   | some n =>
    rw [hn] at h;obtain ⟨rfl, rfl, rfl, rfl, rfl⟩ : l0 = m0 ∧ l1 = m1 ∧ l2 = m2 ∧ l3 = m3 ∧ n = d' := by simpa using h
    refine (say_deep B pb m s v0 v1 v2 v3 l0 l1 l2 l3 d w0 w hs' hm hP hB hBw hpb y x n hw h35 hk hn).mono ?_;rintro e w' ⟨he, hp, hb⟩;exact ⟨he, ⟨_, _, _, _, hp⟩, hb, by omega, by omega, by omega, by omega⟩
  simp at h
 next hdeep =>
 split at h
 ·next hk =>
  split at h
  ·simp at h
  next y t =>
  obtain ⟨rfl, rfl, rfl, rfl, rfl⟩ : l0 ++ [⟨y, t⟩] = m0 ∧ l1 = m1 ∧ l2 = m2 ∧ l3 = m3 ∧ d = d' := by simpa using h
  simp only [List.length_cons] at hwl;refine (say_element B pb m s v0 v1 v2 v3 l0 l1 l2 l3 d w0 w hs' hm hP hB hBw hpb x y t hw h35 hk (by omega) (by omega)).mono ?_;rintro e w' ⟨he, ⟨u, hp⟩, hb⟩;exact ⟨he, ⟨_, _, _, _, hp⟩, hb, by simp, by omega, by omega, by omega⟩
 next hel =>
 split at h
 ·next hk =>
  obtain ⟨rfl, rfl, rfl, rfl, rfl⟩ : l0 = m0 ∧ l1 ++ r = m1 ∧ l2 = m2 ∧ l3 = m3 ∧ d = d' := by simpa using h
  refine (say_link B pb m s v0 v1 v2 v3 l0 l1 l2 l3 d w0 w hs' hm hP hB hBw hpb x r hw h35 hk (by omega)).mono ?_;rintro e w' ⟨he, ⟨u, hp⟩, hb⟩;exact ⟨he, ⟨_, _, _, _, hp⟩, hb, by omega, by simp; omega, by omega, by omega⟩
 next hli =>
 split at h
 ·next hk =>
  obtain ⟨rfl, rfl, rfl, rfl, rfl⟩ : l0 = m0 ∧ l1 = m1 ∧ l2 ++ r = m2 ∧ l3 = m3 ∧ d = d' := by simpa using h
  refine (say_scheme B pb m s v0 v1 v2 v3 l0 l1 l2 l3 d w0 w hs' hm hP hB hBw hpb x r hw h35 hk (by omega)).mono ?_;rintro e w' ⟨he, ⟨u, hp⟩, hb⟩;exact ⟨he, ⟨_, _, _, _, hp⟩, hb, by omega, by omega, by simp; omega, by omega⟩
 next hsc =>
 split at h
 ·next hk =>
  obtain ⟨rfl, rfl, rfl, rfl, rfl⟩ : l0 = m0 ∧ l1 = m1 ∧ l2 = m2 ∧ l3 ++ r = m3 ∧ d = d' := by simpa using h
  refine (say_drop B pb m s v0 v1 v2 v3 l0 l1 l2 l3 d w0 w hs' hm hP hB hBw hpb x r hw h35 hk (by omega)).mono ?_;rintro e w' ⟨he, ⟨u, hp⟩, hb⟩;exact ⟨he, ⟨_, _, _, _, hp⟩, hb, by omega, by omega, by omega, by simp; omega⟩
 simp at h
theorem say_no (B pb : Nat) (m : Int) (s : ByteArray) (v0 v1 v2 v3 : Value) (l0 : List S38) (l1 l2 l3 : List ByteArray) (d : Int) (w0 w : World) (hs : s.size ≤ 5000) (hm : w.cell? ⟨0, 0, none⟩ = some (.int .i64 m)) (hP : PolSt B pb w v0 v1 v2 v3 l0 l1 l2 l3 d) (hB : Below B w0 w) (hBw : B ≤ w.heap.size)
  (h : sayS l0 l1 l2 l3 d s = none) :
  Calls Tryz.prog 51 #[.pointer (some ⟨pb, 0, none⟩), .string s] w fun e w' => e = .panicked oddC ∧ Below w.heap.size w w' := by
 have hs' : s.size < 4294967281 := by omega
 unfold sayS at h
 split at h
 ·simp at h
 next x r hw =>
 split at h
 ·simp at h
 next h35 =>
 unfold sayW at h
 split at h
 ·next hk =>
  split at h
  ·next y =>
   cases hn : numS y with
   | none => exact say_deep_bad B pb m s v0 v1 v2 v3 l0 l1 l2 l3 d w0 w hs' hm hP hB hBw y x hw h35 hk hn
   | some n => rw [hn] at h; simp at h
  next hne => exact say_deep_len B pb m s v0 v1 v2 v3 l0 l1 l2 l3 d w0 w hs' hm hP hB hBw x r hw h35 hk (fun hl => by
   match r, hl with
   | [y], _ => exact hne y rfl)
 next hdeep =>
 split at h
 ·next hk =>
  split at h
  ·exact say_element_bad B pb m s v0 v1 v2 v3 l0 l1 l2 l3 d w0 w hs' hm hP hB hBw x hw h35 hk
  simp at h
 next hel =>
 split at h
 ·simp at h
 next hli =>
 split at h
 ·simp at h
 next hsc =>
 split at h
 ·simp at h
 next hdr => exact say_odd B pb m s v0 v1 v2 v3 l0 l1 l2 l3 d w0 w hs' hm hP hB hBw x r hw h35 hdeep hel hli hsc hdr
def readGo (l0 : List S38) (l1 l2 l3 : List ByteArray) (d : Int) : List ByteArray → Int → List S38 × List ByteArray × List ByteArray × List ByteArray × Int × Int
  | [], _ => (l0, l1, l2, l3, d, 0)
  | s :: r, n => match sayS l0 l1 l2 l3 d s with
    | none => ([], [], [], [], 0, n + 1)
    | some (m0, m1, m2, m3, d') => readGo m0 m1 m2 m3 d' r (n + 1)
def p_read.f (l0 : List ByteArray) : Option (List S38 × List ByteArray × List ByteArray × List ByteArray × Int × Int) :=
  if l0.length ≤ 5000 ∧ (∀ s ∈ l0, s.size ≤ 5000) then some (readGo [] [] [] [] 0 l0 0) else none
def PolZ : Array Value := #[.slice none 0 0, .slice none 0 0, .slice none 0 0, .slice none 0 0, .int .i64 0]
theorem catch_odd (pb : Nat) (v0 v1 v2 v3 v4 : Value) (older : List PanicEntry) (w : World) (hb : w.heap[pb]? = some (.cells #[v0, v1, v2, v3, v4] 25 (0, 0))) :
  CallsD Tryz.prog 50 #[.pointer (some ⟨pb, 0, none⟩)] (.panicking ({ v := .iface 112 (.agg #[]), recovered := false } :: older)) w fun e u' w' =>
   e = .returned (.tuple #[]) ∧ u' = .panicking ({ v := .iface 112 (.agg #[]), recovered := true } :: older) ∧ w'.heap[pb]? = some (.cells PolZ 25 (0, 0)) ∧ ∀ B, B ≤ pb → Below B w w' := by
 have hu25 := Tryz.underlying25;have hb0 := blk_put hb 0 (.slice none 0 0) (cs' := #[.slice none 0 0, v1, v2, v3, v4]) rfl;have hb1 := blk_put hb0 1 (.slice none 0 0) (cs' := #[.slice none 0 0, .slice none 0 0, v2, v3, v4]) rfl;have hb2 := blk_put hb1 2 (.slice none 0 0) (cs' := #[.slice none 0 0, .slice none 0 0, .slice none 0 0, v3, v4]) rfl;have hb3 := blk_put hb2 3 (.slice none 0 0) (cs' := #[.slice none 0 0, .slice none 0 0, .slice none 0 0, .slice none 0 0, v4]) rfl;have hb4 := blk_put hb3 4 (.int .i64 0) (cs' := PolZ) rfl;have h0 := (blk_cell hb 0).trans (show _ = some v0 from rfl);have h1 := (blk_cell hb0 1).trans (show _ = some v1 from rfl);have h2 := (blk_cell hb1 2).trans (show _ = some v2 from rfl);have h3 := (blk_cell hb2 3).trans (show _ = some v3 from rfl);have h4 := (blk_cell hb3 4).trans (show _ = some v4 from rfl);have f0 := blk_frozen hb 0;have f1 := blk_frozen hb0 1;have f2 := blk_frozen hb1 2;have f3 := blk_frozen hb2 3;have f4 := blk_frozen hb3 4;have HB4 := Am hb4;have HBL := Am (show ∀ B, B ≤ pb → Below B w (((((w.setCell ⟨pb, 0, none⟩ (.slice none 0 0)).setCell ⟨pb, 1, none⟩ (.slice none 0 0)).setCell ⟨pb, 2, none⟩ (.slice none 0 0)).setCell ⟨pb, 3, none⟩ (.slice none 0 0)).setCell ⟨pb, 4, none⟩ (.int .i64 0)) from fun B hB => ((((((Below.refl B w).setCell (p := ⟨pb, 0, none⟩) hB _).setCell (p := ⟨pb, 1, none⟩) hB _).setCell (p := ⟨pb, 2, none⟩) hB _).setCell (p := ⟨pb, 3, none⟩) hB _).setCell (p := ⟨pb, 4, none⟩) hB _));clear hb hb0 hb1 hb2 hb3 hb4;refine callsD_of_wpS Tryz.func50 rfl fun c₀ cs hu => ?_
 apply wpS_seq
 apply wpS_region
 simp [wpOpsS, go_sem, recoverD, hu, Tryz.ntmps50, Exit.thenS]
 apply wpS_seq
 apply wpS_region
 simp [wpOpsS, go_sem, Exit.thenS]
 refine wpS_cond (t := true) (by simp [Act.eval, Array.replicate]) ?_;simp only [if_true]
 apply wpS_region
 simp [wpOpsS, go_sem, h0, h1, h2, h3, h4, f0, f1, f2, f3, f4, bodyPostS, results, Tryz.results50]
 exact ⟨HB4.out, HBL.out⟩
theorem catch_idle (pb : Nat) (w : World) :
  CallsD Tryz.prog 50 #[.pointer (some ⟨pb, 0, none⟩)] .returning w fun e u' w' => e = .returned (.tuple #[]) ∧ u' = .returning ∧ w' = w := by
 refine callsD_of_wpS Tryz.func50 rfl fun c₀ cs hu => ?_
 apply wpS_seq
 apply wpS_region
 simp [wpOpsS, go_sem, recoverD, hu, Tryz.ntmps50, Exit.thenS]
 apply wpS_seq
 apply wpS_region
 simp [wpOpsS, go_sem, Exit.thenS]
 refine wpS_cond (t := false) (by simp [Act.eval, Array.replicate]) ?_;simp only [Bool.false_eq_true, if_false];refine wpS_of_wp (wp_skip ?_);cases c₀
 simp_all [bodyPostS, results, Tryz.results50]
theorem PolSt.put {B pb : Nat} {w : World} {v0 v1 v2 v3 : Value} {l0 : List S38} {l1 l2 l3 : List ByteArray} {d : Int} (h : PolSt B pb w v0 v1 v2 v3 l0 l1 l2 l3 d) (i : Nat) (u : Value) (e : (#[v0, v1, v2, v3, .int .i64 d] : Array Value).setIfInBounds i u = #[v0, v1, v2, v3, .int .i64 d]) : PolSt B pb (w.setCell ⟨pb, i, none⟩ u) v0 v1 v2 v3 l0 l1 l2 l3 d :=
 ⟨blk_put h.1 i u e, Kd.S_set h.2.1 h.1 pol_t53 i u, Kd.R_set h.2.2.1 h.1 pol_t9 i u, Kd.R_set h.2.2.2.1 h.1 pol_t9 i u, Kd.R_set h.2.2.2.2 h.1 pol_t9 i u⟩
theorem p_read.calls (A0 : Option Addr) (c0 : Nat) (l0 : List ByteArray) (r1 : List S38) (r2 r3 r4 : List ByteArray) (r5 r6 : Int) (w : World) (hr0 : Kd.C Kd.string w A0 l0.length l0) (hc0 : l0.length ≤ c0) (m_ : Int) (hm_ : w.cell? ⟨0, 0, none⟩ = some (.int .i64 m_)) (h : p_read.f l0 = some (r1, r2, r3, r4, r5, r6)) :
  Calls Tryz.prog 31 #[.slice A0 l0.length c0] w fun e w' => ∃ v0_ v1_ v2_ v3_ : Value, e = .returned (.tuple #[.agg #[v0_, v1_, v2_, v3_, .int .i64 r5], .int .i64 r6]) ∧ Kd.S k38 38 w' w.heap.size (fun k_ => some k_ ≠ (v1_ : Value).ownBlock ∧ some k_ ≠ (v2_ : Value).ownBlock ∧ some k_ ≠ (v3_ : Value).ownBlock) v0_ r1 ∧ Kd.R Kd.string 9 w' w.heap.size (fun k_ => some k_ ≠ (v2_ : Value).ownBlock ∧ some k_ ≠ (v3_ : Value).ownBlock) v1_ r2 ∧ Kd.R Kd.string 9 w' w.heap.size (fun k_ => some k_ ≠ (v1_ : Value).ownBlock ∧ some k_ ≠ (v3_ : Value).ownBlock) v2_ r3 ∧ Kd.R Kd.string 9 w' w.heap.size (fun k_ => some k_ ≠ (v1_ : Value).ownBlock ∧ some k_ ≠ (v2_ : Value).ownBlock) v3_ r4 ∧ Below w.heap.size w w' := by
 have hmf : ∀ (fn : Fn) (first cap : Array Value) (w : World), (Instr.makeFunc fn first cap).run Tryz.prog w = .ok (.func fn first cap) w := fun _ _ _ _ => rfl
 have hu25 := Tryz.underlying25
 obtain ⟨hn, hsz, hgo⟩ : l0.length ≤ 5000 ∧ (∀ s ∈ l0, s.size ≤ 5000) ∧ readGo [] [] [] [] 0 l0 0 = (r1, r2, r3, r4, r5, r6) := by
  unfold p_read.f at h
  split at h
  ·next h1 => exact ⟨h1.1, h1.2, by simpa using h⟩
  simp at h
 have HS := Am hsz;have HGO := Am hgo;have HR0 := Am hr0;have HC0 := Am hc0;have HM := Am hm_;clear h hsz hgo hr0 hc0 hm_;go_enter_defers Tryz.func31, Tryz.ntmps31;go_wp2_with ((with_reducible refine gate_dst (N := 2) rfl ?_); refine boxE 25 2 (cs := #[.slice none 0 0, .slice none 0 0, .slice none 0 0, .slice none 0 0, .int .i64 0]) ?_; intro gb hg w3 hbox hb; have BK := Am hbox; have HB3 := Am hb; have GE := Am (show w.heap.size ≤ gb by rw [hg]; exact Nat.le_refl _); clear hbox hb hg)
 go_loopw [3, 9] (fun v3_ v9_ wr => ∃ (j : Nat) (n : Int) (v0 v1 v2 v3 : Value) (q0 : List S38) (q1 q2 q3 : List ByteArray) (d : Int), v9_ = .int .i64 j ∧ v3_ = .int .i64 n ∧ j ≤ l0.length ∧ Aside0 (readGo q0 q1 q2 q3 d (l0.drop j) (j : Int) = (r1, r2, r3, r4, r5, r6)) ∧ Aside0 (PolSt w.heap.size gb wr v0 v1 v2 v3 q0 q1 q2 q3 d) ∧ Aside0 (Below w.heap.size w wr) ∧ Aside0 (q0.length ≤ 5001 * j ∧ q1.length ≤ 5001 * j ∧ q2.length ≤ 5001 * j ∧ q3.length ≤ 5001 * j)) (fun _ i _ => l0.length - (intOf i).toNat)
 case atStart => exact ⟨0, 0, _, _, _, _, [], [], [], [], 0, rfl, rfl, Nat.zero_le _, HGO, ⟨BK.out, Kd.S_nil _ _ _ _ _, Kd.R_nil _ _ _ _ _, Kd.R_nil _ _ _ _ _, Kd.R_nil _ _ _ _ _⟩, HB3, ⟨by simp⟩⟩
 case round =>
  obtain ⟨j, n, v0, v1, v2, v3, q0, q1, q2, q3, d, rfl, rfl, hj, HG, HP, HB, HL⟩ := hrel
  by_cases hlt : j < l0.length
  ·obtain ⟨ad, e_, hx⟩ := Kd.at_string (Kd.C_below HR0.out HB.out) (j : Int) (by omega) (by omega);cases e_;rw [show ((j : Int)).toNat = j from rfl] at hx;have hget : l0[j]? = some (rdOf ByteArray.empty l0 (j : Int)) := by simp [rdOf, hlt]
   generalize rdOf ByteArray.empty l0 (j : Int) = s at hx hget
   have HD := Am (show l0.drop j = s :: l0.drop (j + 1) by
    obtain ⟨h1, h2⟩ := List.getElem?_eq_some_iff.mp hget
    rw [List.drop_eq_getElem_cons h1, h2])
   have hss : s.size ≤ 5000 := HS.out s (List.mem_of_getElem? hget);have q_ : ((j : Int) < (l0.length : Int)) = True := eq_true (by omega);have HG' := Am (show (match sayS q0 q1 q2 q3 d s with | none => (([] : List S38), ([] : List ByteArray), ([] : List ByteArray), ([] : List ByteArray), (0 : Int), (j : Int) + 1) | some (m0, m1, m2, m3, d') => readGo m0 m1 m2 m3 d' (l0.drop (j + 1)) ((j : Int) + 1)) = (r1, r2, r3, r4, r5, r6) from by have h_ := HG.out; rw [HD.out] at h_; exact h_);clear hget
   rcases hsay : sayS q0 q1 q2 q3 d s with _ | ⟨m0, m1, m2, m3, d'⟩
   ·have HSAY := Am hsay;rw [hsay] at HG';clear hsay;go_wp2_with (go_at_call 51; (refine (say_no w.heap.size gb m_ s v0 v1 v2 v3 q0 q1 q2 q3 d w _ hss (pw_cell_below HB.out HM.out) HP.out HB.out HB.out.size HSAY.out).mono ?_); rintro e w2 ⟨rfl, hb⟩; have HB2 := Am hb; clear hb);have hz := (HP.out.below HB2.out).1;refine leaves_cons (f := 50) (args := #[.pointer (some ⟨gb, 0, none⟩)]) (by simp) (by simp [go_sem]) ?_;refine (catch_odd gb v0 v1 v2 v3 (.int .i64 d) [] w2 hz).mono ?_;rintro e u' w'' ⟨rfl, rfl, hz', hbl⟩;have HZ := Am hz';have HBL := Am ((below_step HB.out HB2.out).trans (hbl _ GE.out));clear hz hz' hbl;refine ⟨_, results_ct rfl _ _ gb 25 PolZ (0, 0) _ rfl HZ.out Tryz.underlying25 rfl (by kernel_rfl), ?_⟩;obtain ⟨rfl, rfl, rfl, rfl, rfl, rfl⟩ : [] = r1 ∧ [] = r2 ∧ [] = r3 ∧ [] = r4 ∧ 0 = r5 ∧ (j : Int) + 1 = r6 := by have h_ := HG'.out; simpa using h_
    exact ⟨_, _, _, _, rfl, Kd.S_nil _ _ _ _ _, Kd.R_nil _ _ _ _ _, Kd.R_nil _ _ _ _ _, Kd.R_nil _ _ _ _ _, HBL.out⟩
   have HSAY := Am hsay;rw [hsay] at HG';clear hsay;go_wp2_with (go_at_call 51; (refine (say_ok w.heap.size gb m_ s v0 v1 v2 v3 q0 q1 q2 q3 d w _ hss (pw_cell_below HB.out HM.out) HP.out HB.out HB.out.size GE.out (by have := HL.out; omega) (by have := HL.out; omega) (by have := HL.out; omega) (by have := HL.out; omega) m0 m1 m2 m3 d' HSAY.out).mono ?_); rintro e w2 ⟨rfl, ⟨u0, u1, u2, u3, hp⟩, hb, hl⟩; have HB2 := Am hb; have HP2 := Am hp; have HL2 := Am hl; clear hb hp hl);go_roundw
   case rel => exact ⟨j + 1, _, u0, u1, u2, u3, m0, m1, m2, m3, d', by go_num, rfl, by omega, by have h_ := HG'.out; exact ⟨h_⟩, HP2, HB2, ⟨by have := HL.out; have := HL2.out; omega⟩⟩
   case measure => simp [intOf]; omega
  obtain rfl : j = l0.length := by omega
  have HE := Am (show (q0, q1, q2, q3, d, (0 : Int)) = (r1, r2, r3, r4, r5, r6) from by
   have h_ := HG.out;rw [List.drop_of_length_le (Nat.le_refl _)] at h_
   exact h_)
  obtain ⟨Z0, z0, e0⟩ := Kd.S_slice HP.out.2.1;subst e0;obtain ⟨Z1, z1, e1⟩ := Kd.R_slice HP.out.2.2.1;subst e1;obtain ⟨Z2, z2, e2⟩ := Kd.R_slice HP.out.2.2.2.1;subst e2;obtain ⟨Z3, z3, e3⟩ := Kd.R_slice HP.out.2.2.2.2;subst e3;have g1 := HP.out.put 0 _ rfl;have g2 := g1.put 1 _ rfl;have g3 := g2.put 2 _ rfl;have g4 := g3.put 3 _ rfl;have g5 := g4.put 4 _ rfl;have HP5 := Am g5;have HB5 := Am (((((HB.out.setCell (p := ⟨gb, 0, none⟩) GE.out (.slice Z0 q0.length z0)).setCell (p := ⟨gb, 1, none⟩) GE.out (.slice Z1 q1.length z1)).setCell (p := ⟨gb, 2, none⟩) GE.out (.slice Z2 q2.length z2)).setCell (p := ⟨gb, 3, none⟩) GE.out (.slice Z3 q3.length z3)).setCell (p := ⟨gb, 4, none⟩) GE.out (.int .i64 d));have hz0 := (blk_cell HP.out.1 0).trans (show _ = some (.slice Z0 q0.length z0) from rfl);have hz1 := (blk_cell HP.out.1 1).trans (show _ = some (.slice Z1 q1.length z1) from rfl);have hz2 := (blk_cell HP.out.1 2).trans (show _ = some (.slice Z2 q2.length z2) from rfl);have hz3 := (blk_cell HP.out.1 3).trans (show _ = some (.slice Z3 q3.length z3) from rfl);have hz4 := (blk_cell HP.out.1 4).trans (show _ = some (.int .i64 d) from rfl);have hy0 := blk_frozen HP.out.1 0;have hs1 := (blk_cell g1.1 1).trans (show _ = some (.slice Z1 q1.length z1) from rfl);have hy1 := blk_frozen g1.1 1;have hs2 := (blk_cell g2.1 2).trans (show _ = some (.slice Z2 q2.length z2) from rfl);have hy2 := blk_frozen g2.1 2;have hs3 := (blk_cell g3.1 3).trans (show _ = some (.slice Z3 q3.length z3) from rfl);have hy3 := blk_frozen g3.1 3;have hs4 := (blk_cell g4.1 4).trans (show _ = some (.int .i64 d) from rfl);have hy4 := blk_frozen g4.1 4;clear g1 g2 g3 g4 g5;go_wp2;refine leaves_cons (f := 50) (args := #[.pointer (some ⟨gb, 0, none⟩)]) (by simp) (by simp [go_sem]) ?_;refine (catch_idle gb _).mono ?_;rintro e u' w'' ⟨rfl, rfl, rfl⟩;refine ⟨_, results_ct rfl _ _ gb 25 #[.slice Z0 q0.length z0, .slice Z1 q1.length z1, .slice Z2 q2.length z2, .slice Z3 q3.length z3, .int .i64 d] (0, 0) _ rfl HP5.out.1 Tryz.underlying25 rfl (by kernel_rfl), ?_⟩
  have h_ := HE.out;simp only [Prod.mk.injEq] at h_;obtain ⟨rfl, rfl, rfl, rfl, rfl, rfl⟩ := h_;exact ⟨_, _, _, _, rfl, HP5.out.2.1, HP5.out.2.2.1, HP5.out.2.2.2.1, HP5.out.2.2.2.2, HB5.out⟩


def strings_Split.f (a0 : ByteArray) (a1 : ByteArray) : Option (List ByteArray) := match a1.data.toList with
  | [c] => if a0.size ≤ 4000000 then some (plPieces c a0) else none
  | _ => none
theorem strings_Split.calls (a0 a1 : ByteArray) (r : List ByteArray) (w : World) (m_ : Int) (hm_ : w.cell? ⟨0, 0, none⟩ = some (.int .i64 m_)) (h : strings_Split.f a0 a1 = some r) :
  Calls Tryz.prog 32 #[.string a0, .string a1] w fun e w' => ∃ v0_ : Value, e = .returned v0_ ∧ Kd.R Kd.string 9 w' w.heap.size (fun _ => True) v0_ r ∧ Below w.heap.size w w' := by
 unfold strings_Split.f at h
 split at h
 ·next c hc =>
  split at h
  ·next hs =>
   obtain rfl := Option.some.inj h
   have ha : a1 = ⟨#[c]⟩ := by
    obtain ⟨⟨l⟩⟩ := a1
    simp at hc
    subst hc; rfl
   subst ha;refine (pl_split c a0 m_ w (by omega) hm_).mono ?_;rintro e w' ⟨rfl, rfl⟩
   have hlen : (plPieces c a0).length ≤ 9223372036854775807 := by
    have h1 := plPieces_len c a0;have h2 := Lib.countB_le ⟨#[c]⟩ (Nat.le_refl 1) a0.size a0 (Nat.le_refl _)
    omega
   exact ⟨_, rfl, Kd.R_of_own (own_lit_of (enc := Value.string) w w.heap.size 9 (plPieces c a0) (Nat.le_refl _) hlen) (fun _ _ => trivial), below_alloc (Below.refl _ _) _⟩
  simp at h
 simp at h


end Go.Proofs.YtnbghhddmlohoaaGreatDoor.PAll

end
