-- Written by a program of this session (hprint.py: the kit's print over several laws at once, with functions proved by hand). Lean checks it.
import Derived.Test.YthomonglhieifaaPAllx0
namespace Go.Proofs.Ythomonglhieifaa.PAll
open Go.RowKit Go.Proofs.YthomonglhieifaaW.PrintWords Go.Proofs.YthomonglhieifaaW.PrintLast Go.Proofs.YthomonglhieifaaW.PrintMore
attribute [local go_sem] max2_int min2_int max_two min_two max_three min_three max_four min_four   -- for this text's walks alone
set_option linter.unusedVariables false
set_option linter.unusedSimpArgs false

-- EXT internal/stringslite.Index ; rounds=0 ; making=0 ; uses=
/-! ### stringslite_Index: function 28, at a text of one byte (the shelf's contract Any.stringslite_Index_one) -/
open Go.Shelf in
def lays219_ren : Go.Shelf.Ren := ⟨fun | 219 => 28 | 217 => 30 | 225 => 31 | 224 => 32 | 267 => 33 | 266 => 35 | 314 => 36 | n => n, fun | 9 => 9 | 3 => 3 | 4 => 4 | 5 => 5 | 46 => 48 | 146 => 52 | 51 => 51 | n => n, fun | 1 => 0 | n => n⟩
open Go.Shelf in
theorem lays219 : Go.Proofs.Lays.n219 Try.prog lays219_ren := {
  mixed := by kernel_rfl
  f217 := Try.func30.trans (congrArg some (by kernel_rfl))
  f219 := Try.func28.trans (congrArg some (by kernel_rfl))
  f224 := Try.func32.trans (congrArg some (by kernel_rfl))
  f225 := Try.func31.trans (congrArg some (by kernel_rfl))
  f266 := Try.func35.trans (congrArg some (by kernel_rfl))
  f267 := Try.func33.trans (congrArg some (by kernel_rfl))
  f314 := Try.func36.trans (congrArg some (by kernel_rfl))
  t3 := Try.underlying3
  a3 := Try.isAgg3
  z3 := Try.sizeOf3
  v3 := Try.zeroValue3
  t4 := Try.underlying4
  a4 := Try.isAgg4
  z4 := Try.sizeOf4
  v4 := Try.zeroValue4
  t5 := Try.underlying5
  a5 := Try.isAgg5
  z5 := Try.sizeOf5
  v5 := Try.zeroValue5
  t9 := Try.underlying9
  a9 := Try.isAgg9
  z9 := Try.sizeOf9
  v9 := Try.zeroValue9
  t46 := Try.underlying48
  a46 := Try.isAgg48
  z46 := Try.sizeOf48
  v46 := Try.zeroValue48
  t51 := Try.underlying51
  a51 := Try.isAgg51
  z51 := Try.sizeOf51
  v51 := Try.zeroValue51
  t146 := Try.underlying52
  a146 := Try.isAgg52
  z146 := Try.sizeOf52
  v146 := Try.zeroValue52
  g1 := by kernel_rfl }
def stringslite_Index.f (a0 : ByteArray) (a1 : ByteArray) : Option Int := if a1.data.size = 1 then some (Lib.indexByte a0.data.toList (a1.data.toList.headD 0)) else none
theorem stringslite_Index.calls (a0 : ByteArray) (a1 : ByteArray) (r : Int) (w : World) (h : stringslite_Index.f a0 a1 = some r) :
    Calls Try.prog 28 #[.string a0, .string a1] w fun e w' => e = .returned (.int .i64 r) ∧ Drawn0 w w' := by
  unfold stringslite_Index.f at h
  split at h
  · next h1 =>
    obtain ⟨⟨l⟩⟩ := a1
    obtain ⟨c, rfl⟩ : ∃ c, l = [c] := by
      match l, h1 with
      | [c], _ => exact ⟨c, rfl⟩
    obtain rfl := Option.some.inj h
    refine (Any.stringslite_Index_one lays219 a0 c w).mono ?_
    rintro e w' ⟨rfl, rfl⟩
    exact ⟨rfl, Drawn0.refl _⟩
  · exact absurd h (by simp)


end Go.Proofs.Ythomonglhieifaa.PAll
