-- Laid together by a program of this session (merge.py) out of its own texts and of the print's, for one law. Lean checks it.
import Derived.Test.YtnbghhddmlohoaaDoorMPl1
section
namespace Go.Proofs.YtnbghhddmlohoaaDoor.PAll
open Go.RowKit Go.Proofs.YtnbghhddmlohoaaDoorW.PrintWords Go.Proofs.YtnbghhddmlohoaaDoorW.PrintLast Go.Proofs.YtnbghhddmlohoaaDoorW.PrintMore
attribute [local go_sem] max2_int min2_int max_two min_two max_three min_three max_four min_four   -- for this text's walks alone
set_option linter.unusedVariables false
set_option linter.unusedSimpArgs false

def kind_Letter.f (a0 : Int) : Option (Bool) := if (Go.bits .or .u8 a0 32) ≥ 97 then (some (decide ((Go.bits .or .u8 a0 32) ≤ 122))) else (some false)
set_option maxHeartbeats 8000000 in
set_option maxRecDepth 100000 in
theorem kind_Letter.calls (a0 : Int) (r : Bool) (w : World) (h : kind_Letter.f a0 = some r) :
    Calls Tryd.prog 58 #[.int .u8 a0] w fun e w' => e = .returned (.bool r) ∧ Drawn0 w w' := by
  have H : (if (Go.bits .or .u8 a0 32) ≥ 97 then (some (decide ((Go.bits .or .u8 a0 32) ≤ 122))) else (some false)) = some r := h
  clear h
  by_cases c2 : (Go.bits .or .u8 a0 32) ≥ 97
  · rw [if_pos c2] at H
    have c2b0 : decide (97 ≤ (Go.bits .or .u8 a0 32)) = true := decide_eq_true c2
    clear c2
    obtain rfl := Option.some.inj H
    go_enter Tryd.func58, Tryd.ntmps58
    go_wp2
    go_ret
    exact ⟨Rs, Dw⟩
  · rw [if_neg c2] at H
    have c2b0 : decide (97 ≤ (Go.bits .or .u8 a0 32)) = false := decide_eq_false c2
    clear c2
    obtain rfl := Option.some.inj H
    go_enter Tryd.func58, Tryd.ntmps58
    go_wp2
    go_ret
    exact ⟨Rs, Dw⟩

def scheme_part.f (a0 : Int) : Option (Bool) := (kind_Letter.f a0).bind fun t185 => (if t185 = true then (some true) else ((kind_Figure.f a0).bind fun t186 => (if t186 = true then (some true) else (if a0 = 43 then (some true) else (if a0 = 45 then (some true) else (some (a0 == 46)))))))
set_option maxHeartbeats 8000000 in
set_option maxRecDepth 100000 in
theorem scheme_part.calls (a0 : Int) (r : Bool) (w : World) (h : scheme_part.f a0 = some r) :
  Calls Tryd.prog 59 #[.int .u8 a0] w fun e w' => e = .returned (.bool r) ∧ Drawn0 w w' := by
 have H := h
 clear h
 unfold scheme_part.f at H
 replace H := Option.bind_eq_some_iff.mp H
 obtain ⟨t185, A20, H⟩ := H
 try dsimp -simprocs only at H
 have A2 := Aside0.mk A20
 clear A20
 by_cases c3 : t185 = true
 ·subst c3
  rw [if_pos rfl] at H
  obtain rfl := Option.some.inj H
  go_enter Tryd.func59, Tryd.ntmps59
  go_wp2_with (first | ((with_reducible refine gate_callee (f := 58) rfl ?_); refine goL (some 4) Tryd.func58 #[.int .u8 a0] ?_; (with_reducible refine (kind_Letter.calls a0 true _ A2.out).mono ?_); rintro e w' ⟨rfl, ⟨nd, rfl⟩⟩; refine ⟨_, rfl, ?_⟩))
  go_ret
  exact ⟨Rs, Dw⟩
 replace c3 := Bool.eq_false_iff.mpr c3
 subst c3
 rw [if_neg (show ¬ (false = true) by decide)] at H
 replace H := Option.bind_eq_some_iff.mp H
 obtain ⟨t186, A40, H⟩ := H
 try dsimp -simprocs only at H
 have A4 := Aside0.mk A40
 clear A40
 by_cases c5 : t186 = true
 ·subst c5
  rw [if_pos rfl] at H
  obtain rfl := Option.some.inj H
  go_enter Tryd.func59, Tryd.ntmps59
  go_wp2_with (first | ((with_reducible refine gate_callee (f := 58) rfl ?_); refine goL (some 4) Tryd.func58 #[.int .u8 a0] ?_; (with_reducible refine (kind_Letter.calls a0 false _ A2.out).mono ?_); rintro e w' ⟨rfl, ⟨nd, rfl⟩⟩; refine ⟨_, rfl, ?_⟩) | (go_at_call 82; (with_reducible refine (kind_Figure.calls a0 true _ A4.out).mono ?_); rintro e w' ⟨rfl, ⟨nd, rfl⟩⟩))
  go_ret
  exact ⟨Rs, Dw⟩
 replace c5 := Bool.eq_false_iff.mpr c5
 subst c5
 rw [if_neg (show ¬ (false = true) by decide)] at H
 by_cases c6 : a0 = 43
 ·rw [if_pos c6] at H
  have c6b0 : (a0 == 43) = true := beq_iff_eq.mpr c6
  have c6b1 : (a0 != 43) = false := bne_eq_false_iff_eq.mpr c6
  clear c6
  obtain rfl := Option.some.inj H
  go_enter Tryd.func59, Tryd.ntmps59
  go_wp2_with (first | ((with_reducible refine gate_callee (f := 58) rfl ?_); refine goL (some 4) Tryd.func58 #[.int .u8 a0] ?_; (with_reducible refine (kind_Letter.calls a0 false _ A2.out).mono ?_); rintro e w' ⟨rfl, ⟨nd, rfl⟩⟩; refine ⟨_, rfl, ?_⟩) | (go_at_call 82; (with_reducible refine (kind_Figure.calls a0 false _ A4.out).mono ?_); rintro e w' ⟨rfl, ⟨nd, rfl⟩⟩))
  go_ret
  exact ⟨Rs, Dw⟩
 rw [if_neg c6] at H
 have c6b0 : (a0 == 43) = false := beq_eq_false_iff_ne.mpr c6
 have c6b1 : (a0 != 43) = true := bne_iff_ne.mpr c6
 by_cases c7 : a0 = 45
 ·rw [if_pos c7] at H
  have c7b0 : (a0 == 45) = true := beq_iff_eq.mpr c7
  have c7b1 : (a0 != 45) = false := bne_eq_false_iff_eq.mpr c7
  clear c7
  obtain rfl := Option.some.inj H
  go_enter Tryd.func59, Tryd.ntmps59
  go_wp2_with (first | ((with_reducible refine gate_callee (f := 58) rfl ?_); refine goL (some 4) Tryd.func58 #[.int .u8 a0] ?_; (with_reducible refine (kind_Letter.calls a0 false _ A2.out).mono ?_); rintro e w' ⟨rfl, ⟨nd, rfl⟩⟩; refine ⟨_, rfl, ?_⟩) | (go_at_call 82; (with_reducible refine (kind_Figure.calls a0 false _ A4.out).mono ?_); rintro e w' ⟨rfl, ⟨nd, rfl⟩⟩))
  go_ret
  exact ⟨Rs, Dw⟩
 rw [if_neg c7] at H
 have c7b0 : (a0 == 45) = false := beq_eq_false_iff_ne.mpr c7
 have c7b1 : (a0 != 45) = true := bne_iff_ne.mpr c7
 obtain rfl := Option.some.inj H
 go_enter Tryd.func59, Tryd.ntmps59
 go_wp2_with (first | ((with_reducible refine gate_callee (f := 58) rfl ?_); refine goL (some 4) Tryd.func58 #[.int .u8 a0] ?_; (with_reducible refine (kind_Letter.calls a0 false _ A2.out).mono ?_); rintro e w' ⟨rfl, ⟨nd, rfl⟩⟩; refine ⟨_, rfl, ?_⟩) | (go_at_call 82; (with_reducible refine (kind_Figure.calls a0 false _ A4.out).mono ?_); rintro e w' ⟨rfl, ⟨nd, rfl⟩⟩))
 go_ret
 exact ⟨Rs, Dw⟩

def lowB (c : UInt8) : UInt8 := if 65 ≤ c.toNat ∧ c.toNat ≤ 90 then c ||| 32 else c
def lowS (s : ByteArray) : ByteArray := ⟨s.data.map lowB⟩
def lowRow (s : ByteArray) (k : Nat) : List Int := ((s.data.toList.take k).map lowB ++ s.data.toList.drop k).map fun c => (c.toNat : Int)
theorem lowRow_len (s : ByteArray) (k : Nat) (h : k ≤ s.size) : (lowRow s k).length = s.size := by
  have e : s.data.toList.length = s.size := by simp
  simp [lowRow] at *
  omega
theorem lowRow_zero (s : ByteArray) (j : Nat) : (lowRow s 0).getD j 0 = ((s.data.toList.getD j 0).toNat : Int) := by
  simp only [lowRow, List.take_zero, List.map_nil, List.drop_zero, List.nil_append, List.getD_eq_getElem?_getD, List.getElem?_map]
  cases s.data.toList[j]? <;> simp
theorem lowRow_at (s : ByteArray) (k j : Nat) (h : k ≤ s.size) (hj : j < s.size) : (lowRow s k).getD j 0 = if j < k then ((lowB (s.data.toList.getD j 0)).toNat : Int) else ((s.data.toList.getD j 0).toNat : Int) := by
  have e : s.data.toList.length = s.size := by simp
  have hg : ∃ c, s.data.toList[j]? = some c := ⟨_, List.getElem?_eq_getElem (by omega)⟩
  obtain ⟨c, hc⟩ := hg
  simp only [lowRow, List.getD_eq_getElem?_getD, List.getElem?_map, List.getElem?_append, List.length_map, List.length_take, e, Nat.min_eq_left h]
  split
  · next hlt => rw [List.getElem?_take, if_pos hlt, hc]; simp
  · next hlt => rw [List.getElem?_drop, show k + (j - k) = j by omega, hc]; simp
theorem lowRow_end (s : ByteArray) : strOfNums (lowRow s s.size) = lowS s := by
  have e : s.data.toList.length = s.size := by simp
  unfold lowRow
  rw [List.take_of_length_le (by omega), List.drop_of_length_le (by omega)]
  simp only [strOfNums, lowS, List.append_nil, List.map_map, Function.comp_def]
  congr 1
  apply Array.ext'
  simp
def LowIs (s : ByteArray) (B : Nat) (w wr : World) (k : Nat) : Prop :=
  (∀ j, j < s.size → wr.cell? ⟨B, j, none⟩ = some (.int .u8 ((lowRow s k).getD j 0))) ∧ (∀ j, j < s.size → wr.frozen? ⟨B, j, none⟩ = false) ∧ Below B w wr
theorem LowIs.same {s : ByteArray} {B : Nat} {w wr : World} {k : Nat} (h : LowIs s B w wr k) (hk : k < s.size) (he : lowB (s.data.toList.getD k 0) = s.data.toList.getD k 0) : LowIs s B w wr (k + 1) := by
  refine ⟨fun j hj => ?_, h.2⟩
  rw [h.1 j hj, lowRow_at s k j (by omega) hj, lowRow_at s (k + 1) j (by omega) hj]
  by_cases e1 : j < k
  · rw [if_pos e1, if_pos (by omega)]
  · by_cases e2 : j = k
    · subst e2; rw [if_neg e1, if_pos (by omega), he]
    · rw [if_neg e1, if_neg (by omega)]
theorem LowIs.set {s : ByteArray} {B : Nat} {w wr : World} {k : Nat} (h : LowIs s B w wr k) (hk : k < s.size) {v : Int} (he : ((lowB (s.data.toList.getD k 0)).toNat : Int) = v) : LowIs s B w (wr.setCell ⟨B, k, none⟩ (.int .u8 v)) (k + 1) := by
  obtain ⟨h1, h2, h3⟩ := h
  refine ⟨fun j hj => ?_, fun j hj => by rw [World.frozen?_setCell]; exact h2 j hj, h3.setCell (Nat.le_refl _) _⟩
  rw [lowRow_at s (k + 1) j (by omega) hj]
  by_cases e2 : j = k
  · subst e2; rw [if_pos (by omega), he]; exact World.cell?_setCell_same _ _ _ (h1 j hj)
  · rw [World.cell?_setCell_other wr _ _ _ (by simp [Ne.symm e2]), h1 j hj, lowRow_at s k j (by omega) hj]
    by_cases e1 : j < k
    · rw [if_pos e1, if_pos (by omega)]
    · rw [if_neg e1, if_neg (by omega)]
theorem lowB_is (c : UInt8) : lowB c = c ∨ (65 ≤ (c.toNat : Int) ∧ (c.toNat : Int) ≤ 90) := by
  unfold lowB
  split
  · right; omega
  · left; rfl
theorem lowB_bits : ∀ c : UInt8, 65 ≤ (c.toNat : Int) → (c.toNat : Int) ≤ 90 → ((lowB c).toNat : Int) = Go.bits .or .u8 c.toNat 32 := by
  have H : ∀ n, n < 256 → 65 ≤ n → n ≤ 90 → ((lowB (UInt8.ofNat n)).toNat : Int) = Go.bits .or .u8 (n : Int) 32 := by decide +kernel
  intro c h1 h2
  have := H c.toNat (by have := c.toNat_lt; omega) (by omega) (by omega)
  simpa using this
theorem fz_bytes (w : World) (e : TypeId) (s : ByteArray) (j : Nat) (hj : j < s.size) : (Lib.bytesWorld w e s).frozen? ⟨w.heap.size, j, none⟩ = false := by
  have h := Lib.bytesWorld_at_new w e s
  have hn : s.size ≤ (Lib.bytesCells w e s).size := by simp [Lib.bytesCells]
  simp [World.frozen?, h]
  omega
def kind_Lower.f (a0 : ByteArray) : Option (ByteArray) := if a0.size ≤ 140737488351232 then some (lowS a0) else none
set_option maxHeartbeats 1000000 in
set_option maxRecDepth 100000 in
theorem kind_Lower.calls (a0 : ByteArray) (r : ByteArray) (w : World) (h : kind_Lower.f a0 = some r) :
  Calls Tryd.prog 60 #[.string a0] w fun e w' => e = .returned (.string r) ∧ Below w.heap.size w w' := by
 obtain ⟨hs, rfl⟩ : a0.size ≤ 140737488351232 ∧ lowS a0 = r := by
  unfold kind_Lower.f at h
  split at h
  ·next hs => exact ⟨hs, by simpa using h⟩
  simp at h
 clear h
 have hcv := fun W => Lib.run_convert_string_bytes (P := Tryd.prog) W 9 85 5 a0 Tryd.underlying9 Tryd.underlying85 Tryd.underlying5
 have hstart : LowIs a0 w.heap.size w (Lib.bytesWorld w 5 a0) 0 := by
  refine ⟨fun j hj => ?_, fun j hj => ?_, ?_⟩
  ·rw [Lib.bytesWorld_cell w 5 a0 j hj, lowRow_zero]
  ·exact fz_bytes w 5 a0 j hj
  exact bytes_below (Below.refl _ _) (Nat.le_refl _) 5 a0
 have HS := Aside0.mk hstart
 clear hstart
 go_enter Tryd.func60, Tryd.ntmps60
 go_wp2
 go_loopw [10] (fun i wr => ∃ k : Nat, k ≤ a0.size ∧ i = .int .i64 k ∧ LowIs a0 w.heap.size w wr k) (fun i _ => a0.size - (intOf i).toNat)
 case atStart => exact ⟨0, Nat.zero_le _, rfl, HS.out⟩
 case round =>
  obtain ⟨k, hk, rfl, hlow⟩ := hrel
  by_cases hlt : k < a0.size
  ·obtain ⟨c, hc⟩ : ∃ c, c = a0.data.toList.getD k 0 := ⟨_, rfl⟩
   have hcell : wr.cell? ⟨w.heap.size, k, none⟩ = some (.int .u8 (c.toNat : Int)) := by
    rw [hlow.1 k hlt, lowRow_at a0 k k (by omega) hlt, if_neg (by omega), hc]
   have hfz : wr.frozen? ⟨w.heap.size, k, none⟩ = false := hlow.2.1 k hlt
   have HL := Aside0.mk hlow
   clear hlow
   have HC := Aside0.mk hc
   clear hc
   obtain ⟨n, hn⟩ : ∃ n : Int, n = (c.toNat : Int) := ⟨_, rfl⟩
   rw [← hn] at hcell
   have HN := Aside0.mk hn
   have hn0 : 0 ≤ n := by omega
   have hn1 : n ≤ 255 := by have := c.toNat_lt; omega
   clear hn
   by_cases h1 : 65 ≤ n
   ·by_cases h2 : n ≤ 90
    ·go_wp2
     go_roundw
     case rel => exact ⟨k + 1, by omega, by go_num, HL.out.set hlt (by rw [← HC.out, HN.out]; exact lowB_bits c (by rw [← HN.out]; exact h1) (by rw [← HN.out]; exact h2))⟩
     case measure => simp [intOf]; omega
    go_wp2
    go_roundw
    case rel => exact ⟨k + 1, by omega, by go_num, HL.out.same hlt (by rw [← HC.out]; exact (lowB_is c).resolve_right (by rw [← HN.out]; omega))⟩
    case measure => simp [intOf]; omega
   go_wp2
   go_roundw
   case rel => exact ⟨k + 1, by omega, by go_num, HL.out.same hlt (by rw [← HC.out]; exact (lowB_is c).resolve_right (by rw [← HN.out]; omega))⟩
   case measure => simp [intOf]; omega
  obtain rfl : k = a0.size := by omega
  have hback := run_convert_bytes_arg (P := Tryd.prog) wr 85 5 Tryd.underlying85 Tryd.underlying5 w.heap.size 0 a0.size (grownCap w a0.size 0 5) (lowRow a0 a0.size) (lowRow_len a0 _ (Nat.le_refl _)) (fun i hi => by rw [Nat.zero_add]; exact hlow.1 i hi) 9 Tryd.underlying9
  rw [lowRow_end] at hback
  have HL := Aside0.mk hlow
  clear hlow
  go_wp2
  go_ret
  exact ⟨rfl, HL.out.2.2⟩


mutual
def scheme_Of.j0 : Nat → ByteArray → Bool → Option (ByteArray × Bool)
  | 0, _, _ => none
  | k + 1, x4, x26 => if x26 = true then (some ((⟨#[]⟩ : ByteArray), false)) else (scheme_Of.l0 k x4 (x4.size : Int) 0)
def scheme_Of.l0 : Nat → ByteArray → Int → Int → Option (ByteArray × Bool)
  | 0, _, _, _ => none
  | k + 1, x4, x28, x29 => if x29 < x28 then (if 0 ≤ x29 then (if x29 < (x4.size : Int) then ((scheme_part.f (bt x4 x29)).bind fun t192 => (if t192 = true then (scheme_Of.l0 k x4 x28 (wrap64 (x29 + 1))) else (some ((⟨#[]⟩ : ByteArray), false)))) else (none)) else (none)) else ((kind_Lower.f x4).bind fun t193 => (some (t193, true)))
end
def scheme_Of.f (k : Nat) (a0 : ByteArray) : Option (ByteArray × Bool) := (scheme_tidy.f a0).bind fun t187 => ((strings_Cut.f t187 (⟨#[58]⟩ : ByteArray)).bind fun bt188 => (if bt188.2.2 = true then (if bt188.1.toList = ([] : List UInt8) then (scheme_Of.j0 k bt188.1 true) else (if 0 < (bt188.1.size : Int) then ((kind_Letter.f (bt bt188.1 0)).bind fun t191 => (scheme_Of.j0 k bt188.1 (!t191))) else (none))) else (scheme_Of.j0 k bt188.1 true)))
theorem scheme_Of.mono_l : ∀ k, (∀ y0 y1, LeO (scheme_Of.j0 k y0 y1) (scheme_Of.j0 (k + 1) y0 y1)) ∧ (∀ y0 y1 y2, LeO (scheme_Of.l0 k y0 y1 y2) (scheme_Of.l0 (k + 1) y0 y1 y2))
  | 0 => ⟨fun _ _ r h => by simp [scheme_Of.j0] at h, fun _ _ _ r h => by simp [scheme_Of.l0] at h⟩
  | k + 1 => by
    obtain ⟨ih0, ih1⟩ := scheme_Of.mono_l k
    refine ⟨?_, ?_⟩
    · intro y0 y1
      unfold scheme_Of.j0
      repeat' first
      | (with_reducible exact ih0 _ _)
      | (with_reducible exact ih1 _ _ _)
      | (with_reducible exact LeO.refl _)
      | (with_reducible exact LeO.none _)
      | (with_reducible refine LeO.ite ?_ ?_)
      | (with_reducible refine LeO.bind ?_ (fun _ => ?_))
      | exact ih0 _ _
      | exact ih1 _ _ _
      | exact LeO.none _
      | refine LeO.ite ?_ ?_
      | refine LeO.bind ?_ (fun _ => ?_)
    · intro y0 y1 y2
      unfold scheme_Of.l0
      repeat' first
      | (with_reducible exact ih0 _ _)
      | (with_reducible exact ih1 _ _ _)
      | (with_reducible exact LeO.refl _)
      | (with_reducible exact LeO.none _)
      | (with_reducible refine LeO.ite ?_ ?_)
      | (with_reducible refine LeO.bind ?_ (fun _ => ?_))
      | exact ih0 _ _
      | exact ih1 _ _ _
      | exact LeO.none _
      | refine LeO.ite ?_ ?_
      | refine LeO.bind ?_ (fun _ => ?_)
theorem scheme_Of.mono : ∀ a0 k, LeO (scheme_Of.f k a0) (scheme_Of.f (k + 1) a0) := by
  intro a0 k
  obtain ⟨ih0, ih1⟩ := scheme_Of.mono_l k
  unfold scheme_Of.f
  repeat' first
      | (with_reducible exact ih0 _ _)
      | (with_reducible exact ih1 _ _ _)
      | (with_reducible exact LeO.refl _)
      | (with_reducible exact LeO.none _)
      | (with_reducible refine LeO.ite ?_ ?_)
      | (with_reducible refine LeO.bind ?_ (fun _ => ?_))
      | exact ih0 _ _
      | exact ih1 _ _ _
      | exact LeO.none _
      | refine LeO.ite ?_ ?_
      | refine LeO.bind ?_ (fun _ => ?_)
set_option maxHeartbeats 8000000 in
set_option maxRecDepth 100000 in
theorem scheme_Of.calls (k : Nat) (a0 : ByteArray) (r1 : ByteArray) (r2 : Bool) (w : World) (h : scheme_Of.f k a0 = some (r1, r2)) :
  Calls Tryd.prog 24 #[.string a0] w fun e w' => e = .returned (.tuple #[.string r1, .bool r2]) ∧ Below w.heap.size w w' := by
 have HB := Aside0.mk (Below.refl w.heap.size w)
 have H : ((scheme_tidy.f a0).bind fun t187 => ((strings_Cut.f t187 (⟨#[58]⟩ : ByteArray)).bind fun bt188 => (if bt188.2.2 = true then (if bt188.1.toList = ([] : List UInt8) then (scheme_Of.j0 k bt188.1 true) else (if 0 < (bt188.1.size : Int) then ((kind_Letter.f (bt bt188.1 0)).bind fun t191 => (scheme_Of.j0 k bt188.1 (!t191))) else (none))) else (scheme_Of.j0 k bt188.1 true)))) = some (r1, r2) := h
 clear h
 replace H := Option.bind_eq_some_iff.mp H
 obtain ⟨t187, A20, H⟩ := H
 replace H : ((strings_Cut.f t187 (⟨#[58]⟩ : ByteArray)).bind fun bt188 => (if bt188.2.2 = true then (if bt188.1.toList = ([] : List UInt8) then (scheme_Of.j0 k bt188.1 true) else (if 0 < (bt188.1.size : Int) then ((kind_Letter.f (bt bt188.1 0)).bind fun t191 => (scheme_Of.j0 k bt188.1 (!t191))) else (none))) else (scheme_Of.j0 k bt188.1 true))) = some (r1, r2) := H
 have A2 := Aside0.mk A20
 clear A20
 replace H := Option.bind_eq_some_iff.mp H
 obtain ⟨⟨t188, t189, t190⟩, A30, H⟩ := H
 replace H : (if t190 = true then (if t188.toList = ([] : List UInt8) then (scheme_Of.j0 k t188 true) else (if 0 < (t188.size : Int) then ((kind_Letter.f (bt t188 0)).bind fun t191 => (scheme_Of.j0 k t188 (!t191))) else (none))) else (scheme_Of.j0 k t188 true)) = some (r1, r2) := H
 have A3 := Aside0.mk A30
 clear A30
 have HC4 := Aside0.mk H
 clear H
 go_enter Tryd.func24, Tryd.ntmps24
 go_upto_region 2 with (first | ((with_reducible refine gate_callee (f := 57) rfl ?_); refine goL (some 10) Tryd.func57 #[.string a0] ?_; (with_reducible refine (scheme_tidy.calls a0 t187 _ A2.out).mono ?_); rintro e w5 ⟨rfl, hb⟩; refine ⟨_, rfl, ?_⟩; replace HB := Bs hb; clear hb) | ((with_reducible refine gate_callee (f := 56) rfl ?_); refine goL (some 11) Tryd.func56 #[.string t187, .string (⟨#[58]⟩ : ByteArray)] ?_; (with_reducible refine (strings_Cut.calls t187 (⟨#[58]⟩ : ByteArray) t188 t189 t190 _ A3.out).mono ?_); rintro e w' ⟨rfl, ⟨nd, rfl⟩⟩; refine ⟨_, rfl, ?_⟩))
 (try simp only [Act.put, List.setIfInBounds_toArray, List.set_cons_zero, List.set_cons_succ])
 go_cut [26] (fun v26 wc => ∃ (kq : Nat) (x26_3 : Bool), v26 = .bool x26_3 ∧ Aside0 (scheme_Of.j0 kq t188 x26_3 = some (r1, r2)) ∧ Aside0 (kq ≤ k) ∧ Aside0 (Below w.heap.size w wc))
 case first =>
  have H := HC4.out
  clear HC4
  by_cases c6 : t190 = true
  ·subst c6
   have H1 : (if t188.toList = ([] : List UInt8) then (scheme_Of.j0 k t188 true) else (if 0 < (t188.size : Int) then ((kind_Letter.f (bt t188 0)).bind fun t191 => (scheme_Of.j0 k t188 (!t191))) else (none))) = some (r1, r2) := by rw [if_pos rfl] at H; exact H
   clear H
   have H := H1
   clear H1
   by_cases c7 : t188.toList = ([] : List UInt8)
   ·rw [if_pos c7] at H
    have c7b0 : (t188.toList == ([] : List UInt8)) = true := beq_iff_eq.mpr c7
    have c7b1 : (t188.toList != ([] : List UInt8)) = false := bne_eq_false_iff_eq.mpr c7
    clear c7
    (first | rw [c7b0] | (simp only [i64_w, i32_w]; rw [c7b0]) | skip)
    have H' := Aside0.mk H
    clear H
    go_wp2
    go_meet
    case rel => exact ⟨_, (true), Rs, H', ⟨On⟩, ⟨Bw⟩⟩
   rw [if_neg c7] at H
   have c7b0 : (t188.toList == ([] : List UInt8)) = false := beq_eq_false_iff_ne.mpr c7
   have c7b1 : (t188.toList != ([] : List UInt8)) = true := bne_iff_ne.mpr c7
   (first | rw [c7b0] | (simp only [i64_w, i32_w]; rw [c7b0]) | skip)
   by_cases c8 : 0 < (t188.size : Int)
   ·rw [if_pos c8] at H
    have c8b0 : decide (0 < (t188.size : Int)) = true := decide_eq_true c8
    have c8b1 : decide (0 < t188.size) = true := decide_eq_true (by omega)
    clear c8
    replace H := Option.bind_eq_some_iff.mp H
    obtain ⟨t191, A100, H⟩ := H
    replace H : (scheme_Of.j0 k t188 (!t191)) = some (r1, r2) := H
    have A10 := Aside0.mk A100
    clear A100
    have H' := Aside0.mk H
    clear H
    have p9 : 0 ≤ (0 : Int) := (by omega)
    have q9 : 0 < t188.size := (by have : (0 : Int) < (t188.size : Int) := of_decide_eq_true Dt; omega)
    have hx9 : ∀ h : 0 < t188.size, ((t188[0]'h).toNat : Int) = bt t188 0 := bt_at t188 0
    clear p9
    have qi9 : (0 < (t188.size : Int)) = True := eq_true (of_decide_eq_true Dt)
    replace q9 := eq_true q9
    go_wp2_with (first | (go_at_call 58; (with_reducible refine (kind_Letter.calls (bt t188 0) t191 _ A10.out).mono ?_); rintro e w' ⟨rfl, ⟨nd, rfl⟩⟩))
    go_meet
    case rel => exact ⟨_, (!t191), Rs, H', ⟨On⟩, ⟨Bw⟩⟩
   rw [if_neg c8] at H
   exact absurd H (by simp)
  replace c6 := Bool.eq_false_iff.mpr c6
  subst c6
  have H1 : (scheme_Of.j0 k t188 true) = some (r1, r2) := by rw [if_neg (show ¬ (false = true) by decide)] at H; exact H
  clear H
  have H := H1
  clear H1
  have H' := Aside0.mk H
  clear H
  go_wp2
  go_meet
  case rel => exact ⟨_, (true), Rs, H', ⟨On⟩, ⟨Bw⟩⟩
 case rest =>
  clear HC4
  try clear c2
  try clear p2
  try clear c5
  try clear c6
  try clear c7
  try clear c7b0
  try clear c7b1
  try clear c8
  try clear c8b0
  try clear c8b1
  try clear p9
  try clear q9
  try clear hx9
  try clear qi9
  try clear p9
  try clear q9
  obtain ⟨kq, x26_3, rfl, HA, HJ3, HB⟩ := hcut
  cases kq with
  | zero => exact absurd HA.out (by simp [scheme_Of.j0])
  | succ kj3 =>
   have H := HA.out
   clear HA
   simp only [scheme_Of.j0] at H
   by_cases c11 : x26_3 = true
   ·subst c11
    have H1 : (some ((⟨#[]⟩ : ByteArray), false)) = some (r1, r2) := by rw [if_pos rfl] at H; exact H
    clear H
    have H := H1
    clear H1
    simp only [Option.some.injEq, Prod.mk.injEq] at H
    obtain ⟨rfl, rfl⟩ := H
    go_wp2
    go_ret2
    exact ⟨Re, Bw⟩
   replace c11 := Bool.eq_false_iff.mpr c11
   subst c11
   have H1 : (scheme_Of.l0 kj3 t188 (t188.size : Int) 0) = some (r1, r2) := by rw [if_neg (show ¬ (false = true) by decide)] at H; exact H
   clear H
   have H := H1
   clear H1
   have H' := Aside0.mk H
   clear H
   go_wp2
   go_loopg [29] kj3 (fun kq v29 w' => ∃ (x29_2 : Int), v29 = .int .i64 x29_2 ∧ Aside0 (scheme_Of.l0 kq t188 (t188.size : Int) x29_2 = some (r1, r2)) ∧ Aside0 (kq ≤ kj3) ∧ Aside0 (Below w.heap.size w w'))
   case atStart => exact ⟨(0), Rs, H', ⟨Nat.le_refl _⟩, ⟨Bw⟩⟩
   case round =>
    clear H'
    try clear c1
    try clear c2
    try clear p2
    try clear c5
    try clear c6
    try clear c7
    try clear c7b0
    try clear c7b1
    try clear c8
    try clear c8b0
    try clear c8b1
    try clear p9
    try clear q9
    try clear hx9
    try clear qi9
    try clear c11
    try clear p2
    try clear p9
    try clear q9
    obtain ⟨x29_2, rfl, HA, HK2, HB⟩ := hrel
    cases gk with
    | zero => exact absurd HA.out (by simp [scheme_Of.l0])
    | succ k2 =>
     have H := HA.out
     clear HA
     simp only [scheme_Of.l0] at H
     by_cases c12 : x29_2 < (t188.size : Int)
     ·rw [if_pos c12] at H
      have c12b0 : decide (x29_2 < (t188.size : Int)) = true := decide_eq_true c12
      clear c12
      by_cases c13 : 0 ≤ x29_2
      ·rw [if_pos c13] at H
       have c13b0 : decide (0 ≤ x29_2) = true := decide_eq_true c13
       clear c13
       by_cases c14 : x29_2 < (t188.size : Int)
       ·rw [if_pos c14] at H
        have c14b0 : decide (x29_2 < (t188.size : Int)) = true := decide_eq_true c14
        clear c14
        replace H := Option.bind_eq_some_iff.mp H
        obtain ⟨t192, A160, H⟩ := H
        replace H : (if t192 = true then (scheme_Of.l0 k2 t188 (t188.size : Int) (wrap64 (x29_2 + 1))) else (some ((⟨#[]⟩ : ByteArray), false))) = some (r1, r2) := H
        have A16 := Aside0.mk A160
        clear A160
        by_cases c17 : t192 = true
        ·subst c17
         have H1 : (scheme_Of.l0 k2 t188 (t188.size : Int) (wrap64 (x29_2 + 1))) = some (r1, r2) := by rw [if_pos rfl] at H; exact H
         clear H
         have H := H1
         clear H1
         have H' := Aside0.mk H
         clear H
         have p15 : 0 ≤ (x29_2 : Int) := of_decide_eq_true Dt
         have q15 : x29_2 < (t188.size : Int) := of_decide_eq_true Dt
         have hx15 := bt_at t188 x29_2
         replace p15 := eq_true p15
         replace q15 := eq_true q15
         go_wp2_with (first | ((with_reducible refine gate_callee (f := 59) rfl ?_); refine goL (some 35) Tryd.func59 #[.int .u8 (bt t188 x29_2)] ?_; (with_reducible refine (scheme_part.calls (bt t188 x29_2) true _ A16.out).mono ?_); rintro e w' ⟨rfl, ⟨nd, rfl⟩⟩; refine ⟨_, rfl, ?_⟩))
         go_roundg k2
         case measure => have := HJ3.out; have := HK2.out; omega
         case rel => exact ⟨(wrap64 (x29_2 + 1)), Rs, H', ⟨by have := HJ3.out; have := HK2.out; omega⟩, ⟨Bw⟩⟩
        replace c17 := Bool.eq_false_iff.mpr c17
        subst c17
        have H1 : (some ((⟨#[]⟩ : ByteArray), false)) = some (r1, r2) := by rw [if_neg (show ¬ (false = true) by decide)] at H; exact H
        clear H
        have H := H1
        clear H1
        simp only [Option.some.injEq, Prod.mk.injEq] at H
        obtain ⟨rfl, rfl⟩ := H
        have p15 : 0 ≤ (x29_2 : Int) := of_decide_eq_true Dt
        have q15 : x29_2 < (t188.size : Int) := of_decide_eq_true Dt
        have hx15 := bt_at t188 x29_2
        replace p15 := eq_true p15
        replace q15 := eq_true q15
        go_wp2_with (first | ((with_reducible refine gate_callee (f := 59) rfl ?_); refine goL (some 35) Tryd.func59 #[.int .u8 (bt t188 x29_2)] ?_; (with_reducible refine (scheme_part.calls (bt t188 x29_2) false _ A16.out).mono ?_); rintro e w' ⟨rfl, ⟨nd, rfl⟩⟩; refine ⟨_, rfl, ?_⟩))
        go_ret2
        exact ⟨Re, Bw⟩
       rw [if_neg c14] at H
       exact absurd H (by simp)
      rw [if_neg c13] at H
      exact absurd H (by simp)
     rw [if_neg c12] at H
     have c12b0 : decide (x29_2 < (t188.size : Int)) = false := decide_eq_false c12
     clear c12
     replace H := Option.bind_eq_some_iff.mp H
     obtain ⟨t193, A180, H⟩ := H
     replace H : (some (t193, true)) = some (r1, r2) := H
     have A18 := Aside0.mk A180
     clear A180
     simp only [Option.some.injEq, Prod.mk.injEq] at H
     obtain ⟨rfl, rfl⟩ := H
     go_wp2_with (first | ((with_reducible refine gate_callee (f := 60) rfl ?_); refine goL (some 39) Tryd.func60 #[.string t188] ?_; (with_reducible refine (kind_Lower.calls t188 t193 _ A18.out).mono ?_); rintro e w19 ⟨rfl, hb⟩; refine ⟨_, rfl, ?_⟩; replace HB := Bs hb; clear hb))
     go_ret2
     exact ⟨Re, Bw⟩

def scheme_Safe.f (k : Nat) (a0 : ByteArray) (l1 : List ByteArray) : Option (Bool) := (scheme_Of.f k a0).bind fun bt194 => (if bt194.2 = true then ((slices_Contains_string_string.f k l1 bt194.1).bind fun t196 => (some t196)) else (some true))
theorem scheme_Safe.mono : ∀ a0 a1 k, LeO (scheme_Safe.f k a0 a1) (scheme_Safe.f (k + 1) a0 a1) := by
  intro a0 a1 k
  unfold scheme_Safe.f
  repeat' first
      | (with_reducible exact scheme_Of.mono _ _)
      | (with_reducible exact slices_Contains_string_string.mono _ _ _)
      | (with_reducible exact LeO.refl _)
      | (with_reducible exact LeO.none _)
      | (with_reducible refine LeO.ite ?_ ?_)
      | (with_reducible refine LeO.bind ?_ (fun _ => ?_))
      | exact scheme_Of.mono _ _
      | exact slices_Contains_string_string.mono _ _ _
      | exact LeO.none _
      | refine LeO.ite ?_ ?_
      | refine LeO.bind ?_ (fun _ => ?_)
set_option maxHeartbeats 8000000 in
set_option maxRecDepth 100000 in
theorem scheme_Safe.calls (k : Nat) (a0 : ByteArray) (A1 : Option Addr) (c1 : Nat) (l1 : List ByteArray) (r : Bool) (w : World) (hr1 : Kd.C Kd.string w A1 l1.length l1) (hc1 : l1.length ≤ c1) (h : scheme_Safe.f k a0 l1 = some r) :
    Calls Tryd.prog 75 #[.string a0, .slice A1 l1.length c1] w fun e w' => e = .returned (.bool r) ∧ Below w.heap.size w w' := by
  have HR1 := Aside0.mk hr1
  have HC1 := Aside0.mk hc1
  clear hr1 hc1
  have HB := Aside0.mk (Below.refl w.heap.size w)
  have H : ((scheme_Of.f k a0).bind fun bt194 => (if bt194.2 = true then ((slices_Contains_string_string.f k l1 bt194.1).bind fun t196 => (some t196)) else (some true))) = some r := h
  clear h
  replace H := Option.bind_eq_some_iff.mp H
  obtain ⟨⟨t194, t195⟩, A30, H⟩ := H
  try dsimp -simprocs only at H
  have A3 := Aside0.mk A30
  clear A30
  by_cases c4 : t195 = true
  · subst c4
    rw [if_pos rfl] at H
    replace H := Option.bind_eq_some_iff.mp H
    obtain ⟨t196, A50, H⟩ := H
    replace H : (some t196) = some r := H
    have A5 := Aside0.mk A50
    clear A50
    obtain rfl := Option.some.inj H
    go_enter Tryd.func75, Tryd.ntmps75
    go_wp2_with (first | ((with_reducible refine gate_callee (f := 24) rfl ?_); refine goL (some 9) Tryd.func24 #[.string a0] ?_; (with_reducible refine (scheme_Of.calls k a0 t194 true _ A3.out).mono ?_); rintro e w6 ⟨rfl, hb⟩; refine ⟨_, rfl, ?_⟩; replace HB := Aside0.mk (below_step Bw hb); (try clear hb); (try clear hb2); (try clear hk); (try clear hi)) | (go_at_call 31; (with_reducible refine (slices_Contains_string_string.calls k _ _ l1 t194 t196 _ (Cs HR1) HC1.out A5.out).mono ?_); rintro e w' ⟨rfl, ⟨nd, rfl⟩⟩))
    go_ret
    exact ⟨Re, Bw⟩
  · replace c4 := Bool.eq_false_iff.mpr c4
    subst c4
    rw [if_neg (show ¬ (false = true) by decide)] at H
    obtain rfl := Option.some.inj H
    go_enter Tryd.func75, Tryd.ntmps75
    go_wp2_with (first | ((with_reducible refine gate_callee (f := 24) rfl ?_); refine goL (some 9) Tryd.func24 #[.string a0] ?_; (with_reducible refine (scheme_Of.calls k a0 t194 false _ A3.out).mono ?_); rintro e w7 ⟨rfl, hb⟩; refine ⟨_, rfl, ?_⟩; replace HB := Aside0.mk (below_step Bw hb); (try clear hb); (try clear hb2); (try clear hk); (try clear hi)))
    go_ret
    exact ⟨Re, Bw⟩

def policy_let.f (k : Nat) (l0_0 : List (S53)) (l0_1 : List ByteArray) (l0_2 : List ByteArray) (l0_3 : List ByteArray) (a0_4 : Int) (a1_0 : ByteArray) (l1_1 : List ByteArray) (a2_0 : ByteArray) (a2_1 : ByteArray) : Option (Bool) := (slices_Contains_string_string.f k l1_1 a2_0).bind fun t200 => (if t200 = true then ((slices_Contains_string_string.f k l0_1 a2_0).bind fun t201 => (if t201 = true then ((scheme_Safe.f k a2_1 l0_2).bind fun t202 => (some t202)) else (some true))) else (some false))
theorem policy_let.mono : ∀ a0 a1 a2 a3 a4 a5 a6 a7 a8 k, LeO (policy_let.f k a0 a1 a2 a3 a4 a5 a6 a7 a8) (policy_let.f (k + 1) a0 a1 a2 a3 a4 a5 a6 a7 a8) := by
  intro a0 a1 a2 a3 a4 a5 a6 a7 a8 k
  unfold policy_let.f
  repeat' first
      | (with_reducible exact scheme_Safe.mono _ _ _)
      | (with_reducible exact slices_Contains_string_string.mono _ _ _)
      | (with_reducible exact LeO.refl _)
      | (with_reducible exact LeO.none _)
      | (with_reducible refine LeO.ite ?_ ?_)
      | (with_reducible refine LeO.bind ?_ (fun _ => ?_))
      | exact scheme_Safe.mono _ _ _
      | exact slices_Contains_string_string.mono _ _ _
      | exact LeO.none _
      | refine LeO.ite ?_ ?_
      | refine LeO.bind ?_ (fun _ => ?_)
set_option maxHeartbeats 8000000 in
set_option maxRecDepth 100000 in
theorem policy_let.calls (k : Nat) (A0_0 : Option Addr) (c0_0 : Nat) (l0_0 : List (S53)) (A0_1 : Option Addr) (c0_1 : Nat) (l0_1 : List ByteArray) (A0_2 : Option Addr) (c0_2 : Nat) (l0_2 : List ByteArray) (A0_3 : Option Addr) (c0_3 : Nat) (l0_3 : List ByteArray) (a0_4 : Int) (a1_0 : ByteArray) (A1_1 : Option Addr) (c1_1 : Nat) (l1_1 : List ByteArray) (a2_0 : ByteArray) (a2_1 : ByteArray) (r : Bool) (w : World) (hr0_0 : Kd.C k53 w A0_0 l0_0.length l0_0) (hc0_0 : l0_0.length ≤ c0_0) (hr0_1 : Kd.C Kd.string w A0_1 l0_1.length l0_1) (hc0_1 : l0_1.length ≤ c0_1) (hr0_2 : Kd.C Kd.string w A0_2 l0_2.length l0_2) (hc0_2 : l0_2.length ≤ c0_2) (hr0_3 : Kd.C Kd.string w A0_3 l0_3.length l0_3) (hc0_3 : l0_3.length ≤ c0_3) (hr1_1 : Kd.C Kd.string w A1_1 l1_1.length l1_1) (hc1_1 : l1_1.length ≤ c1_1) (h : policy_let.f k l0_0 l0_1 l0_2 l0_3 a0_4 a1_0 l1_1 a2_0 a2_1 = some r) :
  Calls Tryd.prog 42 #[.agg #[.slice A0_0 l0_0.length c0_0, .slice A0_1 l0_1.length c0_1, .slice A0_2 l0_2.length c0_2, .slice A0_3 l0_3.length c0_3, .int .i64 a0_4], .agg #[.string a1_0, .slice A1_1 l1_1.length c1_1], .agg #[.string a2_0, .string a2_1]] w fun e w' => e = .returned (.bool r) ∧ Below w.heap.size w w' := by
 have hu25 := Tryd.underlying25
 have hu53 := Tryd.underlying53
 have hu35 := Tryd.underlying35
 have HR0_0 := Aside0.mk hr0_0
 have HC0_0 := Aside0.mk hc0_0
 clear hr0_0 hc0_0
 have HR0_1 := Aside0.mk hr0_1
 have HC0_1 := Aside0.mk hc0_1
 clear hr0_1 hc0_1
 have HR0_2 := Aside0.mk hr0_2
 have HC0_2 := Aside0.mk hc0_2
 clear hr0_2 hc0_2
 have HR0_3 := Aside0.mk hr0_3
 have HC0_3 := Aside0.mk hc0_3
 clear hr0_3 hc0_3
 have HR1_1 := Aside0.mk hr1_1
 have HC1_1 := Aside0.mk hc1_1
 clear hr1_1 hc1_1
 have HB := Aside0.mk (Below.refl w.heap.size w)
 have H := h
 clear h
 unfold policy_let.f at H
 replace H := Option.bind_eq_some_iff.mp H
 obtain ⟨t200, A40, H⟩ := H
 try dsimp -simprocs only at H
 have A4 := Aside0.mk A40
 clear A40
 by_cases c5 : t200 = true
 ·subst c5
  rw [if_pos rfl] at H
  replace H := Option.bind_eq_some_iff.mp H
  obtain ⟨t201, A60, H⟩ := H
  try dsimp -simprocs only at H
  have A6 := Aside0.mk A60
  clear A60
  by_cases c7 : t201 = true
  ·subst c7
   rw [if_pos rfl] at H
   replace H := Option.bind_eq_some_iff.mp H
   obtain ⟨t202, A80, H⟩ := H
   replace H : (some t202) = some r := H
   have A8 := Aside0.mk A80
   clear A80
   obtain rfl := Option.some.inj H
   go_enter Tryd.func42, Tryd.ntmps42
   go_wp2_with (first | ((with_reducible refine gate_dst (N := 3) rfl ?_); refine box5 25 3 (cs := #[.slice A0_0 l0_0.length c0_0, .slice A0_1 l0_1.length c0_1, .slice A0_2 l0_2.length c0_2, .slice A0_3 l0_3.length c0_3, .int .i64 a0_4]) ?_; clear HB; intro gb197 w9 HB BK197 GE197) | ((with_reducible refine gate_dst (N := 4) rfl ?_); refine box_event ?hg (N := 4) ?hd (cs := #[.string a1_0, .slice A1_1 l1_1.length c1_1]) (t := 53) ?hr ?_; (case hd => rfl); (case hg => rfl); (case hr => first | (go_simp; done) | (go_simp; rfl)); intro gb198 hg w10 hbox hb; have n0_ := Bb BK197 hb; have n1_ := Bs hb; have n2_ := Aside0.mk (hbox); have n3_ := Aside0.mk (Gg hg); have n4_ := Aside0.mk (Gg hg); have n5_ := Aside0.mk ((by rw [hg]; exact Nat.ne_of_lt (blk_lt (g := gb197) (o := .cells #[.slice A0_0 l0_0.length c0_0, .slice A0_1 l0_1.length c0_1, .slice A0_2 l0_2.length c0_2, .slice A0_3 l0_3.length c0_3, .int .i64 a0_4] 25 (0, 0)) (Bk BK197)) : gb197 ≠ gb198)); have n6_ := Aside0.mk ((by rw [hg]; exact Nat.ne_of_gt (blk_lt (g := gb197) (o := .cells #[.slice A0_0 l0_0.length c0_0, .slice A0_1 l0_1.length c0_1, .slice A0_2 l0_2.length c0_2, .slice A0_3 l0_3.length c0_3, .int .i64 a0_4] 25 (0, 0)) (Bk BK197)) : gb198 ≠ gb197)); clear BK197; clear HB; have BK197 := n0_; have HB := n1_; have BK198 := n2_; have GW198 := n3_; have GE198 := n4_; have NB197_198 := n5_; have NB198_197 := n6_; clear n0_ n1_ n2_ n3_ n4_ n5_ n6_; clear hb hbox hg) | ((with_reducible refine gate_dst (N := 5) rfl ?_); refine box_event ?hg (N := 5) ?hd (cs := #[.string a2_0, .string a2_1]) (t := 35) ?hr ?_; (case hd => rfl); (case hg => rfl); (case hr => first | (go_simp; done) | (go_simp; rfl)); intro gb199 hg w11 hbox hb; have n0_ := Bb BK197 hb; have n1_ := Bb BK198 hb; have n2_ := Bs hb; have n3_ := Aside0.mk (hbox); have n4_ := Aside0.mk (Gg hg); have n5_ := Aside0.mk (Gg hg); have n6_ := Aside0.mk ((by rw [hg]; exact Nat.ne_of_lt (blk_lt (g := gb197) (o := .cells #[.slice A0_0 l0_0.length c0_0, .slice A0_1 l0_1.length c0_1, .slice A0_2 l0_2.length c0_2, .slice A0_3 l0_3.length c0_3, .int .i64 a0_4] 25 (0, 0)) (Bk BK197)) : gb197 ≠ gb199)); have n7_ := Aside0.mk ((by rw [hg]; exact Nat.ne_of_gt (blk_lt (g := gb197) (o := .cells #[.slice A0_0 l0_0.length c0_0, .slice A0_1 l0_1.length c0_1, .slice A0_2 l0_2.length c0_2, .slice A0_3 l0_3.length c0_3, .int .i64 a0_4] 25 (0, 0)) (Bk BK197)) : gb199 ≠ gb197)); have n8_ := Aside0.mk ((by rw [hg]; exact Nat.ne_of_lt (blk_lt (g := gb198) (o := .cells #[.string a1_0, .slice A1_1 l1_1.length c1_1] 53 (0, 0)) (Bk BK198)) : gb198 ≠ gb199)); have n9_ := Aside0.mk ((by rw [hg]; exact Nat.ne_of_gt (blk_lt (g := gb198) (o := .cells #[.string a1_0, .slice A1_1 l1_1.length c1_1] 53 (0, 0)) (Bk BK198)) : gb199 ≠ gb198)); clear BK197; clear BK198; clear HB; have BK197 := n0_; have BK198 := n1_; have HB := n2_; have BK199 := n3_; have GW199 := n4_; have GE199 := n5_; have NB197_199 := n6_; have NB199_197 := n7_; have NB198_199 := n8_; have NB199_198 := n9_; clear n0_ n1_ n2_ n3_ n4_ n5_ n6_ n7_ n8_ n9_; clear hb hbox hg; have hnb12 := NB198_197.out; have hnc12 := NB197_198.out; have hnb13 := NB198_199.out; have hnc13 := NB199_198.out; obtain ⟨hcz14_0, hcz14_1, hfz14_0, hfz14_1⟩ := cells2 BK198; have hnb15 := NB199_197.out; have hnc15 := NB197_199.out; obtain ⟨hcz16_0, hcz16_1, hfz16_0, hfz16_1⟩ := cells2 BK199) | ((with_reducible refine gate_callee (f := 31) rfl ?_); refine goL (some 11) Tryd.func31 #[.slice A1_1 l1_1.length c1_1, .string a2_0] ?_; (with_reducible refine (slices_Contains_string_string.calls k _ _ l1_1 a2_0 true _ (Cs HR1_1) HC1_1.out A4.out).mono ?_); rintro e w' ⟨rfl, ⟨nd, rfl⟩⟩; refine ⟨_, rfl, ?_⟩; obtain ⟨hcz17_0, hcz17_1, hcz17_2, hcz17_3, hcz17_4, hfz17_0, hfz17_1, hfz17_2, hfz17_3, hfz17_4⟩ := cells5 BK197) | (go_at_call 31; (with_reducible refine (slices_Contains_string_string.calls k _ _ l0_1 a2_0 true _ ?side1 HC0_1.out A6.out).mono ?_); (case side1 => repeat (first | exact (Kd.C_below HR0_1.out Bw) | (with_reducible refine Kd.C_alloc ?_ _) | (with_reducible refine Kd.C_drewN ?_ _) | (with_reducible refine Kd.C_drew ?_))); rintro e w' ⟨rfl, ⟨nd, rfl⟩⟩) | (go_at_call 75; (with_reducible refine (scheme_Safe.calls k a2_1 _ _ l0_2 t202 _ ?side1 HC0_2.out A8.out).mono ?_); (case side1 => repeat (first | exact (Kd.C_below HR0_2.out Bw) | (with_reducible refine Kd.C_alloc ?_ _) | (with_reducible refine Kd.C_drewN ?_ _) | (with_reducible refine Kd.C_drew ?_))); rintro e w18 ⟨rfl, hb⟩; replace BK197 := Bb BK197 hb; replace BK198 := Bb BK198 hb; replace BK199 := Bb BK199 hb; replace HB := Bs hb; clear hb))
   go_ret
   exact ⟨Re, Bw⟩
  replace c7 := Bool.eq_false_iff.mpr c7
  subst c7
  rw [if_neg (show ¬ (false = true) by decide)] at H
  obtain rfl := Option.some.inj H
  go_enter Tryd.func42, Tryd.ntmps42
  go_wp2_with (first | ((with_reducible refine gate_dst (N := 3) rfl ?_); refine box5 25 3 (cs := #[.slice A0_0 l0_0.length c0_0, .slice A0_1 l0_1.length c0_1, .slice A0_2 l0_2.length c0_2, .slice A0_3 l0_3.length c0_3, .int .i64 a0_4]) ?_; clear HB; intro gb197 w19 HB BK197 GE197) | ((with_reducible refine gate_dst (N := 4) rfl ?_); refine box_event ?hg (N := 4) ?hd (cs := #[.string a1_0, .slice A1_1 l1_1.length c1_1]) (t := 53) ?hr ?_; (case hd => rfl); (case hg => rfl); (case hr => first | (go_simp; done) | (go_simp; rfl)); intro gb198 hg w20 hbox hb; have n0_ := Bb BK197 hb; have n1_ := Bs hb; have n2_ := Aside0.mk (hbox); have n3_ := Aside0.mk (Gg hg); have n4_ := Aside0.mk (Gg hg); have n5_ := Aside0.mk ((by rw [hg]; exact Nat.ne_of_lt (blk_lt (g := gb197) (o := .cells #[.slice A0_0 l0_0.length c0_0, .slice A0_1 l0_1.length c0_1, .slice A0_2 l0_2.length c0_2, .slice A0_3 l0_3.length c0_3, .int .i64 a0_4] 25 (0, 0)) (Bk BK197)) : gb197 ≠ gb198)); have n6_ := Aside0.mk ((by rw [hg]; exact Nat.ne_of_gt (blk_lt (g := gb197) (o := .cells #[.slice A0_0 l0_0.length c0_0, .slice A0_1 l0_1.length c0_1, .slice A0_2 l0_2.length c0_2, .slice A0_3 l0_3.length c0_3, .int .i64 a0_4] 25 (0, 0)) (Bk BK197)) : gb198 ≠ gb197)); clear BK197; clear HB; have BK197 := n0_; have HB := n1_; have BK198 := n2_; have GW198 := n3_; have GE198 := n4_; have NB197_198 := n5_; have NB198_197 := n6_; clear n0_ n1_ n2_ n3_ n4_ n5_ n6_; clear hb hbox hg) | ((with_reducible refine gate_dst (N := 5) rfl ?_); refine box_event ?hg (N := 5) ?hd (cs := #[.string a2_0, .string a2_1]) (t := 35) ?hr ?_; (case hd => rfl); (case hg => rfl); (case hr => first | (go_simp; done) | (go_simp; rfl)); intro gb199 hg w21 hbox hb; have n0_ := Bb BK197 hb; have n1_ := Bb BK198 hb; have n2_ := Bs hb; have n3_ := Aside0.mk (hbox); have n4_ := Aside0.mk (Gg hg); have n5_ := Aside0.mk (Gg hg); have n6_ := Aside0.mk ((by rw [hg]; exact Nat.ne_of_lt (blk_lt (g := gb197) (o := .cells #[.slice A0_0 l0_0.length c0_0, .slice A0_1 l0_1.length c0_1, .slice A0_2 l0_2.length c0_2, .slice A0_3 l0_3.length c0_3, .int .i64 a0_4] 25 (0, 0)) (Bk BK197)) : gb197 ≠ gb199)); have n7_ := Aside0.mk ((by rw [hg]; exact Nat.ne_of_gt (blk_lt (g := gb197) (o := .cells #[.slice A0_0 l0_0.length c0_0, .slice A0_1 l0_1.length c0_1, .slice A0_2 l0_2.length c0_2, .slice A0_3 l0_3.length c0_3, .int .i64 a0_4] 25 (0, 0)) (Bk BK197)) : gb199 ≠ gb197)); have n8_ := Aside0.mk ((by rw [hg]; exact Nat.ne_of_lt (blk_lt (g := gb198) (o := .cells #[.string a1_0, .slice A1_1 l1_1.length c1_1] 53 (0, 0)) (Bk BK198)) : gb198 ≠ gb199)); have n9_ := Aside0.mk ((by rw [hg]; exact Nat.ne_of_gt (blk_lt (g := gb198) (o := .cells #[.string a1_0, .slice A1_1 l1_1.length c1_1] 53 (0, 0)) (Bk BK198)) : gb199 ≠ gb198)); clear BK197; clear BK198; clear HB; have BK197 := n0_; have BK198 := n1_; have HB := n2_; have BK199 := n3_; have GW199 := n4_; have GE199 := n5_; have NB197_199 := n6_; have NB199_197 := n7_; have NB198_199 := n8_; have NB199_198 := n9_; clear n0_ n1_ n2_ n3_ n4_ n5_ n6_ n7_ n8_ n9_; clear hb hbox hg; have hnb22 := NB198_197.out; have hnc22 := NB197_198.out; have hnb23 := NB198_199.out; have hnc23 := NB199_198.out; obtain ⟨hcz24_0, hcz24_1, hfz24_0, hfz24_1⟩ := cells2 BK198; have hnb25 := NB199_197.out; have hnc25 := NB197_199.out; obtain ⟨hcz26_0, hcz26_1, hfz26_0, hfz26_1⟩ := cells2 BK199) | ((with_reducible refine gate_callee (f := 31) rfl ?_); refine goL (some 11) Tryd.func31 #[.slice A1_1 l1_1.length c1_1, .string a2_0] ?_; (with_reducible refine (slices_Contains_string_string.calls k _ _ l1_1 a2_0 true _ (Cs HR1_1) HC1_1.out A4.out).mono ?_); rintro e w' ⟨rfl, ⟨nd, rfl⟩⟩; refine ⟨_, rfl, ?_⟩; obtain ⟨hcz27_0, hcz27_1, hcz27_2, hcz27_3, hcz27_4, hfz27_0, hfz27_1, hfz27_2, hfz27_3, hfz27_4⟩ := cells5 BK197) | (go_at_call 31; (with_reducible refine (slices_Contains_string_string.calls k _ _ l0_1 a2_0 false _ ?side1 HC0_1.out A6.out).mono ?_); (case side1 => repeat (first | exact (Kd.C_below HR0_1.out Bw) | (with_reducible refine Kd.C_alloc ?_ _) | (with_reducible refine Kd.C_drewN ?_ _) | (with_reducible refine Kd.C_drew ?_))); rintro e w' ⟨rfl, ⟨nd, rfl⟩⟩))
  go_ret
  exact ⟨Re, Bw⟩
 replace c5 := Bool.eq_false_iff.mpr c5
 subst c5
 rw [if_neg (show ¬ (false = true) by decide)] at H
 obtain rfl := Option.some.inj H
 go_enter Tryd.func42, Tryd.ntmps42
 go_wp2_with (first | ((with_reducible refine gate_dst (N := 3) rfl ?_); refine box5 25 3 (cs := #[.slice A0_0 l0_0.length c0_0, .slice A0_1 l0_1.length c0_1, .slice A0_2 l0_2.length c0_2, .slice A0_3 l0_3.length c0_3, .int .i64 a0_4]) ?_; clear HB; intro gb197 w28 HB BK197 GE197) | ((with_reducible refine gate_dst (N := 4) rfl ?_); refine box_event ?hg (N := 4) ?hd (cs := #[.string a1_0, .slice A1_1 l1_1.length c1_1]) (t := 53) ?hr ?_; (case hd => rfl); (case hg => rfl); (case hr => first | (go_simp; done) | (go_simp; rfl)); intro gb198 hg w29 hbox hb; have n0_ := Bb BK197 hb; have n1_ := Bs hb; have n2_ := Aside0.mk (hbox); have n3_ := Aside0.mk (Gg hg); have n4_ := Aside0.mk (Gg hg); have n5_ := Aside0.mk ((by rw [hg]; exact Nat.ne_of_lt (blk_lt (g := gb197) (o := .cells #[.slice A0_0 l0_0.length c0_0, .slice A0_1 l0_1.length c0_1, .slice A0_2 l0_2.length c0_2, .slice A0_3 l0_3.length c0_3, .int .i64 a0_4] 25 (0, 0)) (Bk BK197)) : gb197 ≠ gb198)); have n6_ := Aside0.mk ((by rw [hg]; exact Nat.ne_of_gt (blk_lt (g := gb197) (o := .cells #[.slice A0_0 l0_0.length c0_0, .slice A0_1 l0_1.length c0_1, .slice A0_2 l0_2.length c0_2, .slice A0_3 l0_3.length c0_3, .int .i64 a0_4] 25 (0, 0)) (Bk BK197)) : gb198 ≠ gb197)); clear BK197; clear HB; have BK197 := n0_; have HB := n1_; have BK198 := n2_; have GW198 := n3_; have GE198 := n4_; have NB197_198 := n5_; have NB198_197 := n6_; clear n0_ n1_ n2_ n3_ n4_ n5_ n6_; clear hb hbox hg) | ((with_reducible refine gate_dst (N := 5) rfl ?_); refine box_event ?hg (N := 5) ?hd (cs := #[.string a2_0, .string a2_1]) (t := 35) ?hr ?_; (case hd => rfl); (case hg => rfl); (case hr => first | (go_simp; done) | (go_simp; rfl)); intro gb199 hg w30 hbox hb; have n0_ := Bb BK197 hb; have n1_ := Bb BK198 hb; have n2_ := Bs hb; have n3_ := Aside0.mk (hbox); have n4_ := Aside0.mk (Gg hg); have n5_ := Aside0.mk (Gg hg); have n6_ := Aside0.mk ((by rw [hg]; exact Nat.ne_of_lt (blk_lt (g := gb197) (o := .cells #[.slice A0_0 l0_0.length c0_0, .slice A0_1 l0_1.length c0_1, .slice A0_2 l0_2.length c0_2, .slice A0_3 l0_3.length c0_3, .int .i64 a0_4] 25 (0, 0)) (Bk BK197)) : gb197 ≠ gb199)); have n7_ := Aside0.mk ((by rw [hg]; exact Nat.ne_of_gt (blk_lt (g := gb197) (o := .cells #[.slice A0_0 l0_0.length c0_0, .slice A0_1 l0_1.length c0_1, .slice A0_2 l0_2.length c0_2, .slice A0_3 l0_3.length c0_3, .int .i64 a0_4] 25 (0, 0)) (Bk BK197)) : gb199 ≠ gb197)); have n8_ := Aside0.mk ((by rw [hg]; exact Nat.ne_of_lt (blk_lt (g := gb198) (o := .cells #[.string a1_0, .slice A1_1 l1_1.length c1_1] 53 (0, 0)) (Bk BK198)) : gb198 ≠ gb199)); have n9_ := Aside0.mk ((by rw [hg]; exact Nat.ne_of_gt (blk_lt (g := gb198) (o := .cells #[.string a1_0, .slice A1_1 l1_1.length c1_1] 53 (0, 0)) (Bk BK198)) : gb199 ≠ gb198)); clear BK197; clear BK198; clear HB; have BK197 := n0_; have BK198 := n1_; have HB := n2_; have BK199 := n3_; have GW199 := n4_; have GE199 := n5_; have NB197_199 := n6_; have NB199_197 := n7_; have NB198_199 := n8_; have NB199_198 := n9_; clear n0_ n1_ n2_ n3_ n4_ n5_ n6_ n7_ n8_ n9_; clear hb hbox hg; have hnb31 := NB198_197.out; have hnc31 := NB197_198.out; have hnb32 := NB198_199.out; have hnc32 := NB199_198.out; obtain ⟨hcz33_0, hcz33_1, hfz33_0, hfz33_1⟩ := cells2 BK198; have hnb34 := NB199_197.out; have hnc34 := NB197_199.out; obtain ⟨hcz35_0, hcz35_1, hfz35_0, hfz35_1⟩ := cells2 BK199) | ((with_reducible refine gate_callee (f := 31) rfl ?_); refine goL (some 11) Tryd.func31 #[.slice A1_1 l1_1.length c1_1, .string a2_0] ?_; (with_reducible refine (slices_Contains_string_string.calls k _ _ l1_1 a2_0 false _ (Cs HR1_1) HC1_1.out A4.out).mono ?_); rintro e w' ⟨rfl, ⟨nd, rfl⟩⟩; refine ⟨_, rfl, ?_⟩))
 go_ret
 exact ⟨Re, Bw⟩

def policy_Attr.f (k : Nat) (l0_0 : List (S53)) (l0_1 : List ByteArray) (l0_2 : List ByteArray) (l0_3 : List ByteArray) (a0_4 : Int) (a1 : ByteArray) (a2_0 : ByteArray) (a2_1 : ByteArray) : Option (Bool) := (policy_rule.f k l0_0 l0_1 l0_2 l0_3 a0_4 a1).bind fun bt205 => (if bt205.2.2 = true then ((policy_Check.f k l0_0 l0_1 l0_2 l0_3 a0_4).bind fun t211 => (if t211 = 0 then ((policy_let.f k l0_0 l0_1 l0_2 l0_3 a0_4 bt205.1 bt205.2.1 a2_0 a2_1).bind fun t212 => (some t212)) else (some false))) else (some false))
theorem policy_Attr.mono : ∀ a0 a1 a2 a3 a4 a5 a6 a7 k, LeO (policy_Attr.f k a0 a1 a2 a3 a4 a5 a6 a7) (policy_Attr.f (k + 1) a0 a1 a2 a3 a4 a5 a6 a7) := by
  intro a0 a1 a2 a3 a4 a5 a6 a7 k
  unfold policy_Attr.f
  repeat' first
      | (with_reducible exact policy_Check.mono _ _ _ _ _ _)
      | (with_reducible exact policy_let.mono _ _ _ _ _ _ _ _ _ _)
      | (with_reducible exact policy_rule.mono _ _ _ _ _ _ _)
      | (with_reducible exact LeO.refl _)
      | (with_reducible exact LeO.none _)
      | (with_reducible refine LeO.ite ?_ ?_)
      | (with_reducible refine LeO.bind ?_ (fun _ => ?_))
      | exact policy_Check.mono _ _ _ _ _ _
      | exact policy_let.mono _ _ _ _ _ _ _ _ _ _
      | exact policy_rule.mono _ _ _ _ _ _ _
      | exact LeO.none _
      | refine LeO.ite ?_ ?_
      | refine LeO.bind ?_ (fun _ => ?_)
set_option maxHeartbeats 8000000 in
set_option maxRecDepth 100000 in
theorem policy_Attr.calls (k : Nat) (A0_0 : Option Addr) (c0_0 : Nat) (l0_0 : List (S53)) (A0_1 : Option Addr) (c0_1 : Nat) (l0_1 : List ByteArray) (A0_2 : Option Addr) (c0_2 : Nat) (l0_2 : List ByteArray) (A0_3 : Option Addr) (c0_3 : Nat) (l0_3 : List ByteArray) (a0_4 : Int) (a1 : ByteArray) (a2_0 : ByteArray) (a2_1 : ByteArray) (r : Bool) (w : World) (hr0_0 : Kd.C k53 w A0_0 l0_0.length l0_0) (hc0_0 : l0_0.length ≤ c0_0) (hr0_1 : Kd.C Kd.string w A0_1 l0_1.length l0_1) (hc0_1 : l0_1.length ≤ c0_1) (hr0_2 : Kd.C Kd.string w A0_2 l0_2.length l0_2) (hc0_2 : l0_2.length ≤ c0_2) (hr0_3 : Kd.C Kd.string w A0_3 l0_3.length l0_3) (hc0_3 : l0_3.length ≤ c0_3) (h : policy_Attr.f k l0_0 l0_1 l0_2 l0_3 a0_4 a1 a2_0 a2_1 = some r) :
  Calls Tryd.prog 18 #[.agg #[.slice A0_0 l0_0.length c0_0, .slice A0_1 l0_1.length c0_1, .slice A0_2 l0_2.length c0_2, .slice A0_3 l0_3.length c0_3, .int .i64 a0_4], .string a1, .agg #[.string a2_0, .string a2_1]] w fun e w' => e = .returned (.bool r) ∧ Below w.heap.size w w' := by
 have hu25 := Tryd.underlying25
 have hu35 := Tryd.underlying35
 have hu53 := Tryd.underlying53
 have HR0_0 := Aside0.mk hr0_0
 have HC0_0 := Aside0.mk hc0_0
 clear hr0_0 hc0_0
 have HR0_1 := Aside0.mk hr0_1
 have HC0_1 := Aside0.mk hc0_1
 clear hr0_1 hc0_1
 have HR0_2 := Aside0.mk hr0_2
 have HC0_2 := Aside0.mk hc0_2
 clear hr0_2 hc0_2
 have HR0_3 := Aside0.mk hr0_3
 have HC0_3 := Aside0.mk hc0_3
 clear hr0_3 hc0_3
 have HB := Aside0.mk (Below.refl w.heap.size w)
 have H := h
 clear h
 unfold policy_Attr.f at H
 replace H := Option.bind_eq_some_iff.mp H
 obtain ⟨⟨t205, t206, t209⟩, A40, H⟩ := H
 try dsimp -simprocs only at H
 have A4 := Aside0.mk A40
 clear A40
 by_cases c5 : t209 = true
 ·subst c5
  rw [if_pos rfl] at H
  replace H := Option.bind_eq_some_iff.mp H
  obtain ⟨t211, A60, H⟩ := H
  try dsimp -simprocs only at H
  have A6 := Aside0.mk A60
  clear A60
  by_cases c7 : t211 = 0
  ·rw [if_pos c7] at H
   have c7b0 : (t211 == 0) = true := beq_iff_eq.mpr c7
   have c7b1 : (t211 != 0) = false := bne_eq_false_iff_eq.mpr c7
   clear c7
   replace H := Option.bind_eq_some_iff.mp H
   obtain ⟨t212, A80, H⟩ := H
   replace H : (some t212) = some r := H
   have A8 := Aside0.mk A80
   clear A80
   obtain rfl := Option.some.inj H
   go_enter Tryd.func18, Tryd.ntmps18
   go_wp2_with (first | ((with_reducible refine gate_dst (N := 3) rfl ?_); refine box5 25 3 (cs := #[.slice A0_0 l0_0.length c0_0, .slice A0_1 l0_1.length c0_1, .slice A0_2 l0_2.length c0_2, .slice A0_3 l0_3.length c0_3, .int .i64 a0_4]) ?_; clear HB; intro gb203 w9 HB BK203 GE203; have GW203 := GE203) | ((with_reducible refine gate_dst (N := 5) rfl ?_); refine box_event ?hg (N := 5) ?hd (cs := #[.string a2_0, .string a2_1]) (t := 35) ?hr ?_; (case hd => rfl); (case hg => rfl); (case hr => first | (go_simp; done) | (go_simp; rfl)); intro gb204 hg w10 hbox hb; have n0_ := Bb BK203 hb; have n1_ := Bs hb; have n2_ := Aside0.mk (hbox); have n3_ := Aside0.mk (Gg hg); have n4_ := Aside0.mk (Gg hg); have n5_ := Aside0.mk ((by rw [hg]; exact Nat.ne_of_lt (blk_lt (g := gb203) (o := .cells #[.slice A0_0 l0_0.length c0_0, .slice A0_1 l0_1.length c0_1, .slice A0_2 l0_2.length c0_2, .slice A0_3 l0_3.length c0_3, .int .i64 a0_4] 25 (0, 0)) (Bk BK203)) : gb203 ≠ gb204)); have n6_ := Aside0.mk ((by rw [hg]; exact Nat.ne_of_gt (blk_lt (g := gb203) (o := .cells #[.slice A0_0 l0_0.length c0_0, .slice A0_1 l0_1.length c0_1, .slice A0_2 l0_2.length c0_2, .slice A0_3 l0_3.length c0_3, .int .i64 a0_4] 25 (0, 0)) (Bk BK203)) : gb204 ≠ gb203)); clear BK203; clear HB; have BK203 := n0_; have HB := n1_; have BK204 := n2_; have GW204 := n3_; have GE204 := n4_; have NB203_204 := n5_; have NB204_203 := n6_; clear n0_ n1_ n2_ n3_ n4_ n5_ n6_; clear hb hbox hg; have hnb11 := NB203_204.out; have hnc11 := NB204_203.out; obtain ⟨hcz12_0, hcz12_1, hcz12_2, hcz12_3, hcz12_4, hfz12_0, hfz12_1, hfz12_2, hfz12_3, hfz12_4⟩ := cells5 BK203) | ((with_reducible refine gate_callee (f := 40) rfl ?_); refine goL (some 12) Tryd.func40 #[.agg #[.slice A0_0 l0_0.length c0_0, .slice A0_1 l0_1.length c0_1, .slice A0_2 l0_2.length c0_2, .slice A0_3 l0_3.length c0_3, .int .i64 a0_4], .string a1] ?_; (with_reducible refine (policy_rule.calls k (fun k_ => k_ < w.heap.size) _ _ l0_0 _ _ l0_1 _ _ l0_2 _ _ l0_3 a0_4 a1 t205 t206 true _ ?side1 (Cs HR0_1) HC0_1.out (Cs HR0_2) HC0_2.out (Cs HR0_3) HC0_3.out A4.out).mono ?_); (case side1 => exact Kd.V_mk HC0_0.out (Kd.F_below (Kd.C_F k53_heap HR0_0.out) Bw)); rintro e w13 ⟨v207, rfl, ho0, hb⟩; refine ⟨_, rfl, ?_⟩; have n0_ := Aside0.mk (Kd.V_lower (Kd.V_mono (ok' := fun k_ => k_ ≠ gb203 ∧ k_ ≠ gb204) ho0 (fun k_ hk_ => ⟨Or.elim hk_ (fun hs_ => fun e_ => Nat.not_le.2 hs_ (by rw [e_]; exact GW203.out)) (fun hn_ => (Kd.freshB (g := gb203) (o := .cells #[.slice A0_0 l0_0.length c0_0, .slice A0_1 l0_1.length c0_1, .slice A0_2 l0_2.length c0_2, .slice A0_3 l0_3.length c0_3, .int .i64 a0_4] 25 (0, 0)) (Bk BK203) k_ hn_)), Or.elim hk_ (fun hs_ => fun e_ => Nat.not_le.2 hs_ (by rw [e_]; exact GW204.out)) (fun hn_ => (Kd.freshB (g := gb204) (o := .cells #[.string a2_0, .string a2_1] 35 (0, 0)) (Bk BK204) k_ hn_))⟩)) (below_size Bw)); have n1_ := Bb BK203 hb; have n2_ := Bb BK204 hb; have n3_ := Bs hb; clear BK203; clear BK204; clear HB; have HO208 := n0_; have BK203 := n1_; have BK204 := n2_; have HB := n3_; clear n0_ n1_ n2_ n3_; (try clear hb); (try clear hb2); (try clear hk); (try clear hi); (try clear ho0)) | ((with_reducible refine gate_dst (N := 7) rfl ?_); refine box_event ?hg (N := 7) ?hd (cs := #[.string (⟨#[]⟩ : ByteArray), .slice none 0 0]) (t := 53) ?hr ?_; (case hd => rfl); (case hg => rfl); (case hr => first | (go_simp; done) | (go_simp; rfl)); intro gb210 hg w14 hbox hb; have n0_ := Aside0.mk (Kd.V_below (Kd.V_elderB (by (with_reducible repeat (first | apply Kd.V_alloc | apply Kd.V_drewN | apply Kd.V_drew)); exact HO208.out) gb210 (Nat.le_of_eq hg.symm)) hb); have n1_ := Bb BK203 hb; have n2_ := Bb BK204 hb; have n3_ := Bs hb; have n4_ := Aside0.mk (hbox); have n5_ := Aside0.mk (Gg hg); have n6_ := Aside0.mk (Gg hg); have n7_ := Aside0.mk ((by rw [hg]; exact Nat.ne_of_lt (blk_lt (g := gb203) (o := .cells #[.slice A0_0 l0_0.length c0_0, .slice A0_1 l0_1.length c0_1, .slice A0_2 l0_2.length c0_2, .slice A0_3 l0_3.length c0_3, .int .i64 a0_4] 25 (0, 0)) (Bk BK203)) : gb203 ≠ gb210)); have n8_ := Aside0.mk ((by rw [hg]; exact Nat.ne_of_gt (blk_lt (g := gb203) (o := .cells #[.slice A0_0 l0_0.length c0_0, .slice A0_1 l0_1.length c0_1, .slice A0_2 l0_2.length c0_2, .slice A0_3 l0_3.length c0_3, .int .i64 a0_4] 25 (0, 0)) (Bk BK203)) : gb210 ≠ gb203)); have n9_ := Aside0.mk ((by rw [hg]; exact Nat.ne_of_lt (blk_lt (g := gb204) (o := .cells #[.string a2_0, .string a2_1] 35 (0, 0)) (Bk BK204)) : gb204 ≠ gb210)); have n10_ := Aside0.mk ((by rw [hg]; exact Nat.ne_of_gt (blk_lt (g := gb204) (o := .cells #[.string a2_0, .string a2_1] 35 (0, 0)) (Bk BK204)) : gb210 ≠ gb204)); clear HO208; clear BK203; clear BK204; clear HB; have HO208 := n0_; have BK203 := n1_; have BK204 := n2_; have HB := n3_; have BK210 := n4_; have GW210 := n5_; have GE210 := n6_; have NB203_210 := n7_; have NB210_203 := n8_; have NB204_210 := n9_; have NB210_204 := n10_; clear n0_ n1_ n2_ n3_ n4_ n5_ n6_ n7_ n8_ n9_ n10_; clear hb hbox hg; have hnb15 := NB210_203.out; have hnc15 := NB203_210.out; have hnb16 := NB210_204.out; have hnc16 := NB204_210.out; obtain ⟨hcz17_0, hcz17_1, hfz17_0, hfz17_1⟩ := cells2 BK210; obtain ⟨Ao18, co18, eo18⟩ := Kd.V_slice HO208.out; subst eo18; obtain ⟨hcz19_0, hcz19_1, hcz19_2, hcz19_3, hcz19_4, hfz19_0, hfz19_1, hfz19_2, hfz19_3, hfz19_4⟩ := cells5 BK203) | (go_at_call 11; (with_reducible refine (policy_Check.calls k _ _ l0_0 _ _ l0_1 _ _ l0_2 _ _ l0_3 a0_4 t211 _ ?side1 HC0_0.out ?side3 HC0_1.out ?side5 HC0_2.out ?side7 HC0_3.out A6.out).mono ?_); (case side1 => exact Kd.C_below HR0_0.out Bw); (case side3 => exact Kd.C_below HR0_1.out Bw); (case side5 => exact Kd.C_below HR0_2.out Bw); (case side7 => exact Kd.C_below HR0_3.out Bw); rintro e w20 ⟨rfl, hb⟩; have n0_ := Aside0.mk (Kd.V_below (by (with_reducible repeat (first | apply Kd.V_alloc | apply Kd.V_drewN | apply Kd.V_drew)); exact (Kd.V_mono (Kd.V_far (p := ⟨gb210, 1, none⟩) (Kd.V_far (p := ⟨gb210, 0, none⟩) (Kd.V_mono HO208.out (fun k_ hk => (⟨hk, hk.2⟩ : _ ∧ k_ ≠ gb210))) (fun _ hk => hk.2) (.string t205)) (fun _ hk => hk.2) (.slice Ao18 t206.length co18)) (fun _ h_ => h_.1))) hb); have n1_ := Aside0.mk (blk_below (g := gb203) (o := .cells #[.slice A0_0 l0_0.length c0_0, .slice A0_1 l0_1.length c0_1, .slice A0_2 l0_2.length c0_2, .slice A0_3 l0_3.length c0_3, .int .i64 a0_4] 25 (0, 0)) (by (with_reducible repeat (first | refine blk_drewN ?_ _ | refine blk_drew ?_ | refine blk_alloc ?_ _)); refine blk_far ?_ NB203_210.out _; (with_reducible repeat (first | refine blk_drewN ?_ _ | refine blk_drew ?_ | refine blk_alloc ?_ _)); refine blk_far ?_ NB203_210.out _; (with_reducible repeat (first | refine blk_drewN ?_ _ | refine blk_drew ?_ | refine blk_alloc ?_ _)); exact BK203.out) hb); have n2_ := Aside0.mk (blk_below (g := gb204) (o := .cells #[.string a2_0, .string a2_1] 35 (0, 0)) (by (with_reducible repeat (first | refine blk_drewN ?_ _ | refine blk_drew ?_ | refine blk_alloc ?_ _)); refine blk_far ?_ NB204_210.out _; (with_reducible repeat (first | refine blk_drewN ?_ _ | refine blk_drew ?_ | refine blk_alloc ?_ _)); refine blk_far ?_ NB204_210.out _; (with_reducible repeat (first | refine blk_drewN ?_ _ | refine blk_drew ?_ | refine blk_alloc ?_ _)); exact BK204.out) hb); have n3_ := Aside0.mk (blk_below (g := gb210) (o := .cells #[.string t205, .slice Ao18 t206.length co18] 53 (0, 0)) (by (with_reducible repeat (first | refine blk_drewN ?_ _ | refine blk_drew ?_ | refine blk_alloc ?_ _)); refine blk_put (cs := #[.string t205, .slice none 0 0]) ?_ 1 _ rfl; (with_reducible repeat (first | refine blk_drewN ?_ _ | refine blk_drew ?_ | refine blk_alloc ?_ _)); refine blk_put (cs := #[.string (⟨#[]⟩ : ByteArray), .slice none 0 0]) ?_ 0 _ rfl; (with_reducible repeat (first | refine blk_drewN ?_ _ | refine blk_drew ?_ | refine blk_alloc ?_ _)); exact BK210.out) hb); have n4_ := Bs hb; clear HO208; clear BK203; clear BK204; clear BK210; clear HB; have HO208 := n0_; have BK203 := n1_; have BK204 := n2_; have BK210 := n3_; have HB := n4_; clear n0_ n1_ n2_ n3_ n4_; (try clear hb); (try clear hb2); (try clear hk); (try clear hi); obtain ⟨hcz21_0, hcz21_1, hcz21_2, hcz21_3, hcz21_4, hfz21_0, hfz21_1, hfz21_2, hfz21_3, hfz21_4⟩ := cells5 BK203; obtain ⟨hcz22_0, hcz22_1, hfz22_0, hfz22_1⟩ := cells2 BK210; obtain ⟨hcz23_0, hcz23_1, hfz23_0, hfz23_1⟩ := cells2 BK204) | (go_at_call 42; (with_reducible refine (policy_let.calls k _ _ l0_0 _ _ l0_1 _ _ l0_2 _ _ l0_3 a0_4 t205 _ _ t206 a2_0 a2_1 t212 _ (Cs HR0_0) HC0_0.out (Cs HR0_1) HC0_1.out (Cs HR0_2) HC0_2.out (Cs HR0_3) HC0_3.out ?side9 ?side10 A8.out).mono ?_); (case side9 => repeat (first | exact (Kd.V_reads' HO208.out).2.2 | (with_reducible refine Kd.C_alloc ?_ _) | (with_reducible refine Kd.C_drewN ?_ _) | (with_reducible refine Kd.C_drew ?_))); (case side10 => exact (Kd.V_reads' HO208.out).2.1); rintro e w24 ⟨rfl, hb⟩; have n0_ := Aside0.mk (Kd.V_below (by (with_reducible repeat (first | apply Kd.V_alloc | apply Kd.V_drewN | apply Kd.V_drew)); exact HO208.out) hb); have n1_ := Bb BK203 hb; have n2_ := Bb BK204 hb; have n3_ := Bb BK210 hb; have n4_ := Bs hb; clear HO208; clear BK203; clear BK204; clear BK210; clear HB; have HO208 := n0_; have BK203 := n1_; have BK204 := n2_; have BK210 := n3_; have HB := n4_; clear n0_ n1_ n2_ n3_ n4_; (try clear hb); (try clear hb2); (try clear hk); (try clear hi)))
   go_ret
   exact ⟨Re, Bw⟩
  rw [if_neg c7] at H
  have c7b0 : (t211 == 0) = false := beq_eq_false_iff_ne.mpr c7
  have c7b1 : (t211 != 0) = true := bne_iff_ne.mpr c7
  obtain rfl := Option.some.inj H
  go_enter Tryd.func18, Tryd.ntmps18
  go_wp2_with (first | ((with_reducible refine gate_dst (N := 3) rfl ?_); refine box5 25 3 (cs := #[.slice A0_0 l0_0.length c0_0, .slice A0_1 l0_1.length c0_1, .slice A0_2 l0_2.length c0_2, .slice A0_3 l0_3.length c0_3, .int .i64 a0_4]) ?_; clear HB; intro gb203 w25 HB BK203 GE203; have GW203 := GE203) | ((with_reducible refine gate_dst (N := 5) rfl ?_); refine box_event ?hg (N := 5) ?hd (cs := #[.string a2_0, .string a2_1]) (t := 35) ?hr ?_; (case hd => rfl); (case hg => rfl); (case hr => first | (go_simp; done) | (go_simp; rfl)); intro gb204 hg w26 hbox hb; have n0_ := Bb BK203 hb; have n1_ := Bs hb; have n2_ := Aside0.mk (hbox); have n3_ := Aside0.mk (Gg hg); have n4_ := Aside0.mk (Gg hg); have n5_ := Aside0.mk ((by rw [hg]; exact Nat.ne_of_lt (blk_lt (g := gb203) (o := .cells #[.slice A0_0 l0_0.length c0_0, .slice A0_1 l0_1.length c0_1, .slice A0_2 l0_2.length c0_2, .slice A0_3 l0_3.length c0_3, .int .i64 a0_4] 25 (0, 0)) (Bk BK203)) : gb203 ≠ gb204)); have n6_ := Aside0.mk ((by rw [hg]; exact Nat.ne_of_gt (blk_lt (g := gb203) (o := .cells #[.slice A0_0 l0_0.length c0_0, .slice A0_1 l0_1.length c0_1, .slice A0_2 l0_2.length c0_2, .slice A0_3 l0_3.length c0_3, .int .i64 a0_4] 25 (0, 0)) (Bk BK203)) : gb204 ≠ gb203)); clear BK203; clear HB; have BK203 := n0_; have HB := n1_; have BK204 := n2_; have GW204 := n3_; have GE204 := n4_; have NB203_204 := n5_; have NB204_203 := n6_; clear n0_ n1_ n2_ n3_ n4_ n5_ n6_; clear hb hbox hg; have hnb27 := NB203_204.out; have hnc27 := NB204_203.out; obtain ⟨hcz28_0, hcz28_1, hcz28_2, hcz28_3, hcz28_4, hfz28_0, hfz28_1, hfz28_2, hfz28_3, hfz28_4⟩ := cells5 BK203) | ((with_reducible refine gate_callee (f := 40) rfl ?_); refine goL (some 12) Tryd.func40 #[.agg #[.slice A0_0 l0_0.length c0_0, .slice A0_1 l0_1.length c0_1, .slice A0_2 l0_2.length c0_2, .slice A0_3 l0_3.length c0_3, .int .i64 a0_4], .string a1] ?_; (with_reducible refine (policy_rule.calls k (fun k_ => k_ < w.heap.size) _ _ l0_0 _ _ l0_1 _ _ l0_2 _ _ l0_3 a0_4 a1 t205 t206 true _ ?side1 (Cs HR0_1) HC0_1.out (Cs HR0_2) HC0_2.out (Cs HR0_3) HC0_3.out A4.out).mono ?_); (case side1 => exact Kd.V_mk HC0_0.out (Kd.F_below (Kd.C_F k53_heap HR0_0.out) Bw)); rintro e w29 ⟨v207, rfl, ho0, hb⟩; refine ⟨_, rfl, ?_⟩; have n0_ := Aside0.mk (Kd.V_lower (Kd.V_mono (ok' := fun k_ => k_ ≠ gb203 ∧ k_ ≠ gb204) ho0 (fun k_ hk_ => ⟨Or.elim hk_ (fun hs_ => fun e_ => Nat.not_le.2 hs_ (by rw [e_]; exact GW203.out)) (fun hn_ => (Kd.freshB (g := gb203) (o := .cells #[.slice A0_0 l0_0.length c0_0, .slice A0_1 l0_1.length c0_1, .slice A0_2 l0_2.length c0_2, .slice A0_3 l0_3.length c0_3, .int .i64 a0_4] 25 (0, 0)) (Bk BK203) k_ hn_)), Or.elim hk_ (fun hs_ => fun e_ => Nat.not_le.2 hs_ (by rw [e_]; exact GW204.out)) (fun hn_ => (Kd.freshB (g := gb204) (o := .cells #[.string a2_0, .string a2_1] 35 (0, 0)) (Bk BK204) k_ hn_))⟩)) (below_size Bw)); have n1_ := Bb BK203 hb; have n2_ := Bb BK204 hb; have n3_ := Bs hb; clear BK203; clear BK204; clear HB; have HO208 := n0_; have BK203 := n1_; have BK204 := n2_; have HB := n3_; clear n0_ n1_ n2_ n3_; (try clear hb); (try clear hb2); (try clear hk); (try clear hi); (try clear ho0)) | ((with_reducible refine gate_dst (N := 7) rfl ?_); refine box_event ?hg (N := 7) ?hd (cs := #[.string (⟨#[]⟩ : ByteArray), .slice none 0 0]) (t := 53) ?hr ?_; (case hd => rfl); (case hg => rfl); (case hr => first | (go_simp; done) | (go_simp; rfl)); intro gb210 hg w30 hbox hb; have n0_ := Aside0.mk (Kd.V_below (Kd.V_elderB (by (with_reducible repeat (first | apply Kd.V_alloc | apply Kd.V_drewN | apply Kd.V_drew)); exact HO208.out) gb210 (Nat.le_of_eq hg.symm)) hb); have n1_ := Bb BK203 hb; have n2_ := Bb BK204 hb; have n3_ := Bs hb; have n4_ := Aside0.mk (hbox); have n5_ := Aside0.mk (Gg hg); have n6_ := Aside0.mk (Gg hg); have n7_ := Aside0.mk ((by rw [hg]; exact Nat.ne_of_lt (blk_lt (g := gb203) (o := .cells #[.slice A0_0 l0_0.length c0_0, .slice A0_1 l0_1.length c0_1, .slice A0_2 l0_2.length c0_2, .slice A0_3 l0_3.length c0_3, .int .i64 a0_4] 25 (0, 0)) (Bk BK203)) : gb203 ≠ gb210)); have n8_ := Aside0.mk ((by rw [hg]; exact Nat.ne_of_gt (blk_lt (g := gb203) (o := .cells #[.slice A0_0 l0_0.length c0_0, .slice A0_1 l0_1.length c0_1, .slice A0_2 l0_2.length c0_2, .slice A0_3 l0_3.length c0_3, .int .i64 a0_4] 25 (0, 0)) (Bk BK203)) : gb210 ≠ gb203)); have n9_ := Aside0.mk ((by rw [hg]; exact Nat.ne_of_lt (blk_lt (g := gb204) (o := .cells #[.string a2_0, .string a2_1] 35 (0, 0)) (Bk BK204)) : gb204 ≠ gb210)); have n10_ := Aside0.mk ((by rw [hg]; exact Nat.ne_of_gt (blk_lt (g := gb204) (o := .cells #[.string a2_0, .string a2_1] 35 (0, 0)) (Bk BK204)) : gb210 ≠ gb204)); clear HO208; clear BK203; clear BK204; clear HB; have HO208 := n0_; have BK203 := n1_; have BK204 := n2_; have HB := n3_; have BK210 := n4_; have GW210 := n5_; have GE210 := n6_; have NB203_210 := n7_; have NB210_203 := n8_; have NB204_210 := n9_; have NB210_204 := n10_; clear n0_ n1_ n2_ n3_ n4_ n5_ n6_ n7_ n8_ n9_ n10_; clear hb hbox hg; have hnb31 := NB210_203.out; have hnc31 := NB203_210.out; have hnb32 := NB210_204.out; have hnc32 := NB204_210.out; obtain ⟨hcz33_0, hcz33_1, hfz33_0, hfz33_1⟩ := cells2 BK210; obtain ⟨Ao34, co34, eo34⟩ := Kd.V_slice HO208.out; subst eo34; obtain ⟨hcz35_0, hcz35_1, hcz35_2, hcz35_3, hcz35_4, hfz35_0, hfz35_1, hfz35_2, hfz35_3, hfz35_4⟩ := cells5 BK203) | (go_at_call 11; (with_reducible refine (policy_Check.calls k _ _ l0_0 _ _ l0_1 _ _ l0_2 _ _ l0_3 a0_4 t211 _ ?side1 HC0_0.out ?side3 HC0_1.out ?side5 HC0_2.out ?side7 HC0_3.out A6.out).mono ?_); (case side1 => exact Kd.C_below HR0_0.out Bw); (case side3 => exact Kd.C_below HR0_1.out Bw); (case side5 => exact Kd.C_below HR0_2.out Bw); (case side7 => exact Kd.C_below HR0_3.out Bw); rintro e w36 ⟨rfl, hb⟩; have n0_ := Aside0.mk (Kd.V_below (by (with_reducible repeat (first | apply Kd.V_alloc | apply Kd.V_drewN | apply Kd.V_drew)); exact (Kd.V_mono (Kd.V_far (p := ⟨gb210, 1, none⟩) (Kd.V_far (p := ⟨gb210, 0, none⟩) (Kd.V_mono HO208.out (fun k_ hk => (⟨hk, hk.2⟩ : _ ∧ k_ ≠ gb210))) (fun _ hk => hk.2) (.string t205)) (fun _ hk => hk.2) (.slice Ao34 t206.length co34)) (fun _ h_ => h_.1))) hb); have n1_ := Aside0.mk (blk_below (g := gb203) (o := .cells #[.slice A0_0 l0_0.length c0_0, .slice A0_1 l0_1.length c0_1, .slice A0_2 l0_2.length c0_2, .slice A0_3 l0_3.length c0_3, .int .i64 a0_4] 25 (0, 0)) (by (with_reducible repeat (first | refine blk_drewN ?_ _ | refine blk_drew ?_ | refine blk_alloc ?_ _)); refine blk_far ?_ NB203_210.out _; (with_reducible repeat (first | refine blk_drewN ?_ _ | refine blk_drew ?_ | refine blk_alloc ?_ _)); refine blk_far ?_ NB203_210.out _; (with_reducible repeat (first | refine blk_drewN ?_ _ | refine blk_drew ?_ | refine blk_alloc ?_ _)); exact BK203.out) hb); have n2_ := Aside0.mk (blk_below (g := gb204) (o := .cells #[.string a2_0, .string a2_1] 35 (0, 0)) (by (with_reducible repeat (first | refine blk_drewN ?_ _ | refine blk_drew ?_ | refine blk_alloc ?_ _)); refine blk_far ?_ NB204_210.out _; (with_reducible repeat (first | refine blk_drewN ?_ _ | refine blk_drew ?_ | refine blk_alloc ?_ _)); refine blk_far ?_ NB204_210.out _; (with_reducible repeat (first | refine blk_drewN ?_ _ | refine blk_drew ?_ | refine blk_alloc ?_ _)); exact BK204.out) hb); have n3_ := Aside0.mk (blk_below (g := gb210) (o := .cells #[.string t205, .slice Ao34 t206.length co34] 53 (0, 0)) (by (with_reducible repeat (first | refine blk_drewN ?_ _ | refine blk_drew ?_ | refine blk_alloc ?_ _)); refine blk_put (cs := #[.string t205, .slice none 0 0]) ?_ 1 _ rfl; (with_reducible repeat (first | refine blk_drewN ?_ _ | refine blk_drew ?_ | refine blk_alloc ?_ _)); refine blk_put (cs := #[.string (⟨#[]⟩ : ByteArray), .slice none 0 0]) ?_ 0 _ rfl; (with_reducible repeat (first | refine blk_drewN ?_ _ | refine blk_drew ?_ | refine blk_alloc ?_ _)); exact BK210.out) hb); have n4_ := Bs hb; clear HO208; clear BK203; clear BK204; clear BK210; clear HB; have HO208 := n0_; have BK203 := n1_; have BK204 := n2_; have BK210 := n3_; have HB := n4_; clear n0_ n1_ n2_ n3_ n4_; (try clear hb); (try clear hb2); (try clear hk); (try clear hi)))
  go_ret
  exact ⟨Re, Bw⟩
 replace c5 := Bool.eq_false_iff.mpr c5
 subst c5
 rw [if_neg (show ¬ (false = true) by decide)] at H
 obtain rfl := Option.some.inj H
 go_enter Tryd.func18, Tryd.ntmps18
 go_wp2_with (first | ((with_reducible refine gate_dst (N := 3) rfl ?_); refine box5 25 3 (cs := #[.slice A0_0 l0_0.length c0_0, .slice A0_1 l0_1.length c0_1, .slice A0_2 l0_2.length c0_2, .slice A0_3 l0_3.length c0_3, .int .i64 a0_4]) ?_; clear HB; intro gb203 w37 HB BK203 GE203; have GW203 := GE203) | ((with_reducible refine gate_dst (N := 5) rfl ?_); refine box_event ?hg (N := 5) ?hd (cs := #[.string a2_0, .string a2_1]) (t := 35) ?hr ?_; (case hd => rfl); (case hg => rfl); (case hr => first | (go_simp; done) | (go_simp; rfl)); intro gb204 hg w38 hbox hb; have n0_ := Bb BK203 hb; have n1_ := Bs hb; have n2_ := Aside0.mk (hbox); have n3_ := Aside0.mk (Gg hg); have n4_ := Aside0.mk (Gg hg); have n5_ := Aside0.mk ((by rw [hg]; exact Nat.ne_of_lt (blk_lt (g := gb203) (o := .cells #[.slice A0_0 l0_0.length c0_0, .slice A0_1 l0_1.length c0_1, .slice A0_2 l0_2.length c0_2, .slice A0_3 l0_3.length c0_3, .int .i64 a0_4] 25 (0, 0)) (Bk BK203)) : gb203 ≠ gb204)); have n6_ := Aside0.mk ((by rw [hg]; exact Nat.ne_of_gt (blk_lt (g := gb203) (o := .cells #[.slice A0_0 l0_0.length c0_0, .slice A0_1 l0_1.length c0_1, .slice A0_2 l0_2.length c0_2, .slice A0_3 l0_3.length c0_3, .int .i64 a0_4] 25 (0, 0)) (Bk BK203)) : gb204 ≠ gb203)); clear BK203; clear HB; have BK203 := n0_; have HB := n1_; have BK204 := n2_; have GW204 := n3_; have GE204 := n4_; have NB203_204 := n5_; have NB204_203 := n6_; clear n0_ n1_ n2_ n3_ n4_ n5_ n6_; clear hb hbox hg; have hnb39 := NB203_204.out; have hnc39 := NB204_203.out; obtain ⟨hcz40_0, hcz40_1, hcz40_2, hcz40_3, hcz40_4, hfz40_0, hfz40_1, hfz40_2, hfz40_3, hfz40_4⟩ := cells5 BK203) | ((with_reducible refine gate_callee (f := 40) rfl ?_); refine goL (some 12) Tryd.func40 #[.agg #[.slice A0_0 l0_0.length c0_0, .slice A0_1 l0_1.length c0_1, .slice A0_2 l0_2.length c0_2, .slice A0_3 l0_3.length c0_3, .int .i64 a0_4], .string a1] ?_; (with_reducible refine (policy_rule.calls k (fun k_ => k_ < w.heap.size) _ _ l0_0 _ _ l0_1 _ _ l0_2 _ _ l0_3 a0_4 a1 t205 t206 false _ ?side1 (Cs HR0_1) HC0_1.out (Cs HR0_2) HC0_2.out (Cs HR0_3) HC0_3.out A4.out).mono ?_); (case side1 => exact Kd.V_mk HC0_0.out (Kd.F_below (Kd.C_F k53_heap HR0_0.out) Bw)); rintro e w41 ⟨v207, rfl, ho0, hb⟩; refine ⟨_, rfl, ?_⟩; have n0_ := Aside0.mk (Kd.V_lower (Kd.V_mono (ok' := fun k_ => k_ ≠ gb203 ∧ k_ ≠ gb204) ho0 (fun k_ hk_ => ⟨Or.elim hk_ (fun hs_ => fun e_ => Nat.not_le.2 hs_ (by rw [e_]; exact GW203.out)) (fun hn_ => (Kd.freshB (g := gb203) (o := .cells #[.slice A0_0 l0_0.length c0_0, .slice A0_1 l0_1.length c0_1, .slice A0_2 l0_2.length c0_2, .slice A0_3 l0_3.length c0_3, .int .i64 a0_4] 25 (0, 0)) (Bk BK203) k_ hn_)), Or.elim hk_ (fun hs_ => fun e_ => Nat.not_le.2 hs_ (by rw [e_]; exact GW204.out)) (fun hn_ => (Kd.freshB (g := gb204) (o := .cells #[.string a2_0, .string a2_1] 35 (0, 0)) (Bk BK204) k_ hn_))⟩)) (below_size Bw)); have n1_ := Bb BK203 hb; have n2_ := Bb BK204 hb; have n3_ := Bs hb; clear BK203; clear BK204; clear HB; have HO208 := n0_; have BK203 := n1_; have BK204 := n2_; have HB := n3_; clear n0_ n1_ n2_ n3_; (try clear hb); (try clear hb2); (try clear hk); (try clear hi); (try clear ho0)) | ((with_reducible refine gate_dst (N := 7) rfl ?_); refine box_event ?hg (N := 7) ?hd (cs := #[.string (⟨#[]⟩ : ByteArray), .slice none 0 0]) (t := 53) ?hr ?_; (case hd => rfl); (case hg => rfl); (case hr => first | (go_simp; done) | (go_simp; rfl)); intro gb210 hg w42 hbox hb; have n0_ := Aside0.mk (Kd.V_below (Kd.V_elderB (by (with_reducible repeat (first | apply Kd.V_alloc | apply Kd.V_drewN | apply Kd.V_drew)); exact HO208.out) gb210 (Nat.le_of_eq hg.symm)) hb); have n1_ := Bb BK203 hb; have n2_ := Bb BK204 hb; have n3_ := Bs hb; have n4_ := Aside0.mk (hbox); have n5_ := Aside0.mk (Gg hg); have n6_ := Aside0.mk (Gg hg); have n7_ := Aside0.mk ((by rw [hg]; exact Nat.ne_of_lt (blk_lt (g := gb203) (o := .cells #[.slice A0_0 l0_0.length c0_0, .slice A0_1 l0_1.length c0_1, .slice A0_2 l0_2.length c0_2, .slice A0_3 l0_3.length c0_3, .int .i64 a0_4] 25 (0, 0)) (Bk BK203)) : gb203 ≠ gb210)); have n8_ := Aside0.mk ((by rw [hg]; exact Nat.ne_of_gt (blk_lt (g := gb203) (o := .cells #[.slice A0_0 l0_0.length c0_0, .slice A0_1 l0_1.length c0_1, .slice A0_2 l0_2.length c0_2, .slice A0_3 l0_3.length c0_3, .int .i64 a0_4] 25 (0, 0)) (Bk BK203)) : gb210 ≠ gb203)); have n9_ := Aside0.mk ((by rw [hg]; exact Nat.ne_of_lt (blk_lt (g := gb204) (o := .cells #[.string a2_0, .string a2_1] 35 (0, 0)) (Bk BK204)) : gb204 ≠ gb210)); have n10_ := Aside0.mk ((by rw [hg]; exact Nat.ne_of_gt (blk_lt (g := gb204) (o := .cells #[.string a2_0, .string a2_1] 35 (0, 0)) (Bk BK204)) : gb210 ≠ gb204)); clear HO208; clear BK203; clear BK204; clear HB; have HO208 := n0_; have BK203 := n1_; have BK204 := n2_; have HB := n3_; have BK210 := n4_; have GW210 := n5_; have GE210 := n6_; have NB203_210 := n7_; have NB210_203 := n8_; have NB204_210 := n9_; have NB210_204 := n10_; clear n0_ n1_ n2_ n3_ n4_ n5_ n6_ n7_ n8_ n9_ n10_; clear hb hbox hg; have hnb43 := NB210_203.out; have hnc43 := NB203_210.out; have hnb44 := NB210_204.out; have hnc44 := NB204_210.out; obtain ⟨hcz45_0, hcz45_1, hfz45_0, hfz45_1⟩ := cells2 BK210; obtain ⟨Ao46, co46, eo46⟩ := Kd.V_slice HO208.out; subst eo46))
 go_ret
 exact ⟨Re, Bw⟩

def policy_nodes.f (_l0_0 : List S53) (_l0_1 : List ByteArray) (_l0_2 : List ByteArray) (_l0_3 : List ByteArray) (_a0_4 : Int) (l1 : List S49) (_a2 : Int) : Option Bool := match l1 with
  | [] => some true
  | _ :: _ => none
set_option maxHeartbeats 8000000 in
set_option maxRecDepth 100000 in
theorem policy_nodes.calls (A0_0 : Option Addr) (c0_0 : Nat) (l0_0 : List (S53)) (A0_1 : Option Addr) (c0_1 : Nat) (l0_1 : List ByteArray) (A0_2 : Option Addr) (c0_2 : Nat) (l0_2 : List ByteArray) (A0_3 : Option Addr) (c0_3 : Nat) (l0_3 : List ByteArray) (a0_4 : Int) (A1 : Option Addr) (c1 : Nat) (l1 : List (S49)) (a2 : Int) (r : Bool) (w : World) (hr0_0 : Kd.C k53 w A0_0 l0_0.length l0_0) (hc0_0 : l0_0.length ≤ c0_0) (hr0_1 : Kd.C Kd.string w A0_1 l0_1.length l0_1) (hc0_1 : l0_1.length ≤ c0_1) (hr0_2 : Kd.C Kd.string w A0_2 l0_2.length l0_2) (hc0_2 : l0_2.length ≤ c0_2) (hr0_3 : Kd.C Kd.string w A0_3 l0_3.length l0_3) (hc0_3 : l0_3.length ≤ c0_3) (hr1 : Kd.C k49 w A1 l1.length l1) (hc1 : l1.length ≤ c1) (h : policy_nodes.f l0_0 l0_1 l0_2 l0_3 a0_4 l1 a2 = some r) :
    Calls Tryd.prog 44 #[.agg #[.slice A0_0 l0_0.length c0_0, .slice A0_1 l0_1.length c0_1, .slice A0_2 l0_2.length c0_2, .slice A0_3 l0_3.length c0_3, .int .i64 a0_4], .slice A1 l1.length c1, .int .i64 a2] w fun e w' => e = .returned (.bool r) ∧ Below w.heap.size w w' := by
  cases l1 with
  | cons _ _ => exact absurd h (by simp [policy_nodes.f])
  | nil =>
  obtain rfl := Option.some.inj h
  clear h
  have HB := Aside0.mk (Below.refl w.heap.size w)
  clear hr0_0 hr0_1 hr0_2 hr0_3 hr1 hc0_0 hc0_1 hc0_2 hc0_3 hc1
  have hlen : ((([] : List S49).length : Nat) : Int) = 0 := rfl
  go_enter Tryd.func44, Tryd.ntmps44
  go_wp2_with (first | ((with_reducible refine gate_dst (N := 3) rfl ?_); refine box5 25 3 (cs := #[.slice A0_0 l0_0.length c0_0, .slice A0_1 l0_1.length c0_1, .slice A0_2 l0_2.length c0_2, .slice A0_3 l0_3.length c0_3, .int .i64 a0_4]) ?_; clear HB; intro gb264 w4 HB BK264 GE264; have GW264 := GE264))
  go_loopg [11] 1 (fun kq v11 w' => v11 = .int .i64 0 ∧ Aside0 (kq ≤ 1) ∧ Aside0 (w'.heap[gb264]? = some (.cells #[(.slice A0_0 l0_0.length c0_0), (.slice A0_1 l0_1.length c0_1), (.slice A0_2 l0_2.length c0_2), (.slice A0_3 l0_3.length c0_3), .int .i64 a0_4] 25 (0, 0))) ∧ Aside0 (Below w.heap.size w w'))
  case atStart => exact ⟨Rs, ⟨Nat.le_refl _⟩, ⟨(Bk BK264)⟩, ⟨Bw⟩⟩
  case round =>
    obtain ⟨rfl, HK1, BK264, HB⟩ := hrel
    go_wp2
    go_ret
    exact ⟨Re, Bw⟩


noncomputable def policy_Allowed.f (k : Nat) (l0_0 : List (S53)) (l0_1 : List ByteArray) (l0_2 : List ByteArray) (l0_3 : List ByteArray) (a0_4 : Int) (l1 : List (S49)) : Option (Bool) := (policy_Check.f k l0_0 l0_1 l0_2 l0_3 a0_4).bind fun t214 => (if t214 = 0 then ((policy_nodes.f l0_0 l0_1 l0_2 l0_3 a0_4 l1 1).bind fun t215 => (some t215)) else (some false))
theorem policy_Allowed.mono : ∀ a0 a1 a2 a3 a4 a5 k, LeO (policy_Allowed.f k a0 a1 a2 a3 a4 a5) (policy_Allowed.f (k + 1) a0 a1 a2 a3 a4 a5) := by
  intro a0 a1 a2 a3 a4 a5 k
  unfold policy_Allowed.f
  repeat' first
      | (with_reducible exact policy_Check.mono _ _ _ _ _ _)
      | (with_reducible exact LeO.refl _)
      | (with_reducible exact LeO.none _)
      | (with_reducible refine LeO.ite ?_ ?_)
      | (with_reducible refine LeO.bind ?_ (fun _ => ?_))
      | exact policy_Check.mono _ _ _ _ _ _
      | exact LeO.none _
      | refine LeO.ite ?_ ?_
      | refine LeO.bind ?_ (fun _ => ?_)
set_option maxHeartbeats 8000000 in
set_option maxRecDepth 100000 in
theorem policy_Allowed.calls (k : Nat) (A0_0 : Option Addr) (c0_0 : Nat) (l0_0 : List (S53)) (A0_1 : Option Addr) (c0_1 : Nat) (l0_1 : List ByteArray) (A0_2 : Option Addr) (c0_2 : Nat) (l0_2 : List ByteArray) (A0_3 : Option Addr) (c0_3 : Nat) (l0_3 : List ByteArray) (a0_4 : Int) (A1 : Option Addr) (c1 : Nat) (l1 : List (S49)) (r : Bool) (w : World) (hr0_0 : Kd.C k53 w A0_0 l0_0.length l0_0) (hc0_0 : l0_0.length ≤ c0_0) (hr0_1 : Kd.C Kd.string w A0_1 l0_1.length l0_1) (hc0_1 : l0_1.length ≤ c0_1) (hr0_2 : Kd.C Kd.string w A0_2 l0_2.length l0_2) (hc0_2 : l0_2.length ≤ c0_2) (hr0_3 : Kd.C Kd.string w A0_3 l0_3.length l0_3) (hc0_3 : l0_3.length ≤ c0_3) (hr1 : Kd.C k49 w A1 l1.length l1) (hc1 : l1.length ≤ c1) (h : policy_Allowed.f k l0_0 l0_1 l0_2 l0_3 a0_4 l1 = some r) :
  Calls Tryd.prog 21 #[.agg #[.slice A0_0 l0_0.length c0_0, .slice A0_1 l0_1.length c0_1, .slice A0_2 l0_2.length c0_2, .slice A0_3 l0_3.length c0_3, .int .i64 a0_4], .slice A1 l1.length c1] w fun e w' => e = .returned (.bool r) ∧ Below w.heap.size w w' := by
 have hu25 := Tryd.underlying25
 have HR0_0 := Aside0.mk hr0_0
 have HC0_0 := Aside0.mk hc0_0
 clear hr0_0 hc0_0
 have HR0_1 := Aside0.mk hr0_1
 have HC0_1 := Aside0.mk hc0_1
 clear hr0_1 hc0_1
 have HR0_2 := Aside0.mk hr0_2
 have HC0_2 := Aside0.mk hc0_2
 clear hr0_2 hc0_2
 have HR0_3 := Aside0.mk hr0_3
 have HC0_3 := Aside0.mk hc0_3
 clear hr0_3 hc0_3
 have HR1 := Aside0.mk hr1
 have HC1 := Aside0.mk hc1
 clear hr1 hc1
 have HB := Aside0.mk (Below.refl w.heap.size w)
 have H := h
 clear h
 unfold policy_Allowed.f at H
 replace H := Option.bind_eq_some_iff.mp H
 obtain ⟨t214, A30, H⟩ := H
 try dsimp -simprocs only at H
 have A3 := Aside0.mk A30
 clear A30
 by_cases c4 : t214 = 0
 ·rw [if_pos c4] at H
  have c4b0 : (t214 == 0) = true := beq_iff_eq.mpr c4
  have c4b1 : (t214 != 0) = false := bne_eq_false_iff_eq.mpr c4
  clear c4
  replace H := Option.bind_eq_some_iff.mp H
  obtain ⟨t215, A50, H⟩ := H
  replace H : (some t215) = some r := H
  have A5 := Aside0.mk A50
  clear A50
  obtain rfl := Option.some.inj H
  go_enter Tryd.func21, Tryd.ntmps21
  go_wp2_with (first | ((with_reducible refine gate_dst (N := 2) rfl ?_); refine box5 25 2 (cs := #[.slice A0_0 l0_0.length c0_0, .slice A0_1 l0_1.length c0_1, .slice A0_2 l0_2.length c0_2, .slice A0_3 l0_3.length c0_3, .int .i64 a0_4]) ?_; clear HB; intro gb213 w6 HB BK213 GE213; obtain ⟨hcz7_0, hcz7_1, hcz7_2, hcz7_3, hcz7_4, hfz7_0, hfz7_1, hfz7_2, hfz7_3, hfz7_4⟩ := cells5 BK213) | ((with_reducible refine gate_callee (f := 11) rfl ?_); refine goL (some 6) Tryd.func11 #[.agg #[.slice A0_0 l0_0.length c0_0, .slice A0_1 l0_1.length c0_1, .slice A0_2 l0_2.length c0_2, .slice A0_3 l0_3.length c0_3, .int .i64 a0_4]] ?_; (with_reducible refine (policy_Check.calls k _ _ l0_0 _ _ l0_1 _ _ l0_2 _ _ l0_3 a0_4 t214 _ (Cs HR0_0) HC0_0.out (Cs HR0_1) HC0_1.out (Cs HR0_2) HC0_2.out (Cs HR0_3) HC0_3.out A3.out).mono ?_); rintro e w8 ⟨rfl, hb⟩; refine ⟨_, rfl, ?_⟩; replace BK213 := Bb BK213 hb; replace HB := Bs hb; clear hb; obtain ⟨hcz9_0, hcz9_1, hcz9_2, hcz9_3, hcz9_4, hfz9_0, hfz9_1, hfz9_2, hfz9_3, hfz9_4⟩ := cells5 BK213) | (go_at_call 44; (with_reducible refine (policy_nodes.calls _ _ l0_0 _ _ l0_1 _ _ l0_2 _ _ l0_3 a0_4 _ _ l1 1 t215 _ (Cs HR0_0) HC0_0.out (Cs HR0_1) HC0_1.out (Cs HR0_2) HC0_2.out (Cs HR0_3) HC0_3.out (Cs HR1) HC1.out A5.out).mono ?_); rintro e w10 ⟨rfl, hb⟩; replace BK213 := Bb BK213 hb; replace HB := Bs hb; clear hb))
  go_ret
  exact ⟨Re, Bw⟩
 rw [if_neg c4] at H
 have c4b0 : (t214 == 0) = false := beq_eq_false_iff_ne.mpr c4
 have c4b1 : (t214 != 0) = true := bne_iff_ne.mpr c4
 obtain rfl := Option.some.inj H
 go_enter Tryd.func21, Tryd.ntmps21
 go_wp2_with (first | ((with_reducible refine gate_dst (N := 2) rfl ?_); refine box5 25 2 (cs := #[.slice A0_0 l0_0.length c0_0, .slice A0_1 l0_1.length c0_1, .slice A0_2 l0_2.length c0_2, .slice A0_3 l0_3.length c0_3, .int .i64 a0_4]) ?_; clear HB; intro gb213 w11 HB BK213 GE213; obtain ⟨hcz12_0, hcz12_1, hcz12_2, hcz12_3, hcz12_4, hfz12_0, hfz12_1, hfz12_2, hfz12_3, hfz12_4⟩ := cells5 BK213) | ((with_reducible refine gate_callee (f := 11) rfl ?_); refine goL (some 6) Tryd.func11 #[.agg #[.slice A0_0 l0_0.length c0_0, .slice A0_1 l0_1.length c0_1, .slice A0_2 l0_2.length c0_2, .slice A0_3 l0_3.length c0_3, .int .i64 a0_4]] ?_; (with_reducible refine (policy_Check.calls k _ _ l0_0 _ _ l0_1 _ _ l0_2 _ _ l0_3 a0_4 t214 _ (Cs HR0_0) HC0_0.out (Cs HR0_1) HC0_1.out (Cs HR0_2) HC0_2.out (Cs HR0_3) HC0_3.out A3.out).mono ?_); rintro e w13 ⟨rfl, hb⟩; refine ⟨_, rfl, ?_⟩; replace BK213 := Bb BK213 hb; replace HB := Bs hb; clear hb))
 go_ret
 exact ⟨Re, Bw⟩

noncomputable def marginalialaw11_alive0.f (k : Nat)  : Option (Bool) := (policy_Parse.f k (⟨#[100, 101, 101, 112, 32, 51, 10, 101, 108, 101, 109, 101, 110, 116, 32, 98, 10, 101, 108, 101, 109, 101, 110, 116, 32, 97, 32, 104, 114, 101, 102, 10, 108, 105, 110, 107, 32, 104, 114, 101, 102, 10, 115, 99, 104, 101, 109, 101, 32, 104, 116, 116, 112, 115, 10]⟩ : ByteArray)).bind fun bt267 => ((policy_Parse.f k (⟨#[100, 101, 101, 112, 32, 51, 10, 10, 100, 101, 101, 112, 32, 48, 51]⟩ : ByteArray)).bind fun bt283 => (if bt267.2.2.2.2.2.1 = 0 then (if bt267.2.2.2.2.2.2 = 0 then (if bt283.2.2.2.2.2.1 = 3 then (if bt283.2.2.2.2.2.2 = 7 then ((policy_Element.f k bt267.1 bt267.2.1 bt267.2.2.1 bt267.2.2.2.1 bt267.2.2.2.2.1 (⟨#[98]⟩ : ByteArray)).bind fun t299 => (if t299 = true then ((policy_Element.f k bt267.1 bt267.2.1 bt267.2.2.1 bt267.2.2.2.1 bt267.2.2.2.2.1 (⟨#[105]⟩ : ByteArray)).bind fun t300 => (if t300 = true then (some false) else ((policy_Attr.f k bt267.1 bt267.2.1 bt267.2.2.1 bt267.2.2.2.1 bt267.2.2.2.2.1 (⟨#[97]⟩ : ByteArray) (⟨#[104, 114, 101, 102]⟩ : ByteArray) (⟨#[47, 120]⟩ : ByteArray)).bind fun t301 => (if t301 = true then ((policy_Attr.f k bt267.1 bt267.2.1 bt267.2.2.1 bt267.2.2.2.1 bt267.2.2.2.2.1 (⟨#[97]⟩ : ByteArray) (⟨#[104, 114, 101, 102]⟩ : ByteArray) (⟨#[104, 116, 116, 112, 58, 120]⟩ : ByteArray)).bind fun t302 => (if t302 = true then (some false) else ((policy_Check.f k bt267.1 bt267.2.1 bt267.2.2.1 bt267.2.2.2.1 bt267.2.2.2.2.1).bind fun t303 => (if t303 = 0 then ((policy_Allowed.f k bt267.1 bt267.2.1 bt267.2.2.1 bt267.2.2.2.1 bt267.2.2.2.2.1 ([] : List (S49))).bind fun t304 => (some t304)) else (some false))))) else (some false))))) else (some false))) else (some false)) else (some false)) else (some false)) else (some false)))
theorem marginalialaw11_alive0.mono : ∀ k, LeO (marginalialaw11_alive0.f k ) (marginalialaw11_alive0.f (k + 1) ) := by
  intro  k
  unfold marginalialaw11_alive0.f
  repeat' first
      | (with_reducible exact policy_Allowed.mono _ _ _ _ _ _ _)
      | (with_reducible exact policy_Attr.mono _ _ _ _ _ _ _ _ _)
      | (with_reducible exact policy_Check.mono _ _ _ _ _ _)
      | (with_reducible exact policy_Element.mono _ _ _ _ _ _ _)
      | (with_reducible exact policy_Parse.mono _ _)
      | (with_reducible exact LeO.refl _)
      | (with_reducible exact LeO.none _)
      | (with_reducible refine LeO.ite ?_ ?_)
      | (with_reducible refine LeO.bind ?_ (fun _ => ?_))
      | exact policy_Allowed.mono _ _ _ _ _ _ _
      | exact policy_Attr.mono _ _ _ _ _ _ _ _ _
      | exact policy_Check.mono _ _ _ _ _ _
      | exact policy_Element.mono _ _ _ _ _ _ _
      | exact policy_Parse.mono _ _
      | exact LeO.none _
      | refine LeO.ite ?_ ?_
      | refine LeO.bind ?_ (fun _ => ?_)
set_option maxHeartbeats 8000000 in
set_option maxRecDepth 100000 in
theorem marginalialaw11_alive0.calls (k : Nat)  (w : World) (m_ : Int) (hm_ : w.cell? ⟨0, 0, none⟩ = some (.int .i64 m_)) (h : marginalialaw11_alive0.f k  = some true) :
  Calls Tryd.prog 10 #[] w fun e w' => e = .returned (.bool true) ∧ Below w.heap.size w w' := by
 have HM := Aside0.mk hm_
 clear hm_
 have hu25 := Tryd.underlying25
 have hu35 := Tryd.underlying35
 have HB := Aside0.mk (Below.refl w.heap.size w)
 have H : ((policy_Parse.f k (⟨#[100, 101, 101, 112, 32, 51, 10, 101, 108, 101, 109, 101, 110, 116, 32, 98, 10, 101, 108, 101, 109, 101, 110, 116, 32, 97, 32, 104, 114, 101, 102, 10, 108, 105, 110, 107, 32, 104, 114, 101, 102, 10, 115, 99, 104, 101, 109, 101, 32, 104, 116, 116, 112, 115, 10]⟩ : ByteArray)).bind fun bt267 => ((policy_Parse.f k (⟨#[100, 101, 101, 112, 32, 51, 10, 10, 100, 101, 101, 112, 32, 48, 51]⟩ : ByteArray)).bind fun bt283 => (if bt267.2.2.2.2.2.1 = 0 then (if bt267.2.2.2.2.2.2 = 0 then (if bt283.2.2.2.2.2.1 = 3 then (if bt283.2.2.2.2.2.2 = 7 then ((policy_Element.f k bt267.1 bt267.2.1 bt267.2.2.1 bt267.2.2.2.1 bt267.2.2.2.2.1 (⟨#[98]⟩ : ByteArray)).bind fun t299 => (if t299 = true then ((policy_Element.f k bt267.1 bt267.2.1 bt267.2.2.1 bt267.2.2.2.1 bt267.2.2.2.2.1 (⟨#[105]⟩ : ByteArray)).bind fun t300 => (if t300 = true then (some false) else ((policy_Attr.f k bt267.1 bt267.2.1 bt267.2.2.1 bt267.2.2.2.1 bt267.2.2.2.2.1 (⟨#[97]⟩ : ByteArray) (⟨#[104, 114, 101, 102]⟩ : ByteArray) (⟨#[47, 120]⟩ : ByteArray)).bind fun t301 => (if t301 = true then ((policy_Attr.f k bt267.1 bt267.2.1 bt267.2.2.1 bt267.2.2.2.1 bt267.2.2.2.2.1 (⟨#[97]⟩ : ByteArray) (⟨#[104, 114, 101, 102]⟩ : ByteArray) (⟨#[104, 116, 116, 112, 58, 120]⟩ : ByteArray)).bind fun t302 => (if t302 = true then (some false) else ((policy_Check.f k bt267.1 bt267.2.1 bt267.2.2.1 bt267.2.2.2.1 bt267.2.2.2.2.1).bind fun t303 => (if t303 = 0 then ((policy_Allowed.f k bt267.1 bt267.2.1 bt267.2.2.1 bt267.2.2.2.1 bt267.2.2.2.2.1 ([] : List (S49))).bind fun t304 => (some t304)) else (some false))))) else (some false))))) else (some false))) else (some false)) else (some false)) else (some false)) else (some false)))) = some true := h
 clear h
 replace H := Option.bind_eq_some_iff.mp H
 obtain ⟨⟨t267, t270, t273, t276, t279, t280, t281⟩, A10, H⟩ := H
 replace H : ((policy_Parse.f k (⟨#[100, 101, 101, 112, 32, 51, 10, 10, 100, 101, 101, 112, 32, 48, 51]⟩ : ByteArray)).bind fun bt283 => (if t280 = 0 then (if t281 = 0 then (if bt283.2.2.2.2.2.1 = 3 then (if bt283.2.2.2.2.2.2 = 7 then ((policy_Element.f k t267 t270 t273 t276 t279 (⟨#[98]⟩ : ByteArray)).bind fun t299 => (if t299 = true then ((policy_Element.f k t267 t270 t273 t276 t279 (⟨#[105]⟩ : ByteArray)).bind fun t300 => (if t300 = true then (some false) else ((policy_Attr.f k t267 t270 t273 t276 t279 (⟨#[97]⟩ : ByteArray) (⟨#[104, 114, 101, 102]⟩ : ByteArray) (⟨#[47, 120]⟩ : ByteArray)).bind fun t301 => (if t301 = true then ((policy_Attr.f k t267 t270 t273 t276 t279 (⟨#[97]⟩ : ByteArray) (⟨#[104, 114, 101, 102]⟩ : ByteArray) (⟨#[104, 116, 116, 112, 58, 120]⟩ : ByteArray)).bind fun t302 => (if t302 = true then (some false) else ((policy_Check.f k t267 t270 t273 t276 t279).bind fun t303 => (if t303 = 0 then ((policy_Allowed.f k t267 t270 t273 t276 t279 ([] : List (S49))).bind fun t304 => (some t304)) else (some false))))) else (some false))))) else (some false))) else (some false)) else (some false)) else (some false)) else (some false))) = some true := H
 have A1 := Aside0.mk A10
 clear A10
 replace H := Option.bind_eq_some_iff.mp H
 obtain ⟨⟨t283, t286, t289, t292, t295, t296, t297⟩, A20, H⟩ := H
 replace H : (if t280 = 0 then (if t281 = 0 then (if t296 = 3 then (if t297 = 7 then ((policy_Element.f k t267 t270 t273 t276 t279 (⟨#[98]⟩ : ByteArray)).bind fun t299 => (if t299 = true then ((policy_Element.f k t267 t270 t273 t276 t279 (⟨#[105]⟩ : ByteArray)).bind fun t300 => (if t300 = true then (some false) else ((policy_Attr.f k t267 t270 t273 t276 t279 (⟨#[97]⟩ : ByteArray) (⟨#[104, 114, 101, 102]⟩ : ByteArray) (⟨#[47, 120]⟩ : ByteArray)).bind fun t301 => (if t301 = true then ((policy_Attr.f k t267 t270 t273 t276 t279 (⟨#[97]⟩ : ByteArray) (⟨#[104, 114, 101, 102]⟩ : ByteArray) (⟨#[104, 116, 116, 112, 58, 120]⟩ : ByteArray)).bind fun t302 => (if t302 = true then (some false) else ((policy_Check.f k t267 t270 t273 t276 t279).bind fun t303 => (if t303 = 0 then ((policy_Allowed.f k t267 t270 t273 t276 t279 ([] : List (S49))).bind fun t304 => (some t304)) else (some false))))) else (some false))))) else (some false))) else (some false)) else (some false)) else (some false)) else (some false)) = some true := H
 have A2 := Aside0.mk A20
 clear A20
 by_cases c3 : t280 = 0
 ·rw [if_pos c3] at H
  have c3b0 : (t280 == 0) = true := beq_iff_eq.mpr c3
  have c3b1 : (t280 != 0) = false := bne_eq_false_iff_eq.mpr c3
  clear c3
  by_cases c4 : t281 = 0
  ·rw [if_pos c4] at H
   have c4b0 : (t281 == 0) = true := beq_iff_eq.mpr c4
   have c4b1 : (t281 != 0) = false := bne_eq_false_iff_eq.mpr c4
   clear c4
   by_cases c5 : t296 = 3
   ·rw [if_pos c5] at H
    have c5b0 : (t296 == 3) = true := beq_iff_eq.mpr c5
    have c5b1 : (t296 != 3) = false := bne_eq_false_iff_eq.mpr c5
    clear c5
    by_cases c6 : t297 = 7
    ·rw [if_pos c6] at H
     have c6b0 : (t297 == 7) = true := beq_iff_eq.mpr c6
     have c6b1 : (t297 != 7) = false := bne_eq_false_iff_eq.mpr c6
     clear c6
     replace H := Option.bind_eq_some_iff.mp H
     obtain ⟨t299, A70, H⟩ := H
     replace H : (if t299 = true then ((policy_Element.f k t267 t270 t273 t276 t279 (⟨#[105]⟩ : ByteArray)).bind fun t300 => (if t300 = true then (some false) else ((policy_Attr.f k t267 t270 t273 t276 t279 (⟨#[97]⟩ : ByteArray) (⟨#[104, 114, 101, 102]⟩ : ByteArray) (⟨#[47, 120]⟩ : ByteArray)).bind fun t301 => (if t301 = true then ((policy_Attr.f k t267 t270 t273 t276 t279 (⟨#[97]⟩ : ByteArray) (⟨#[104, 114, 101, 102]⟩ : ByteArray) (⟨#[104, 116, 116, 112, 58, 120]⟩ : ByteArray)).bind fun t302 => (if t302 = true then (some false) else ((policy_Check.f k t267 t270 t273 t276 t279).bind fun t303 => (if t303 = 0 then ((policy_Allowed.f k t267 t270 t273 t276 t279 ([] : List (S49))).bind fun t304 => (some t304)) else (some false))))) else (some false))))) else (some false)) = some true := H
     have A7 := Aside0.mk A70
     clear A70
     by_cases c8 : t299 = true
     ·subst c8
      have H1 : ((policy_Element.f k t267 t270 t273 t276 t279 (⟨#[105]⟩ : ByteArray)).bind fun t300 => (if t300 = true then (some false) else ((policy_Attr.f k t267 t270 t273 t276 t279 (⟨#[97]⟩ : ByteArray) (⟨#[104, 114, 101, 102]⟩ : ByteArray) (⟨#[47, 120]⟩ : ByteArray)).bind fun t301 => (if t301 = true then ((policy_Attr.f k t267 t270 t273 t276 t279 (⟨#[97]⟩ : ByteArray) (⟨#[104, 114, 101, 102]⟩ : ByteArray) (⟨#[104, 116, 116, 112, 58, 120]⟩ : ByteArray)).bind fun t302 => (if t302 = true then (some false) else ((policy_Check.f k t267 t270 t273 t276 t279).bind fun t303 => (if t303 = 0 then ((policy_Allowed.f k t267 t270 t273 t276 t279 ([] : List (S49))).bind fun t304 => (some t304)) else (some false))))) else (some false))))) = some true := by rw [if_pos rfl] at H; exact H
      clear H
      have H := H1
      clear H1
      replace H := Option.bind_eq_some_iff.mp H
      obtain ⟨t300, A90, H⟩ := H
      replace H : (if t300 = true then (some false) else ((policy_Attr.f k t267 t270 t273 t276 t279 (⟨#[97]⟩ : ByteArray) (⟨#[104, 114, 101, 102]⟩ : ByteArray) (⟨#[47, 120]⟩ : ByteArray)).bind fun t301 => (if t301 = true then ((policy_Attr.f k t267 t270 t273 t276 t279 (⟨#[97]⟩ : ByteArray) (⟨#[104, 114, 101, 102]⟩ : ByteArray) (⟨#[104, 116, 116, 112, 58, 120]⟩ : ByteArray)).bind fun t302 => (if t302 = true then (some false) else ((policy_Check.f k t267 t270 t273 t276 t279).bind fun t303 => (if t303 = 0 then ((policy_Allowed.f k t267 t270 t273 t276 t279 ([] : List (S49))).bind fun t304 => (some t304)) else (some false))))) else (some false)))) = some true := H
      have A9 := Aside0.mk A90
      clear A90
      by_cases c10 : t300 = true
      ·subst c10
       have H1 : (some false) = some true := by rw [if_pos rfl] at H; exact H
       clear H
       have H := H1
       clear H1
       exact absurd H (by simp)
      replace c10 := Bool.eq_false_iff.mpr c10
      subst c10
      have H1 : ((policy_Attr.f k t267 t270 t273 t276 t279 (⟨#[97]⟩ : ByteArray) (⟨#[104, 114, 101, 102]⟩ : ByteArray) (⟨#[47, 120]⟩ : ByteArray)).bind fun t301 => (if t301 = true then ((policy_Attr.f k t267 t270 t273 t276 t279 (⟨#[97]⟩ : ByteArray) (⟨#[104, 114, 101, 102]⟩ : ByteArray) (⟨#[104, 116, 116, 112, 58, 120]⟩ : ByteArray)).bind fun t302 => (if t302 = true then (some false) else ((policy_Check.f k t267 t270 t273 t276 t279).bind fun t303 => (if t303 = 0 then ((policy_Allowed.f k t267 t270 t273 t276 t279 ([] : List (S49))).bind fun t304 => (some t304)) else (some false))))) else (some false))) = some true := by rw [if_neg (show ¬ (false = true) by decide)] at H; exact H
      clear H
      have H := H1
      clear H1
      replace H := Option.bind_eq_some_iff.mp H
      obtain ⟨t301, A300, H⟩ := H
      replace H : (if t301 = true then ((policy_Attr.f k t267 t270 t273 t276 t279 (⟨#[97]⟩ : ByteArray) (⟨#[104, 114, 101, 102]⟩ : ByteArray) (⟨#[104, 116, 116, 112, 58, 120]⟩ : ByteArray)).bind fun t302 => (if t302 = true then (some false) else ((policy_Check.f k t267 t270 t273 t276 t279).bind fun t303 => (if t303 = 0 then ((policy_Allowed.f k t267 t270 t273 t276 t279 ([] : List (S49))).bind fun t304 => (some t304)) else (some false))))) else (some false)) = some true := H
      have A30 := Aside0.mk A300
      clear A300
      by_cases c31 : t301 = true
      ·subst c31
       have H1 : ((policy_Attr.f k t267 t270 t273 t276 t279 (⟨#[97]⟩ : ByteArray) (⟨#[104, 114, 101, 102]⟩ : ByteArray) (⟨#[104, 116, 116, 112, 58, 120]⟩ : ByteArray)).bind fun t302 => (if t302 = true then (some false) else ((policy_Check.f k t267 t270 t273 t276 t279).bind fun t303 => (if t303 = 0 then ((policy_Allowed.f k t267 t270 t273 t276 t279 ([] : List (S49))).bind fun t304 => (some t304)) else (some false))))) = some true := by rw [if_pos rfl] at H; exact H
       clear H
       have H := H1
       clear H1
       replace H := Option.bind_eq_some_iff.mp H
       obtain ⟨t302, A320, H⟩ := H
       replace H : (if t302 = true then (some false) else ((policy_Check.f k t267 t270 t273 t276 t279).bind fun t303 => (if t303 = 0 then ((policy_Allowed.f k t267 t270 t273 t276 t279 ([] : List (S49))).bind fun t304 => (some t304)) else (some false)))) = some true := H
       have A32 := Aside0.mk A320
       clear A320
       by_cases c33 : t302 = true
       ·subst c33
        have H1 : (some false) = some true := by rw [if_pos rfl] at H; exact H
        clear H
        have H := H1
        clear H1
        exact absurd H (by simp)
       replace c33 := Bool.eq_false_iff.mpr c33
       subst c33
       have H1 : ((policy_Check.f k t267 t270 t273 t276 t279).bind fun t303 => (if t303 = 0 then ((policy_Allowed.f k t267 t270 t273 t276 t279 ([] : List (S49))).bind fun t304 => (some t304)) else (some false))) = some true := by rw [if_neg (show ¬ (false = true) by decide)] at H; exact H
       clear H
       have H := H1
       clear H1
       replace H := Option.bind_eq_some_iff.mp H
       obtain ⟨t303, A570, H⟩ := H
       replace H : (if t303 = 0 then ((policy_Allowed.f k t267 t270 t273 t276 t279 ([] : List (S49))).bind fun t304 => (some t304)) else (some false)) = some true := H
       have A57 := Aside0.mk A570
       clear A570
       by_cases c58 : t303 = 0
       ·rw [if_pos c58] at H
        have c58b0 : (t303 == 0) = true := beq_iff_eq.mpr c58
        have c58b1 : (t303 != 0) = false := bne_eq_false_iff_eq.mpr c58
        clear c58
        replace H := Option.bind_eq_some_iff.mp H
        obtain ⟨t304, A590, H⟩ := H
        replace H : (some t304) = some true := H
        have A59 := Aside0.mk A590
        clear A590
        have hq_ := Option.some.inj H
        clear H
        go_enter Tryd.func10, Tryd.ntmps10
        go_wp2_with (first | ((with_reducible refine gate_callee (f := 13) rfl ?_); refine goL (some 8) Tryd.func13 #[.string (⟨#[100, 101, 101, 112, 32, 51, 10, 101, 108, 101, 109, 101, 110, 116, 32, 98, 10, 101, 108, 101, 109, 101, 110, 116, 32, 97, 32, 104, 114, 101, 102, 10, 108, 105, 110, 107, 32, 104, 114, 101, 102, 10, 115, 99, 104, 101, 109, 101, 32, 104, 116, 116, 112, 115, 10]⟩ : ByteArray)] ?_; (with_reducible refine (policy_Parse.calls k (⟨#[100, 101, 101, 112, 32, 51, 10, 101, 108, 101, 109, 101, 110, 116, 32, 98, 10, 101, 108, 101, 109, 101, 110, 116, 32, 97, 32, 104, 114, 101, 102, 10, 108, 105, 110, 107, 32, 104, 114, 101, 102, 10, 115, 99, 104, 101, 109, 101, 32, 104, 116, 116, 112, 115, 10]⟩ : ByteArray) t267 t270 t273 t276 t279 t280 t281 _ m_ ?hmS A1.out).mono ?_); (case hmS => exact (pw_cell_below Bw HM.out)); rintro e w60 ⟨v268, v271, v274, v277, rfl, ho0, ho1, ho2, ho3, hb⟩; refine ⟨_, rfl, ?_⟩; replace HO269 := Aside0.mk (Kd.S_lower ho0 (below_size Bw)); replace HO272 := Aside0.mk (Kd.R_lower ho1 (below_size Bw)); replace HO275 := Aside0.mk (Kd.R_lower ho2 (below_size Bw)); replace HO278 := Aside0.mk (Kd.R_lower ho3 (below_size Bw)); replace HB := Bs hb; (try clear hb); (try clear hb2); (try clear hk); (try clear hi); (try clear ho0); (try clear ho1); (try clear ho2); (try clear ho3)) | ((with_reducible refine gate_dst (N := 1) rfl ?_); refine box_event ?hg (N := 1) ?hd (cs := #[.slice none 0 0, .slice none 0 0, .slice none 0 0, .slice none 0 0, .int .i64 0]) (t := 25) ?hr ?_; (case hd => rfl); (case hg => rfl); (case hr => first | (go_simp; done) | (go_simp; rfl)); intro gb282 hg w61 hbox hb; have n0_ := Aside0.mk (Kd.S_below (by (with_reducible repeat (first | apply Kd.S_alloc | apply Kd.S_drewN | apply Kd.S_drew)); exact HO269.out) hb); have n1_ := Aside0.mk (Kd.R_below (by (with_reducible repeat (first | apply Kd.R_alloc | apply Kd.R_drewN | apply Kd.R_drew)); exact HO272.out) hb); have n2_ := Aside0.mk (Kd.R_below (by (with_reducible repeat (first | apply Kd.R_alloc | apply Kd.R_drewN | apply Kd.R_drew)); exact HO275.out) hb); have n3_ := Aside0.mk (Kd.R_below (by (with_reducible repeat (first | apply Kd.R_alloc | apply Kd.R_drewN | apply Kd.R_drew)); exact HO278.out) hb); have n4_ := Bs hb; have n5_ := Aside0.mk (hbox); have n6_ := Aside0.mk (Gg hg); have n7_ := Aside0.mk (Gg hg); clear HO269; clear HO272; clear HO275; clear HO278; clear HB; have HO269 := n0_; have HO272 := n1_; have HO275 := n2_; have HO278 := n3_; have HB := n4_; have BK282 := n5_; have GW282 := n6_; have GE282 := n7_; clear n0_ n1_ n2_ n3_ n4_ n5_ n6_ n7_; clear hb hbox hg; obtain ⟨Ao62, co62, eo62⟩ := Kd.S_slice HO269.out; subst eo62; obtain ⟨hcz63_0, hcz63_1, hcz63_2, hcz63_3, hcz63_4, hfz63_0, hfz63_1, hfz63_2, hfz63_3, hfz63_4⟩ := cells5 BK282; obtain ⟨Ao64, co64, eo64⟩ := Kd.R_slice HO272.out; subst eo64; obtain ⟨Ao65, co65, eo65⟩ := Kd.R_slice HO275.out; subst eo65; obtain ⟨Ao66, co66, eo66⟩ := Kd.R_slice HO278.out; subst eo66) | ((with_reducible refine gate_callee (f := 13) rfl ?_); refine goL (some 13) Tryd.func13 #[.string (⟨#[100, 101, 101, 112, 32, 51, 10, 10, 100, 101, 101, 112, 32, 48, 51]⟩ : ByteArray)] ?_; (with_reducible refine (policy_Parse.calls k (⟨#[100, 101, 101, 112, 32, 51, 10, 10, 100, 101, 101, 112, 32, 48, 51]⟩ : ByteArray) t283 t286 t289 t292 t295 t296 t297 _ m_ ?hmS A2.out).mono ?_); (case hmS => exact (pw_cell_below Bw HM.out)); rintro e w67 ⟨v284, v287, v290, v293, rfl, ho0, ho1, ho2, ho3, hb⟩; refine ⟨_, rfl, ?_⟩; have n0_ := Aside0.mk (Kd.S_mono (Kd.S_told (Kd.S_told (Kd.S_told (Kd.S_told (Kd.S_old (by (with_reducible repeat (first | apply Kd.S_alloc | apply Kd.S_drewN | apply Kd.S_drew)); exact (Kd.S_mono (Kd.S_far (p := ⟨gb282, 4, none⟩) (Kd.S_far (p := ⟨gb282, 3, none⟩) (Kd.S_far (p := ⟨gb282, 2, none⟩) (Kd.S_far (p := ⟨gb282, 1, none⟩) (Kd.S_far (p := ⟨gb282, 0, none⟩) (Kd.S_types HO269.out BK282.out (by decide)) (fun _ hk => hk.2) (.slice Ao62 t267.length co62)) (fun _ hk => hk.2) (.slice Ao64 t270.length co64)) (fun _ hk => hk.2) (.slice Ao65 t273.length co65)) (fun _ hk => hk.2) (.slice Ao66 t276.length co66)) (fun _ hk => hk.2) (.int .i64 t279)) (fun _ h_ => h_.1))) hb) (Kd.S_base ho0)) (Kd.R_base ho1)) (Kd.R_base ho2)) (Kd.R_base ho3)) (fun _ h_ => h_.1)); have n1_ := Aside0.mk (Kd.R_mono (Kd.R_told (Kd.R_told (Kd.R_told (Kd.R_old (by (with_reducible repeat (first | apply Kd.R_alloc | apply Kd.R_drewN | apply Kd.R_drew)); exact (Kd.R_mono (Kd.R_far (p := ⟨gb282, 4, none⟩) (Kd.R_far (p := ⟨gb282, 3, none⟩) (Kd.R_far (p := ⟨gb282, 2, none⟩) (Kd.R_far (p := ⟨gb282, 1, none⟩) (Kd.R_far (p := ⟨gb282, 0, none⟩) (Kd.R_types HO272.out BK282.out (by decide)) (fun _ hk => hk.2) (.slice Ao62 t267.length co62)) (fun _ hk => hk.2) (.slice Ao64 t270.length co64)) (fun _ hk => hk.2) (.slice Ao65 t273.length co65)) (fun _ hk => hk.2) (.slice Ao66 t276.length co66)) (fun _ hk => hk.2) (.int .i64 t279)) (fun _ h_ => h_.1))) hb) (Kd.R_base ho1)) (Kd.R_base ho2)) (Kd.R_base ho3)) (fun _ h_ => h_.1)); have n2_ := Aside0.mk (Kd.R_mono (Kd.R_told (Kd.R_told (Kd.R_told (Kd.R_old (by (with_reducible repeat (first | apply Kd.R_alloc | apply Kd.R_drewN | apply Kd.R_drew)); exact (Kd.R_mono (Kd.R_far (p := ⟨gb282, 4, none⟩) (Kd.R_far (p := ⟨gb282, 3, none⟩) (Kd.R_far (p := ⟨gb282, 2, none⟩) (Kd.R_far (p := ⟨gb282, 1, none⟩) (Kd.R_far (p := ⟨gb282, 0, none⟩) (Kd.R_types HO275.out BK282.out (by decide)) (fun _ hk => hk.2) (.slice Ao62 t267.length co62)) (fun _ hk => hk.2) (.slice Ao64 t270.length co64)) (fun _ hk => hk.2) (.slice Ao65 t273.length co65)) (fun _ hk => hk.2) (.slice Ao66 t276.length co66)) (fun _ hk => hk.2) (.int .i64 t279)) (fun _ h_ => h_.1))) hb) (Kd.R_base ho1)) (Kd.R_base ho2)) (Kd.R_base ho3)) (fun _ h_ => h_.1)); have n3_ := Aside0.mk (Kd.R_mono (Kd.R_told (Kd.R_told (Kd.R_told (Kd.R_old (by (with_reducible repeat (first | apply Kd.R_alloc | apply Kd.R_drewN | apply Kd.R_drew)); exact (Kd.R_mono (Kd.R_far (p := ⟨gb282, 4, none⟩) (Kd.R_far (p := ⟨gb282, 3, none⟩) (Kd.R_far (p := ⟨gb282, 2, none⟩) (Kd.R_far (p := ⟨gb282, 1, none⟩) (Kd.R_far (p := ⟨gb282, 0, none⟩) (Kd.R_types HO278.out BK282.out (by decide)) (fun _ hk => hk.2) (.slice Ao62 t267.length co62)) (fun _ hk => hk.2) (.slice Ao64 t270.length co64)) (fun _ hk => hk.2) (.slice Ao65 t273.length co65)) (fun _ hk => hk.2) (.slice Ao66 t276.length co66)) (fun _ hk => hk.2) (.int .i64 t279)) (fun _ h_ => h_.1))) hb) (Kd.R_base ho1)) (Kd.R_base ho2)) (Kd.R_base ho3)) (fun _ h_ => h_.1)); have n4_ := Aside0.mk (Kd.S_lower (Kd.S_new' (Kd.S_new' (Kd.S_new' (Kd.S_new' ho0 (Kd.S_lt (by (with_reducible repeat (first | apply Kd.S_alloc | apply Kd.S_drewN | apply Kd.S_drew)); exact (Kd.S_mono (Kd.S_far (p := ⟨gb282, 4, none⟩) (Kd.S_far (p := ⟨gb282, 3, none⟩) (Kd.S_far (p := ⟨gb282, 2, none⟩) (Kd.S_far (p := ⟨gb282, 1, none⟩) (Kd.S_far (p := ⟨gb282, 0, none⟩) (Kd.S_types HO269.out BK282.out (by decide)) (fun _ hk => hk.2) (.slice Ao62 t267.length co62)) (fun _ hk => hk.2) (.slice Ao64 t270.length co64)) (fun _ hk => hk.2) (.slice Ao65 t273.length co65)) (fun _ hk => hk.2) (.slice Ao66 t276.length co66)) (fun _ hk => hk.2) (.int .i64 t279)) (fun _ h_ => h_.1))))) (Kd.R_lt (by (with_reducible repeat (first | apply Kd.R_alloc | apply Kd.R_drewN | apply Kd.R_drew)); exact (Kd.R_mono (Kd.R_far (p := ⟨gb282, 4, none⟩) (Kd.R_far (p := ⟨gb282, 3, none⟩) (Kd.R_far (p := ⟨gb282, 2, none⟩) (Kd.R_far (p := ⟨gb282, 1, none⟩) (Kd.R_far (p := ⟨gb282, 0, none⟩) (Kd.R_types HO272.out BK282.out (by decide)) (fun _ hk => hk.2) (.slice Ao62 t267.length co62)) (fun _ hk => hk.2) (.slice Ao64 t270.length co64)) (fun _ hk => hk.2) (.slice Ao65 t273.length co65)) (fun _ hk => hk.2) (.slice Ao66 t276.length co66)) (fun _ hk => hk.2) (.int .i64 t279)) (fun _ h_ => h_.1))))) (Kd.R_lt (by (with_reducible repeat (first | apply Kd.R_alloc | apply Kd.R_drewN | apply Kd.R_drew)); exact (Kd.R_mono (Kd.R_far (p := ⟨gb282, 4, none⟩) (Kd.R_far (p := ⟨gb282, 3, none⟩) (Kd.R_far (p := ⟨gb282, 2, none⟩) (Kd.R_far (p := ⟨gb282, 1, none⟩) (Kd.R_far (p := ⟨gb282, 0, none⟩) (Kd.R_types HO275.out BK282.out (by decide)) (fun _ hk => hk.2) (.slice Ao62 t267.length co62)) (fun _ hk => hk.2) (.slice Ao64 t270.length co64)) (fun _ hk => hk.2) (.slice Ao65 t273.length co65)) (fun _ hk => hk.2) (.slice Ao66 t276.length co66)) (fun _ hk => hk.2) (.int .i64 t279)) (fun _ h_ => h_.1))))) (Kd.R_lt (by (with_reducible repeat (first | apply Kd.R_alloc | apply Kd.R_drewN | apply Kd.R_drew)); exact (Kd.R_mono (Kd.R_far (p := ⟨gb282, 4, none⟩) (Kd.R_far (p := ⟨gb282, 3, none⟩) (Kd.R_far (p := ⟨gb282, 2, none⟩) (Kd.R_far (p := ⟨gb282, 1, none⟩) (Kd.R_far (p := ⟨gb282, 0, none⟩) (Kd.R_types HO278.out BK282.out (by decide)) (fun _ hk => hk.2) (.slice Ao62 t267.length co62)) (fun _ hk => hk.2) (.slice Ao64 t270.length co64)) (fun _ hk => hk.2) (.slice Ao65 t273.length co65)) (fun _ hk => hk.2) (.slice Ao66 t276.length co66)) (fun _ hk => hk.2) (.int .i64 t279)) (fun _ h_ => h_.1))))) (below_size Bw)); have n5_ := Aside0.mk (Kd.R_lower (Kd.R_new' (Kd.R_new' (Kd.R_new' ho1 (Kd.R_lt (by (with_reducible repeat (first | apply Kd.R_alloc | apply Kd.R_drewN | apply Kd.R_drew)); exact (Kd.R_mono (Kd.R_far (p := ⟨gb282, 4, none⟩) (Kd.R_far (p := ⟨gb282, 3, none⟩) (Kd.R_far (p := ⟨gb282, 2, none⟩) (Kd.R_far (p := ⟨gb282, 1, none⟩) (Kd.R_far (p := ⟨gb282, 0, none⟩) (Kd.R_types HO272.out BK282.out (by decide)) (fun _ hk => hk.2) (.slice Ao62 t267.length co62)) (fun _ hk => hk.2) (.slice Ao64 t270.length co64)) (fun _ hk => hk.2) (.slice Ao65 t273.length co65)) (fun _ hk => hk.2) (.slice Ao66 t276.length co66)) (fun _ hk => hk.2) (.int .i64 t279)) (fun _ h_ => h_.1))))) (Kd.R_lt (by (with_reducible repeat (first | apply Kd.R_alloc | apply Kd.R_drewN | apply Kd.R_drew)); exact (Kd.R_mono (Kd.R_far (p := ⟨gb282, 4, none⟩) (Kd.R_far (p := ⟨gb282, 3, none⟩) (Kd.R_far (p := ⟨gb282, 2, none⟩) (Kd.R_far (p := ⟨gb282, 1, none⟩) (Kd.R_far (p := ⟨gb282, 0, none⟩) (Kd.R_types HO275.out BK282.out (by decide)) (fun _ hk => hk.2) (.slice Ao62 t267.length co62)) (fun _ hk => hk.2) (.slice Ao64 t270.length co64)) (fun _ hk => hk.2) (.slice Ao65 t273.length co65)) (fun _ hk => hk.2) (.slice Ao66 t276.length co66)) (fun _ hk => hk.2) (.int .i64 t279)) (fun _ h_ => h_.1))))) (Kd.R_lt (by (with_reducible repeat (first | apply Kd.R_alloc | apply Kd.R_drewN | apply Kd.R_drew)); exact (Kd.R_mono (Kd.R_far (p := ⟨gb282, 4, none⟩) (Kd.R_far (p := ⟨gb282, 3, none⟩) (Kd.R_far (p := ⟨gb282, 2, none⟩) (Kd.R_far (p := ⟨gb282, 1, none⟩) (Kd.R_far (p := ⟨gb282, 0, none⟩) (Kd.R_types HO278.out BK282.out (by decide)) (fun _ hk => hk.2) (.slice Ao62 t267.length co62)) (fun _ hk => hk.2) (.slice Ao64 t270.length co64)) (fun _ hk => hk.2) (.slice Ao65 t273.length co65)) (fun _ hk => hk.2) (.slice Ao66 t276.length co66)) (fun _ hk => hk.2) (.int .i64 t279)) (fun _ h_ => h_.1))))) (below_size Bw)); have n6_ := Aside0.mk (Kd.R_lower (Kd.R_new' (Kd.R_new' (Kd.R_new' ho2 (Kd.R_lt (by (with_reducible repeat (first | apply Kd.R_alloc | apply Kd.R_drewN | apply Kd.R_drew)); exact (Kd.R_mono (Kd.R_far (p := ⟨gb282, 4, none⟩) (Kd.R_far (p := ⟨gb282, 3, none⟩) (Kd.R_far (p := ⟨gb282, 2, none⟩) (Kd.R_far (p := ⟨gb282, 1, none⟩) (Kd.R_far (p := ⟨gb282, 0, none⟩) (Kd.R_types HO272.out BK282.out (by decide)) (fun _ hk => hk.2) (.slice Ao62 t267.length co62)) (fun _ hk => hk.2) (.slice Ao64 t270.length co64)) (fun _ hk => hk.2) (.slice Ao65 t273.length co65)) (fun _ hk => hk.2) (.slice Ao66 t276.length co66)) (fun _ hk => hk.2) (.int .i64 t279)) (fun _ h_ => h_.1))))) (Kd.R_lt (by (with_reducible repeat (first | apply Kd.R_alloc | apply Kd.R_drewN | apply Kd.R_drew)); exact (Kd.R_mono (Kd.R_far (p := ⟨gb282, 4, none⟩) (Kd.R_far (p := ⟨gb282, 3, none⟩) (Kd.R_far (p := ⟨gb282, 2, none⟩) (Kd.R_far (p := ⟨gb282, 1, none⟩) (Kd.R_far (p := ⟨gb282, 0, none⟩) (Kd.R_types HO275.out BK282.out (by decide)) (fun _ hk => hk.2) (.slice Ao62 t267.length co62)) (fun _ hk => hk.2) (.slice Ao64 t270.length co64)) (fun _ hk => hk.2) (.slice Ao65 t273.length co65)) (fun _ hk => hk.2) (.slice Ao66 t276.length co66)) (fun _ hk => hk.2) (.int .i64 t279)) (fun _ h_ => h_.1))))) (Kd.R_lt (by (with_reducible repeat (first | apply Kd.R_alloc | apply Kd.R_drewN | apply Kd.R_drew)); exact (Kd.R_mono (Kd.R_far (p := ⟨gb282, 4, none⟩) (Kd.R_far (p := ⟨gb282, 3, none⟩) (Kd.R_far (p := ⟨gb282, 2, none⟩) (Kd.R_far (p := ⟨gb282, 1, none⟩) (Kd.R_far (p := ⟨gb282, 0, none⟩) (Kd.R_types HO278.out BK282.out (by decide)) (fun _ hk => hk.2) (.slice Ao62 t267.length co62)) (fun _ hk => hk.2) (.slice Ao64 t270.length co64)) (fun _ hk => hk.2) (.slice Ao65 t273.length co65)) (fun _ hk => hk.2) (.slice Ao66 t276.length co66)) (fun _ hk => hk.2) (.int .i64 t279)) (fun _ h_ => h_.1))))) (below_size Bw)); have n7_ := Aside0.mk (Kd.R_lower (Kd.R_new' (Kd.R_new' (Kd.R_new' ho3 (Kd.R_lt (by (with_reducible repeat (first | apply Kd.R_alloc | apply Kd.R_drewN | apply Kd.R_drew)); exact (Kd.R_mono (Kd.R_far (p := ⟨gb282, 4, none⟩) (Kd.R_far (p := ⟨gb282, 3, none⟩) (Kd.R_far (p := ⟨gb282, 2, none⟩) (Kd.R_far (p := ⟨gb282, 1, none⟩) (Kd.R_far (p := ⟨gb282, 0, none⟩) (Kd.R_types HO272.out BK282.out (by decide)) (fun _ hk => hk.2) (.slice Ao62 t267.length co62)) (fun _ hk => hk.2) (.slice Ao64 t270.length co64)) (fun _ hk => hk.2) (.slice Ao65 t273.length co65)) (fun _ hk => hk.2) (.slice Ao66 t276.length co66)) (fun _ hk => hk.2) (.int .i64 t279)) (fun _ h_ => h_.1))))) (Kd.R_lt (by (with_reducible repeat (first | apply Kd.R_alloc | apply Kd.R_drewN | apply Kd.R_drew)); exact (Kd.R_mono (Kd.R_far (p := ⟨gb282, 4, none⟩) (Kd.R_far (p := ⟨gb282, 3, none⟩) (Kd.R_far (p := ⟨gb282, 2, none⟩) (Kd.R_far (p := ⟨gb282, 1, none⟩) (Kd.R_far (p := ⟨gb282, 0, none⟩) (Kd.R_types HO275.out BK282.out (by decide)) (fun _ hk => hk.2) (.slice Ao62 t267.length co62)) (fun _ hk => hk.2) (.slice Ao64 t270.length co64)) (fun _ hk => hk.2) (.slice Ao65 t273.length co65)) (fun _ hk => hk.2) (.slice Ao66 t276.length co66)) (fun _ hk => hk.2) (.int .i64 t279)) (fun _ h_ => h_.1))))) (Kd.R_lt (by (with_reducible repeat (first | apply Kd.R_alloc | apply Kd.R_drewN | apply Kd.R_drew)); exact (Kd.R_mono (Kd.R_far (p := ⟨gb282, 4, none⟩) (Kd.R_far (p := ⟨gb282, 3, none⟩) (Kd.R_far (p := ⟨gb282, 2, none⟩) (Kd.R_far (p := ⟨gb282, 1, none⟩) (Kd.R_far (p := ⟨gb282, 0, none⟩) (Kd.R_types HO278.out BK282.out (by decide)) (fun _ hk => hk.2) (.slice Ao62 t267.length co62)) (fun _ hk => hk.2) (.slice Ao64 t270.length co64)) (fun _ hk => hk.2) (.slice Ao65 t273.length co65)) (fun _ hk => hk.2) (.slice Ao66 t276.length co66)) (fun _ hk => hk.2) (.int .i64 t279)) (fun _ h_ => h_.1))))) (below_size Bw)); have n8_ := Aside0.mk (blk_below (g := gb282) (o := .cells #[.slice Ao62 t267.length co62, .slice Ao64 t270.length co64, .slice Ao65 t273.length co65, .slice Ao66 t276.length co66, .int .i64 t279] 25 (0, 0)) (by (with_reducible repeat (first | refine blk_drewN ?_ _ | refine blk_drew ?_ | refine blk_alloc ?_ _)); refine blk_put (cs := #[.slice Ao62 t267.length co62, .slice Ao64 t270.length co64, .slice Ao65 t273.length co65, .slice Ao66 t276.length co66, .int .i64 0]) ?_ 4 _ rfl; (with_reducible repeat (first | refine blk_drewN ?_ _ | refine blk_drew ?_ | refine blk_alloc ?_ _)); refine blk_put (cs := #[.slice Ao62 t267.length co62, .slice Ao64 t270.length co64, .slice Ao65 t273.length co65, .slice none 0 0, .int .i64 0]) ?_ 3 _ rfl; (with_reducible repeat (first | refine blk_drewN ?_ _ | refine blk_drew ?_ | refine blk_alloc ?_ _)); refine blk_put (cs := #[.slice Ao62 t267.length co62, .slice Ao64 t270.length co64, .slice none 0 0, .slice none 0 0, .int .i64 0]) ?_ 2 _ rfl; (with_reducible repeat (first | refine blk_drewN ?_ _ | refine blk_drew ?_ | refine blk_alloc ?_ _)); refine blk_put (cs := #[.slice Ao62 t267.length co62, .slice none 0 0, .slice none 0 0, .slice none 0 0, .int .i64 0]) ?_ 1 _ rfl; (with_reducible repeat (first | refine blk_drewN ?_ _ | refine blk_drew ?_ | refine blk_alloc ?_ _)); refine blk_put (cs := #[.slice none 0 0, .slice none 0 0, .slice none 0 0, .slice none 0 0, .int .i64 0]) ?_ 0 _ rfl; (with_reducible repeat (first | refine blk_drewN ?_ _ | refine blk_drew ?_ | refine blk_alloc ?_ _)); exact BK282.out) hb); have n9_ := Bs hb; clear HO269; clear HO272; clear HO275; clear HO278; clear BK282; clear HB; have HO269 := n0_; have HO272 := n1_; have HO275 := n2_; have HO278 := n3_; have HO285 := n4_; have HO288 := n5_; have HO291 := n6_; have HO294 := n7_; have BK282 := n8_; have HB := n9_; clear n0_ n1_ n2_ n3_ n4_ n5_ n6_ n7_ n8_ n9_; (try clear hb); (try clear hb2); (try clear hk); (try clear hi); (try clear ho0); (try clear ho1); (try clear ho2); (try clear ho3)) | ((with_reducible refine gate_dst (N := 4) rfl ?_); refine box_event ?hg (N := 4) ?hd (cs := #[.slice none 0 0, .slice none 0 0, .slice none 0 0, .slice none 0 0, .int .i64 0]) (t := 25) ?hr ?_; (case hd => rfl); (case hg => rfl); (case hr => first | (go_simp; done) | (go_simp; rfl)); intro gb298 hg w68 hbox hb; have n0_ := Aside0.mk (Kd.S_below (by (with_reducible repeat (first | apply Kd.S_alloc | apply Kd.S_drewN | apply Kd.S_drew)); exact HO269.out) hb); have n1_ := Aside0.mk (Kd.R_below (by (with_reducible repeat (first | apply Kd.R_alloc | apply Kd.R_drewN | apply Kd.R_drew)); exact HO272.out) hb); have n2_ := Aside0.mk (Kd.R_below (by (with_reducible repeat (first | apply Kd.R_alloc | apply Kd.R_drewN | apply Kd.R_drew)); exact HO275.out) hb); have n3_ := Aside0.mk (Kd.R_below (by (with_reducible repeat (first | apply Kd.R_alloc | apply Kd.R_drewN | apply Kd.R_drew)); exact HO278.out) hb); have n4_ := Aside0.mk (Kd.S_below (by (with_reducible repeat (first | apply Kd.S_alloc | apply Kd.S_drewN | apply Kd.S_drew)); exact HO285.out) hb); have n5_ := Aside0.mk (Kd.R_below (by (with_reducible repeat (first | apply Kd.R_alloc | apply Kd.R_drewN | apply Kd.R_drew)); exact HO288.out) hb); have n6_ := Aside0.mk (Kd.R_below (by (with_reducible repeat (first | apply Kd.R_alloc | apply Kd.R_drewN | apply Kd.R_drew)); exact HO291.out) hb); have n7_ := Aside0.mk (Kd.R_below (by (with_reducible repeat (first | apply Kd.R_alloc | apply Kd.R_drewN | apply Kd.R_drew)); exact HO294.out) hb); have n8_ := Bb BK282 hb; have n9_ := Bs hb; have n10_ := Aside0.mk (hbox); have n11_ := Aside0.mk (Gg hg); have n12_ := Aside0.mk (Gg hg); have n13_ := Aside0.mk ((by rw [hg]; exact Nat.ne_of_lt (blk_lt (g := gb282) (o := .cells #[.slice Ao62 t267.length co62, .slice Ao64 t270.length co64, .slice Ao65 t273.length co65, .slice Ao66 t276.length co66, .int .i64 t279] 25 (0, 0)) (Bk BK282)) : gb282 ≠ gb298)); have n14_ := Aside0.mk ((by rw [hg]; exact Nat.ne_of_gt (blk_lt (g := gb282) (o := .cells #[.slice Ao62 t267.length co62, .slice Ao64 t270.length co64, .slice Ao65 t273.length co65, .slice Ao66 t276.length co66, .int .i64 t279] 25 (0, 0)) (Bk BK282)) : gb298 ≠ gb282)); clear HO269; clear HO272; clear HO275; clear HO278; clear HO285; clear HO288; clear HO291; clear HO294; clear BK282; clear HB; have HO269 := n0_; have HO272 := n1_; have HO275 := n2_; have HO278 := n3_; have HO285 := n4_; have HO288 := n5_; have HO291 := n6_; have HO294 := n7_; have BK282 := n8_; have HB := n9_; have BK298 := n10_; have GW298 := n11_; have GE298 := n12_; have NB282_298 := n13_; have NB298_282 := n14_; clear n0_ n1_ n2_ n3_ n4_ n5_ n6_ n7_ n8_ n9_ n10_ n11_ n12_ n13_ n14_; clear hb hbox hg; obtain ⟨Ao69, co69, eo69⟩ := Kd.S_slice HO285.out; subst eo69; have hnb70 := NB298_282.out; have hnc70 := NB282_298.out; obtain ⟨hcz71_0, hcz71_1, hcz71_2, hcz71_3, hcz71_4, hfz71_0, hfz71_1, hfz71_2, hfz71_3, hfz71_4⟩ := cells5 BK298; obtain ⟨Ao72, co72, eo72⟩ := Kd.R_slice HO288.out; subst eo72; obtain ⟨Ao73, co73, eo73⟩ := Kd.R_slice HO291.out; subst eo73; obtain ⟨Ao74, co74, eo74⟩ := Kd.R_slice HO294.out; subst eo74; obtain ⟨hcz75_0, hcz75_1, hcz75_2, hcz75_3, hcz75_4, hfz75_0, hfz75_1, hfz75_2, hfz75_3, hfz75_4⟩ := cells5 BK282) | (go_at_call 16; (with_reducible refine (policy_Element.calls k _ _ t267 _ _ t270 _ _ t273 _ _ t276 t279 (⟨#[98]⟩ : ByteArray) true _ ?side1 ?side2 ?side3 ?side4 ?side5 ?side6 ?side7 ?side8 A7.out).mono ?_); (case side1 => refine (Kd.S_reads' (e := 53) (base := w.heap.size) (ok := fun k_ => (((((some k_ ≠ (.slice Ao64 t270.length co64 : Value).ownBlock ∧ (some k_ ≠ (.slice Ao65 t273.length co65 : Value).ownBlock ∧ some k_ ≠ (.slice Ao66 t276.length co66 : Value).ownBlock)) ∧ some k_ ≠ (.slice Ao69 t283.length co69 : Value).ownBlock) ∧ some k_ ≠ (.slice Ao72 t286.length co72 : Value).ownBlock) ∧ some k_ ≠ (.slice Ao73 t289.length co73 : Value).ownBlock) ∧ some k_ ≠ (.slice Ao74 t292.length co74 : Value).ownBlock)) (n := t267.length) (c := co62) ?_).2.2; exact (by (with_reducible repeat (first | apply Kd.S_alloc | apply Kd.S_drewN | apply Kd.S_drew)); exact (Kd.S_mono (Kd.S_far (p := ⟨gb298, 4, none⟩) (Kd.S_far (p := ⟨gb298, 3, none⟩) (Kd.S_far (p := ⟨gb298, 2, none⟩) (Kd.S_far (p := ⟨gb298, 1, none⟩) (Kd.S_far (p := ⟨gb298, 0, none⟩) (Kd.S_types HO269.out BK298.out (by decide)) (fun _ hk => hk.2) (.slice Ao69 t283.length co69)) (fun _ hk => hk.2) (.slice Ao72 t286.length co72)) (fun _ hk => hk.2) (.slice Ao73 t289.length co73)) (fun _ hk => hk.2) (.slice Ao74 t292.length co74)) (fun _ hk => hk.2) (.int .i64 t295)) (fun _ h_ => h_.1)))); (case side2 => exact (Kd.S_reads' HO269.out).2.1); (case side3 => refine (Kd.R_reads' (e := 9) (base := w.heap.size) (ok := fun k_ => ((((some k_ ≠ (.slice Ao65 t273.length co65 : Value).ownBlock ∧ some k_ ≠ (.slice Ao66 t276.length co66 : Value).ownBlock) ∧ some k_ ≠ (.slice Ao72 t286.length co72 : Value).ownBlock) ∧ some k_ ≠ (.slice Ao73 t289.length co73 : Value).ownBlock) ∧ some k_ ≠ (.slice Ao74 t292.length co74 : Value).ownBlock)) (n := t270.length) (c := co64) ?_).2.2; exact (by (with_reducible repeat (first | apply Kd.R_alloc | apply Kd.R_drewN | apply Kd.R_drew)); exact (Kd.R_mono (Kd.R_far (p := ⟨gb298, 4, none⟩) (Kd.R_far (p := ⟨gb298, 3, none⟩) (Kd.R_far (p := ⟨gb298, 2, none⟩) (Kd.R_far (p := ⟨gb298, 1, none⟩) (Kd.R_far (p := ⟨gb298, 0, none⟩) (Kd.R_types HO272.out BK298.out (by decide)) (fun _ hk => hk.2) (.slice Ao69 t283.length co69)) (fun _ hk => hk.2) (.slice Ao72 t286.length co72)) (fun _ hk => hk.2) (.slice Ao73 t289.length co73)) (fun _ hk => hk.2) (.slice Ao74 t292.length co74)) (fun _ hk => hk.2) (.int .i64 t295)) (fun _ h_ => h_.1)))); (case side4 => exact (Kd.R_reads' HO272.out).2.1); (case side5 => refine (Kd.R_reads' (e := 9) (base := w.heap.size) (ok := fun k_ => ((((some k_ ≠ (.slice Ao64 t270.length co64 : Value).ownBlock ∧ some k_ ≠ (.slice Ao66 t276.length co66 : Value).ownBlock) ∧ some k_ ≠ (.slice Ao72 t286.length co72 : Value).ownBlock) ∧ some k_ ≠ (.slice Ao73 t289.length co73 : Value).ownBlock) ∧ some k_ ≠ (.slice Ao74 t292.length co74 : Value).ownBlock)) (n := t273.length) (c := co65) ?_).2.2; exact (by (with_reducible repeat (first | apply Kd.R_alloc | apply Kd.R_drewN | apply Kd.R_drew)); exact (Kd.R_mono (Kd.R_far (p := ⟨gb298, 4, none⟩) (Kd.R_far (p := ⟨gb298, 3, none⟩) (Kd.R_far (p := ⟨gb298, 2, none⟩) (Kd.R_far (p := ⟨gb298, 1, none⟩) (Kd.R_far (p := ⟨gb298, 0, none⟩) (Kd.R_types HO275.out BK298.out (by decide)) (fun _ hk => hk.2) (.slice Ao69 t283.length co69)) (fun _ hk => hk.2) (.slice Ao72 t286.length co72)) (fun _ hk => hk.2) (.slice Ao73 t289.length co73)) (fun _ hk => hk.2) (.slice Ao74 t292.length co74)) (fun _ hk => hk.2) (.int .i64 t295)) (fun _ h_ => h_.1)))); (case side6 => exact (Kd.R_reads' HO275.out).2.1); (case side7 => refine (Kd.R_reads' (e := 9) (base := w.heap.size) (ok := fun k_ => ((((some k_ ≠ (.slice Ao64 t270.length co64 : Value).ownBlock ∧ some k_ ≠ (.slice Ao65 t273.length co65 : Value).ownBlock) ∧ some k_ ≠ (.slice Ao72 t286.length co72 : Value).ownBlock) ∧ some k_ ≠ (.slice Ao73 t289.length co73 : Value).ownBlock) ∧ some k_ ≠ (.slice Ao74 t292.length co74 : Value).ownBlock)) (n := t276.length) (c := co66) ?_).2.2; exact (by (with_reducible repeat (first | apply Kd.R_alloc | apply Kd.R_drewN | apply Kd.R_drew)); exact (Kd.R_mono (Kd.R_far (p := ⟨gb298, 4, none⟩) (Kd.R_far (p := ⟨gb298, 3, none⟩) (Kd.R_far (p := ⟨gb298, 2, none⟩) (Kd.R_far (p := ⟨gb298, 1, none⟩) (Kd.R_far (p := ⟨gb298, 0, none⟩) (Kd.R_types HO278.out BK298.out (by decide)) (fun _ hk => hk.2) (.slice Ao69 t283.length co69)) (fun _ hk => hk.2) (.slice Ao72 t286.length co72)) (fun _ hk => hk.2) (.slice Ao73 t289.length co73)) (fun _ hk => hk.2) (.slice Ao74 t292.length co74)) (fun _ hk => hk.2) (.int .i64 t295)) (fun _ h_ => h_.1)))); (case side8 => exact (Kd.R_reads' HO278.out).2.1); rintro e w76 ⟨rfl, hb⟩; have n0_ := Aside0.mk (Kd.S_below (by (with_reducible repeat (first | apply Kd.S_alloc | apply Kd.S_drewN | apply Kd.S_drew)); exact (Kd.S_mono (Kd.S_far (p := ⟨gb298, 4, none⟩) (Kd.S_far (p := ⟨gb298, 3, none⟩) (Kd.S_far (p := ⟨gb298, 2, none⟩) (Kd.S_far (p := ⟨gb298, 1, none⟩) (Kd.S_far (p := ⟨gb298, 0, none⟩) (Kd.S_types HO269.out BK298.out (by decide)) (fun _ hk => hk.2) (.slice Ao69 t283.length co69)) (fun _ hk => hk.2) (.slice Ao72 t286.length co72)) (fun _ hk => hk.2) (.slice Ao73 t289.length co73)) (fun _ hk => hk.2) (.slice Ao74 t292.length co74)) (fun _ hk => hk.2) (.int .i64 t295)) (fun _ h_ => h_.1))) hb); have n1_ := Aside0.mk (Kd.R_below (by (with_reducible repeat (first | apply Kd.R_alloc | apply Kd.R_drewN | apply Kd.R_drew)); exact (Kd.R_mono (Kd.R_far (p := ⟨gb298, 4, none⟩) (Kd.R_far (p := ⟨gb298, 3, none⟩) (Kd.R_far (p := ⟨gb298, 2, none⟩) (Kd.R_far (p := ⟨gb298, 1, none⟩) (Kd.R_far (p := ⟨gb298, 0, none⟩) (Kd.R_types HO272.out BK298.out (by decide)) (fun _ hk => hk.2) (.slice Ao69 t283.length co69)) (fun _ hk => hk.2) (.slice Ao72 t286.length co72)) (fun _ hk => hk.2) (.slice Ao73 t289.length co73)) (fun _ hk => hk.2) (.slice Ao74 t292.length co74)) (fun _ hk => hk.2) (.int .i64 t295)) (fun _ h_ => h_.1))) hb); have n2_ := Aside0.mk (Kd.R_below (by (with_reducible repeat (first | apply Kd.R_alloc | apply Kd.R_drewN | apply Kd.R_drew)); exact (Kd.R_mono (Kd.R_far (p := ⟨gb298, 4, none⟩) (Kd.R_far (p := ⟨gb298, 3, none⟩) (Kd.R_far (p := ⟨gb298, 2, none⟩) (Kd.R_far (p := ⟨gb298, 1, none⟩) (Kd.R_far (p := ⟨gb298, 0, none⟩) (Kd.R_types HO275.out BK298.out (by decide)) (fun _ hk => hk.2) (.slice Ao69 t283.length co69)) (fun _ hk => hk.2) (.slice Ao72 t286.length co72)) (fun _ hk => hk.2) (.slice Ao73 t289.length co73)) (fun _ hk => hk.2) (.slice Ao74 t292.length co74)) (fun _ hk => hk.2) (.int .i64 t295)) (fun _ h_ => h_.1))) hb); have n3_ := Aside0.mk (Kd.R_below (by (with_reducible repeat (first | apply Kd.R_alloc | apply Kd.R_drewN | apply Kd.R_drew)); exact (Kd.R_mono (Kd.R_far (p := ⟨gb298, 4, none⟩) (Kd.R_far (p := ⟨gb298, 3, none⟩) (Kd.R_far (p := ⟨gb298, 2, none⟩) (Kd.R_far (p := ⟨gb298, 1, none⟩) (Kd.R_far (p := ⟨gb298, 0, none⟩) (Kd.R_types HO278.out BK298.out (by decide)) (fun _ hk => hk.2) (.slice Ao69 t283.length co69)) (fun _ hk => hk.2) (.slice Ao72 t286.length co72)) (fun _ hk => hk.2) (.slice Ao73 t289.length co73)) (fun _ hk => hk.2) (.slice Ao74 t292.length co74)) (fun _ hk => hk.2) (.int .i64 t295)) (fun _ h_ => h_.1))) hb); have n4_ := Aside0.mk (Kd.S_below (by (with_reducible repeat (first | apply Kd.S_alloc | apply Kd.S_drewN | apply Kd.S_drew)); exact (Kd.S_mono (Kd.S_far (p := ⟨gb298, 4, none⟩) (Kd.S_far (p := ⟨gb298, 3, none⟩) (Kd.S_far (p := ⟨gb298, 2, none⟩) (Kd.S_far (p := ⟨gb298, 1, none⟩) (Kd.S_far (p := ⟨gb298, 0, none⟩) (Kd.S_types HO285.out BK298.out (by decide)) (fun _ hk => hk.2) (.slice Ao69 t283.length co69)) (fun _ hk => hk.2) (.slice Ao72 t286.length co72)) (fun _ hk => hk.2) (.slice Ao73 t289.length co73)) (fun _ hk => hk.2) (.slice Ao74 t292.length co74)) (fun _ hk => hk.2) (.int .i64 t295)) (fun _ h_ => h_.1))) hb); have n5_ := Aside0.mk (Kd.R_below (by (with_reducible repeat (first | apply Kd.R_alloc | apply Kd.R_drewN | apply Kd.R_drew)); exact (Kd.R_mono (Kd.R_far (p := ⟨gb298, 4, none⟩) (Kd.R_far (p := ⟨gb298, 3, none⟩) (Kd.R_far (p := ⟨gb298, 2, none⟩) (Kd.R_far (p := ⟨gb298, 1, none⟩) (Kd.R_far (p := ⟨gb298, 0, none⟩) (Kd.R_types HO288.out BK298.out (by decide)) (fun _ hk => hk.2) (.slice Ao69 t283.length co69)) (fun _ hk => hk.2) (.slice Ao72 t286.length co72)) (fun _ hk => hk.2) (.slice Ao73 t289.length co73)) (fun _ hk => hk.2) (.slice Ao74 t292.length co74)) (fun _ hk => hk.2) (.int .i64 t295)) (fun _ h_ => h_.1))) hb); have n6_ := Aside0.mk (Kd.R_below (by (with_reducible repeat (first | apply Kd.R_alloc | apply Kd.R_drewN | apply Kd.R_drew)); exact (Kd.R_mono (Kd.R_far (p := ⟨gb298, 4, none⟩) (Kd.R_far (p := ⟨gb298, 3, none⟩) (Kd.R_far (p := ⟨gb298, 2, none⟩) (Kd.R_far (p := ⟨gb298, 1, none⟩) (Kd.R_far (p := ⟨gb298, 0, none⟩) (Kd.R_types HO291.out BK298.out (by decide)) (fun _ hk => hk.2) (.slice Ao69 t283.length co69)) (fun _ hk => hk.2) (.slice Ao72 t286.length co72)) (fun _ hk => hk.2) (.slice Ao73 t289.length co73)) (fun _ hk => hk.2) (.slice Ao74 t292.length co74)) (fun _ hk => hk.2) (.int .i64 t295)) (fun _ h_ => h_.1))) hb); have n7_ := Aside0.mk (Kd.R_below (by (with_reducible repeat (first | apply Kd.R_alloc | apply Kd.R_drewN | apply Kd.R_drew)); exact (Kd.R_mono (Kd.R_far (p := ⟨gb298, 4, none⟩) (Kd.R_far (p := ⟨gb298, 3, none⟩) (Kd.R_far (p := ⟨gb298, 2, none⟩) (Kd.R_far (p := ⟨gb298, 1, none⟩) (Kd.R_far (p := ⟨gb298, 0, none⟩) (Kd.R_types HO294.out BK298.out (by decide)) (fun _ hk => hk.2) (.slice Ao69 t283.length co69)) (fun _ hk => hk.2) (.slice Ao72 t286.length co72)) (fun _ hk => hk.2) (.slice Ao73 t289.length co73)) (fun _ hk => hk.2) (.slice Ao74 t292.length co74)) (fun _ hk => hk.2) (.int .i64 t295)) (fun _ h_ => h_.1))) hb); have n8_ := Aside0.mk (blk_below (g := gb282) (o := .cells #[.slice Ao62 t267.length co62, .slice Ao64 t270.length co64, .slice Ao65 t273.length co65, .slice Ao66 t276.length co66, .int .i64 t279] 25 (0, 0)) (by (with_reducible repeat (first | refine blk_drewN ?_ _ | refine blk_drew ?_ | refine blk_alloc ?_ _)); refine blk_far ?_ NB282_298.out _; (with_reducible repeat (first | refine blk_drewN ?_ _ | refine blk_drew ?_ | refine blk_alloc ?_ _)); refine blk_far ?_ NB282_298.out _; (with_reducible repeat (first | refine blk_drewN ?_ _ | refine blk_drew ?_ | refine blk_alloc ?_ _)); refine blk_far ?_ NB282_298.out _; (with_reducible repeat (first | refine blk_drewN ?_ _ | refine blk_drew ?_ | refine blk_alloc ?_ _)); refine blk_far ?_ NB282_298.out _; (with_reducible repeat (first | refine blk_drewN ?_ _ | refine blk_drew ?_ | refine blk_alloc ?_ _)); refine blk_far ?_ NB282_298.out _; (with_reducible repeat (first | refine blk_drewN ?_ _ | refine blk_drew ?_ | refine blk_alloc ?_ _)); exact BK282.out) hb); have n9_ := Aside0.mk (blk_below (g := gb298) (o := .cells #[.slice Ao69 t283.length co69, .slice Ao72 t286.length co72, .slice Ao73 t289.length co73, .slice Ao74 t292.length co74, .int .i64 t295] 25 (0, 0)) (by (with_reducible repeat (first | refine blk_drewN ?_ _ | refine blk_drew ?_ | refine blk_alloc ?_ _)); refine blk_put (cs := #[.slice Ao69 t283.length co69, .slice Ao72 t286.length co72, .slice Ao73 t289.length co73, .slice Ao74 t292.length co74, .int .i64 0]) ?_ 4 _ rfl; (with_reducible repeat (first | refine blk_drewN ?_ _ | refine blk_drew ?_ | refine blk_alloc ?_ _)); refine blk_put (cs := #[.slice Ao69 t283.length co69, .slice Ao72 t286.length co72, .slice Ao73 t289.length co73, .slice none 0 0, .int .i64 0]) ?_ 3 _ rfl; (with_reducible repeat (first | refine blk_drewN ?_ _ | refine blk_drew ?_ | refine blk_alloc ?_ _)); refine blk_put (cs := #[.slice Ao69 t283.length co69, .slice Ao72 t286.length co72, .slice none 0 0, .slice none 0 0, .int .i64 0]) ?_ 2 _ rfl; (with_reducible repeat (first | refine blk_drewN ?_ _ | refine blk_drew ?_ | refine blk_alloc ?_ _)); refine blk_put (cs := #[.slice Ao69 t283.length co69, .slice none 0 0, .slice none 0 0, .slice none 0 0, .int .i64 0]) ?_ 1 _ rfl; (with_reducible repeat (first | refine blk_drewN ?_ _ | refine blk_drew ?_ | refine blk_alloc ?_ _)); refine blk_put (cs := #[.slice none 0 0, .slice none 0 0, .slice none 0 0, .slice none 0 0, .int .i64 0]) ?_ 0 _ rfl; (with_reducible repeat (first | refine blk_drewN ?_ _ | refine blk_drew ?_ | refine blk_alloc ?_ _)); exact BK298.out) hb); have n10_ := Bs hb; clear HO269; clear HO272; clear HO275; clear HO278; clear HO285; clear HO288; clear HO291; clear HO294; clear BK282; clear BK298; clear HB; have HO269 := n0_; have HO272 := n1_; have HO275 := n2_; have HO278 := n3_; have HO285 := n4_; have HO288 := n5_; have HO291 := n6_; have HO294 := n7_; have BK282 := n8_; have BK298 := n9_; have HB := n10_; clear n0_ n1_ n2_ n3_ n4_ n5_ n6_ n7_ n8_ n9_ n10_; (try clear hb); (try clear hb2); (try clear hk); (try clear hi); obtain ⟨hcz77_0, hcz77_1, hcz77_2, hcz77_3, hcz77_4, hfz77_0, hfz77_1, hfz77_2, hfz77_3, hfz77_4⟩ := cells5 BK282) | (go_at_call 16; (with_reducible refine (policy_Element.calls k _ _ t267 _ _ t270 _ _ t273 _ _ t276 t279 (⟨#[105]⟩ : ByteArray) false _ ?side1 ?side2 ?side3 ?side4 ?side5 ?side6 ?side7 ?side8 A9.out).mono ?_); (case side1 => repeat (first | exact (Kd.S_reads' HO269.out).2.2 | (with_reducible refine Kd.C_alloc ?_ _) | (with_reducible refine Kd.C_drewN ?_ _) | (with_reducible refine Kd.C_drew ?_))); (case side2 => exact (Kd.S_reads' HO269.out).2.1); (case side3 => repeat (first | exact (Kd.R_reads' HO272.out).2.2 | (with_reducible refine Kd.C_alloc ?_ _) | (with_reducible refine Kd.C_drewN ?_ _) | (with_reducible refine Kd.C_drew ?_))); (case side4 => exact (Kd.R_reads' HO272.out).2.1); (case side5 => repeat (first | exact (Kd.R_reads' HO275.out).2.2 | (with_reducible refine Kd.C_alloc ?_ _) | (with_reducible refine Kd.C_drewN ?_ _) | (with_reducible refine Kd.C_drew ?_))); (case side6 => exact (Kd.R_reads' HO275.out).2.1); (case side7 => repeat (first | exact (Kd.R_reads' HO278.out).2.2 | (with_reducible refine Kd.C_alloc ?_ _) | (with_reducible refine Kd.C_drewN ?_ _) | (with_reducible refine Kd.C_drew ?_))); (case side8 => exact (Kd.R_reads' HO278.out).2.1); rintro e w78 ⟨rfl, hb⟩; have n0_ := Aside0.mk (Kd.S_below (by (with_reducible repeat (first | apply Kd.S_alloc | apply Kd.S_drewN | apply Kd.S_drew)); exact HO269.out) hb); have n1_ := Aside0.mk (Kd.R_below (by (with_reducible repeat (first | apply Kd.R_alloc | apply Kd.R_drewN | apply Kd.R_drew)); exact HO272.out) hb); have n2_ := Aside0.mk (Kd.R_below (by (with_reducible repeat (first | apply Kd.R_alloc | apply Kd.R_drewN | apply Kd.R_drew)); exact HO275.out) hb); have n3_ := Aside0.mk (Kd.R_below (by (with_reducible repeat (first | apply Kd.R_alloc | apply Kd.R_drewN | apply Kd.R_drew)); exact HO278.out) hb); have n4_ := Aside0.mk (Kd.S_below (by (with_reducible repeat (first | apply Kd.S_alloc | apply Kd.S_drewN | apply Kd.S_drew)); exact HO285.out) hb); have n5_ := Aside0.mk (Kd.R_below (by (with_reducible repeat (first | apply Kd.R_alloc | apply Kd.R_drewN | apply Kd.R_drew)); exact HO288.out) hb); have n6_ := Aside0.mk (Kd.R_below (by (with_reducible repeat (first | apply Kd.R_alloc | apply Kd.R_drewN | apply Kd.R_drew)); exact HO291.out) hb); have n7_ := Aside0.mk (Kd.R_below (by (with_reducible repeat (first | apply Kd.R_alloc | apply Kd.R_drewN | apply Kd.R_drew)); exact HO294.out) hb); have n8_ := Bb BK282 hb; have n9_ := Bb BK298 hb; have n10_ := Bs hb; clear HO269; clear HO272; clear HO275; clear HO278; clear HO285; clear HO288; clear HO291; clear HO294; clear BK282; clear BK298; clear HB; have HO269 := n0_; have HO272 := n1_; have HO275 := n2_; have HO278 := n3_; have HO285 := n4_; have HO288 := n5_; have HO291 := n6_; have HO294 := n7_; have BK282 := n8_; have BK298 := n9_; have HB := n10_; clear n0_ n1_ n2_ n3_ n4_ n5_ n6_ n7_ n8_ n9_ n10_; (try clear hb); (try clear hb2); (try clear hk); (try clear hi); obtain ⟨hcz79_0, hcz79_1, hcz79_2, hcz79_3, hcz79_4, hfz79_0, hfz79_1, hfz79_2, hfz79_3, hfz79_4⟩ := cells5 BK282) | (go_at_call 18; (with_reducible refine (policy_Attr.calls k _ _ t267 _ _ t270 _ _ t273 _ _ t276 t279 (⟨#[97]⟩ : ByteArray) (⟨#[104, 114, 101, 102]⟩ : ByteArray) (⟨#[47, 120]⟩ : ByteArray) true _ ?side1 ?side2 ?side3 ?side4 ?side5 ?side6 ?side7 ?side8 A30.out).mono ?_); (case side1 => repeat (first | exact (Kd.S_reads' HO269.out).2.2 | (with_reducible refine Kd.C_alloc ?_ _) | (with_reducible refine Kd.C_drewN ?_ _) | (with_reducible refine Kd.C_drew ?_))); (case side2 => exact (Kd.S_reads' HO269.out).2.1); (case side3 => repeat (first | exact (Kd.R_reads' HO272.out).2.2 | (with_reducible refine Kd.C_alloc ?_ _) | (with_reducible refine Kd.C_drewN ?_ _) | (with_reducible refine Kd.C_drew ?_))); (case side4 => exact (Kd.R_reads' HO272.out).2.1); (case side5 => repeat (first | exact (Kd.R_reads' HO275.out).2.2 | (with_reducible refine Kd.C_alloc ?_ _) | (with_reducible refine Kd.C_drewN ?_ _) | (with_reducible refine Kd.C_drew ?_))); (case side6 => exact (Kd.R_reads' HO275.out).2.1); (case side7 => repeat (first | exact (Kd.R_reads' HO278.out).2.2 | (with_reducible refine Kd.C_alloc ?_ _) | (with_reducible refine Kd.C_drewN ?_ _) | (with_reducible refine Kd.C_drew ?_))); (case side8 => exact (Kd.R_reads' HO278.out).2.1); rintro e w80 ⟨rfl, hb⟩; have n0_ := Aside0.mk (Kd.S_below (by (with_reducible repeat (first | apply Kd.S_alloc | apply Kd.S_drewN | apply Kd.S_drew)); exact HO269.out) hb); have n1_ := Aside0.mk (Kd.R_below (by (with_reducible repeat (first | apply Kd.R_alloc | apply Kd.R_drewN | apply Kd.R_drew)); exact HO272.out) hb); have n2_ := Aside0.mk (Kd.R_below (by (with_reducible repeat (first | apply Kd.R_alloc | apply Kd.R_drewN | apply Kd.R_drew)); exact HO275.out) hb); have n3_ := Aside0.mk (Kd.R_below (by (with_reducible repeat (first | apply Kd.R_alloc | apply Kd.R_drewN | apply Kd.R_drew)); exact HO278.out) hb); have n4_ := Aside0.mk (Kd.S_below (by (with_reducible repeat (first | apply Kd.S_alloc | apply Kd.S_drewN | apply Kd.S_drew)); exact HO285.out) hb); have n5_ := Aside0.mk (Kd.R_below (by (with_reducible repeat (first | apply Kd.R_alloc | apply Kd.R_drewN | apply Kd.R_drew)); exact HO288.out) hb); have n6_ := Aside0.mk (Kd.R_below (by (with_reducible repeat (first | apply Kd.R_alloc | apply Kd.R_drewN | apply Kd.R_drew)); exact HO291.out) hb); have n7_ := Aside0.mk (Kd.R_below (by (with_reducible repeat (first | apply Kd.R_alloc | apply Kd.R_drewN | apply Kd.R_drew)); exact HO294.out) hb); have n8_ := Bb BK282 hb; have n9_ := Bb BK298 hb; have n10_ := Bs hb; clear HO269; clear HO272; clear HO275; clear HO278; clear HO285; clear HO288; clear HO291; clear HO294; clear BK282; clear BK298; clear HB; have HO269 := n0_; have HO272 := n1_; have HO275 := n2_; have HO278 := n3_; have HO285 := n4_; have HO288 := n5_; have HO291 := n6_; have HO294 := n7_; have BK282 := n8_; have BK298 := n9_; have HB := n10_; clear n0_ n1_ n2_ n3_ n4_ n5_ n6_ n7_ n8_ n9_ n10_; (try clear hb); (try clear hb2); (try clear hk); (try clear hi); obtain ⟨hcz81_0, hcz81_1, hcz81_2, hcz81_3, hcz81_4, hfz81_0, hfz81_1, hfz81_2, hfz81_3, hfz81_4⟩ := cells5 BK282) | (go_at_call 18; (with_reducible refine (policy_Attr.calls k _ _ t267 _ _ t270 _ _ t273 _ _ t276 t279 (⟨#[97]⟩ : ByteArray) (⟨#[104, 114, 101, 102]⟩ : ByteArray) (⟨#[104, 116, 116, 112, 58, 120]⟩ : ByteArray) false _ ?side1 ?side2 ?side3 ?side4 ?side5 ?side6 ?side7 ?side8 A32.out).mono ?_); (case side1 => repeat (first | exact (Kd.S_reads' HO269.out).2.2 | (with_reducible refine Kd.C_alloc ?_ _) | (with_reducible refine Kd.C_drewN ?_ _) | (with_reducible refine Kd.C_drew ?_))); (case side2 => exact (Kd.S_reads' HO269.out).2.1); (case side3 => repeat (first | exact (Kd.R_reads' HO272.out).2.2 | (with_reducible refine Kd.C_alloc ?_ _) | (with_reducible refine Kd.C_drewN ?_ _) | (with_reducible refine Kd.C_drew ?_))); (case side4 => exact (Kd.R_reads' HO272.out).2.1); (case side5 => repeat (first | exact (Kd.R_reads' HO275.out).2.2 | (with_reducible refine Kd.C_alloc ?_ _) | (with_reducible refine Kd.C_drewN ?_ _) | (with_reducible refine Kd.C_drew ?_))); (case side6 => exact (Kd.R_reads' HO275.out).2.1); (case side7 => repeat (first | exact (Kd.R_reads' HO278.out).2.2 | (with_reducible refine Kd.C_alloc ?_ _) | (with_reducible refine Kd.C_drewN ?_ _) | (with_reducible refine Kd.C_drew ?_))); (case side8 => exact (Kd.R_reads' HO278.out).2.1); rintro e w82 ⟨rfl, hb⟩; have n0_ := Aside0.mk (Kd.S_below (by (with_reducible repeat (first | apply Kd.S_alloc | apply Kd.S_drewN | apply Kd.S_drew)); exact HO269.out) hb); have n1_ := Aside0.mk (Kd.R_below (by (with_reducible repeat (first | apply Kd.R_alloc | apply Kd.R_drewN | apply Kd.R_drew)); exact HO272.out) hb); have n2_ := Aside0.mk (Kd.R_below (by (with_reducible repeat (first | apply Kd.R_alloc | apply Kd.R_drewN | apply Kd.R_drew)); exact HO275.out) hb); have n3_ := Aside0.mk (Kd.R_below (by (with_reducible repeat (first | apply Kd.R_alloc | apply Kd.R_drewN | apply Kd.R_drew)); exact HO278.out) hb); have n4_ := Aside0.mk (Kd.S_below (by (with_reducible repeat (first | apply Kd.S_alloc | apply Kd.S_drewN | apply Kd.S_drew)); exact HO285.out) hb); have n5_ := Aside0.mk (Kd.R_below (by (with_reducible repeat (first | apply Kd.R_alloc | apply Kd.R_drewN | apply Kd.R_drew)); exact HO288.out) hb); have n6_ := Aside0.mk (Kd.R_below (by (with_reducible repeat (first | apply Kd.R_alloc | apply Kd.R_drewN | apply Kd.R_drew)); exact HO291.out) hb); have n7_ := Aside0.mk (Kd.R_below (by (with_reducible repeat (first | apply Kd.R_alloc | apply Kd.R_drewN | apply Kd.R_drew)); exact HO294.out) hb); have n8_ := Bb BK282 hb; have n9_ := Bb BK298 hb; have n10_ := Bs hb; clear HO269; clear HO272; clear HO275; clear HO278; clear HO285; clear HO288; clear HO291; clear HO294; clear BK282; clear BK298; clear HB; have HO269 := n0_; have HO272 := n1_; have HO275 := n2_; have HO278 := n3_; have HO285 := n4_; have HO288 := n5_; have HO291 := n6_; have HO294 := n7_; have BK282 := n8_; have BK298 := n9_; have HB := n10_; clear n0_ n1_ n2_ n3_ n4_ n5_ n6_ n7_ n8_ n9_ n10_; (try clear hb); (try clear hb2); (try clear hk); (try clear hi); obtain ⟨hcz83_0, hcz83_1, hcz83_2, hcz83_3, hcz83_4, hfz83_0, hfz83_1, hfz83_2, hfz83_3, hfz83_4⟩ := cells5 BK282) | (go_at_call 11; (with_reducible refine (policy_Check.calls k _ _ t267 _ _ t270 _ _ t273 _ _ t276 t279 t303 _ ?side1 ?side2 ?side3 ?side4 ?side5 ?side6 ?side7 ?side8 A57.out).mono ?_); (case side1 => repeat (first | exact (Kd.S_reads' HO269.out).2.2 | (with_reducible refine Kd.C_alloc ?_ _) | (with_reducible refine Kd.C_drewN ?_ _) | (with_reducible refine Kd.C_drew ?_))); (case side2 => exact (Kd.S_reads' HO269.out).2.1); (case side3 => repeat (first | exact (Kd.R_reads' HO272.out).2.2 | (with_reducible refine Kd.C_alloc ?_ _) | (with_reducible refine Kd.C_drewN ?_ _) | (with_reducible refine Kd.C_drew ?_))); (case side4 => exact (Kd.R_reads' HO272.out).2.1); (case side5 => repeat (first | exact (Kd.R_reads' HO275.out).2.2 | (with_reducible refine Kd.C_alloc ?_ _) | (with_reducible refine Kd.C_drewN ?_ _) | (with_reducible refine Kd.C_drew ?_))); (case side6 => exact (Kd.R_reads' HO275.out).2.1); (case side7 => repeat (first | exact (Kd.R_reads' HO278.out).2.2 | (with_reducible refine Kd.C_alloc ?_ _) | (with_reducible refine Kd.C_drewN ?_ _) | (with_reducible refine Kd.C_drew ?_))); (case side8 => exact (Kd.R_reads' HO278.out).2.1); rintro e w84 ⟨rfl, hb⟩; have n0_ := Aside0.mk (Kd.S_below (by (with_reducible repeat (first | apply Kd.S_alloc | apply Kd.S_drewN | apply Kd.S_drew)); exact HO269.out) hb); have n1_ := Aside0.mk (Kd.R_below (by (with_reducible repeat (first | apply Kd.R_alloc | apply Kd.R_drewN | apply Kd.R_drew)); exact HO272.out) hb); have n2_ := Aside0.mk (Kd.R_below (by (with_reducible repeat (first | apply Kd.R_alloc | apply Kd.R_drewN | apply Kd.R_drew)); exact HO275.out) hb); have n3_ := Aside0.mk (Kd.R_below (by (with_reducible repeat (first | apply Kd.R_alloc | apply Kd.R_drewN | apply Kd.R_drew)); exact HO278.out) hb); have n4_ := Aside0.mk (Kd.S_below (by (with_reducible repeat (first | apply Kd.S_alloc | apply Kd.S_drewN | apply Kd.S_drew)); exact HO285.out) hb); have n5_ := Aside0.mk (Kd.R_below (by (with_reducible repeat (first | apply Kd.R_alloc | apply Kd.R_drewN | apply Kd.R_drew)); exact HO288.out) hb); have n6_ := Aside0.mk (Kd.R_below (by (with_reducible repeat (first | apply Kd.R_alloc | apply Kd.R_drewN | apply Kd.R_drew)); exact HO291.out) hb); have n7_ := Aside0.mk (Kd.R_below (by (with_reducible repeat (first | apply Kd.R_alloc | apply Kd.R_drewN | apply Kd.R_drew)); exact HO294.out) hb); have n8_ := Bb BK282 hb; have n9_ := Bb BK298 hb; have n10_ := Bs hb; clear HO269; clear HO272; clear HO275; clear HO278; clear HO285; clear HO288; clear HO291; clear HO294; clear BK282; clear BK298; clear HB; have HO269 := n0_; have HO272 := n1_; have HO275 := n2_; have HO278 := n3_; have HO285 := n4_; have HO288 := n5_; have HO291 := n6_; have HO294 := n7_; have BK282 := n8_; have BK298 := n9_; have HB := n10_; clear n0_ n1_ n2_ n3_ n4_ n5_ n6_ n7_ n8_ n9_ n10_; (try clear hb); (try clear hb2); (try clear hk); (try clear hi); obtain ⟨hcz85_0, hcz85_1, hcz85_2, hcz85_3, hcz85_4, hfz85_0, hfz85_1, hfz85_2, hfz85_3, hfz85_4⟩ := cells5 BK282) | (go_at_call 21; (refine (policy_Allowed.calls k _ _ t267 _ _ t270 _ _ t273 _ _ t276 t279 _ _ ([] : List (S49)) t304 _ ?side1 ?side2 ?side3 ?side4 ?side5 ?side6 ?side7 ?side8 ?side9 ?side10 A59.out).mono ?_); (case side1 => repeat (first | exact (Kd.S_reads' HO269.out).2.2 | (with_reducible refine Kd.C_alloc ?_ _) | (with_reducible refine Kd.C_drewN ?_ _) | (with_reducible refine Kd.C_drew ?_))); (case side2 => exact (Kd.S_reads' HO269.out).2.1); (case side3 => repeat (first | exact (Kd.R_reads' HO272.out).2.2 | (with_reducible refine Kd.C_alloc ?_ _) | (with_reducible refine Kd.C_drewN ?_ _) | (with_reducible refine Kd.C_drew ?_))); (case side4 => exact (Kd.R_reads' HO272.out).2.1); (case side5 => repeat (first | exact (Kd.R_reads' HO275.out).2.2 | (with_reducible refine Kd.C_alloc ?_ _) | (with_reducible refine Kd.C_drewN ?_ _) | (with_reducible refine Kd.C_drew ?_))); (case side6 => exact (Kd.R_reads' HO275.out).2.1); (case side7 => repeat (first | exact (Kd.R_reads' HO278.out).2.2 | (with_reducible refine Kd.C_alloc ?_ _) | (with_reducible refine Kd.C_drewN ?_ _) | (with_reducible refine Kd.C_drew ?_))); (case side8 => exact (Kd.R_reads' HO278.out).2.1); (case side9 => exact Kd.C_nil _ _); (case side10 => exact Nat.le_refl _); rintro e w86 ⟨rfl, hb⟩; have n0_ := Aside0.mk (Kd.S_below (by (with_reducible repeat (first | apply Kd.S_alloc | apply Kd.S_drewN | apply Kd.S_drew)); exact HO269.out) hb); have n1_ := Aside0.mk (Kd.R_below (by (with_reducible repeat (first | apply Kd.R_alloc | apply Kd.R_drewN | apply Kd.R_drew)); exact HO272.out) hb); have n2_ := Aside0.mk (Kd.R_below (by (with_reducible repeat (first | apply Kd.R_alloc | apply Kd.R_drewN | apply Kd.R_drew)); exact HO275.out) hb); have n3_ := Aside0.mk (Kd.R_below (by (with_reducible repeat (first | apply Kd.R_alloc | apply Kd.R_drewN | apply Kd.R_drew)); exact HO278.out) hb); have n4_ := Aside0.mk (Kd.S_below (by (with_reducible repeat (first | apply Kd.S_alloc | apply Kd.S_drewN | apply Kd.S_drew)); exact HO285.out) hb); have n5_ := Aside0.mk (Kd.R_below (by (with_reducible repeat (first | apply Kd.R_alloc | apply Kd.R_drewN | apply Kd.R_drew)); exact HO288.out) hb); have n6_ := Aside0.mk (Kd.R_below (by (with_reducible repeat (first | apply Kd.R_alloc | apply Kd.R_drewN | apply Kd.R_drew)); exact HO291.out) hb); have n7_ := Aside0.mk (Kd.R_below (by (with_reducible repeat (first | apply Kd.R_alloc | apply Kd.R_drewN | apply Kd.R_drew)); exact HO294.out) hb); have n8_ := Bb BK282 hb; have n9_ := Bb BK298 hb; have n10_ := Bs hb; clear HO269; clear HO272; clear HO275; clear HO278; clear HO285; clear HO288; clear HO291; clear HO294; clear BK282; clear BK298; clear HB; have HO269 := n0_; have HO272 := n1_; have HO275 := n2_; have HO278 := n3_; have HO285 := n4_; have HO288 := n5_; have HO291 := n6_; have HO294 := n7_; have BK282 := n8_; have BK298 := n9_; have HB := n10_; clear n0_ n1_ n2_ n3_ n4_ n5_ n6_ n7_ n8_ n9_ n10_; (try clear hb); (try clear hb2); (try clear hk); (try clear hi)))
        go_ret
        exact ⟨Re, Bw⟩
       rw [if_neg c58] at H
       have c58b0 : (t303 == 0) = false := beq_eq_false_iff_ne.mpr c58
       have c58b1 : (t303 != 0) = true := bne_iff_ne.mpr c58
       exact absurd H (by simp)
      replace c31 := Bool.eq_false_iff.mpr c31
      subst c31
      have H1 : (some false) = some true := by rw [if_neg (show ¬ (false = true) by decide)] at H; exact H
      clear H
      have H := H1
      clear H1
      exact absurd H (by simp)
     replace c8 := Bool.eq_false_iff.mpr c8
     subst c8
     have H1 : (some false) = some true := by rw [if_neg (show ¬ (false = true) by decide)] at H; exact H
     clear H
     have H := H1
     clear H1
     exact absurd H (by simp)
    rw [if_neg c6] at H
    have c6b0 : (t297 == 7) = false := beq_eq_false_iff_ne.mpr c6
    have c6b1 : (t297 != 7) = true := bne_iff_ne.mpr c6
    exact absurd H (by simp)
   rw [if_neg c5] at H
   have c5b0 : (t296 == 3) = false := beq_eq_false_iff_ne.mpr c5
   have c5b1 : (t296 != 3) = true := bne_iff_ne.mpr c5
   exact absurd H (by simp)
  rw [if_neg c4] at H
  have c4b0 : (t281 == 0) = false := beq_eq_false_iff_ne.mpr c4
  have c4b1 : (t281 != 0) = true := bne_iff_ne.mpr c4
  exact absurd H (by simp)
 rw [if_neg c3] at H
 have c3b0 : (t280 == 0) = false := beq_eq_false_iff_ne.mpr c3
 have c3b1 : (t280 != 0) = true := bne_iff_ne.mpr c3
 exact absurd H (by simp)

noncomputable def marginalialaw11_alive.f (k : Nat) : Option (Bool) := if marginalialaw11_alive0.f k = some true then some true else none
theorem marginalialaw11_alive.mono : ∀ k, LeO (marginalialaw11_alive.f k) (marginalialaw11_alive.f (k + 1)) := by
  intro k r h
  unfold marginalialaw11_alive.f at h ⊢
  split at h
  · next h1 => rw [if_pos (marginalialaw11_alive0.mono k _ h1)]; exact h
  · simp at h
theorem marginalialaw11_alive.calls (k : Nat) (r : Bool) (w : World) (m_ : Int) (hm_ : w.cell? ⟨0, 0, none⟩ = some (.int .i64 m_)) (h : marginalialaw11_alive.f k = some r) :
    Calls Tryd.prog 10 #[] w fun e w' => e = .returned (.bool r) ∧ Below w.heap.size w w' := by
  unfold marginalialaw11_alive.f at h
  split at h
  · next h1 =>
    obtain rfl := Option.some.inj h
    exact marginalialaw11_alive0.calls k w m_ hm_ h1
  · simp at h



def marginaliaref11_in.l0 : Nat → List ByteArray → ByteArray → Int → Option (Bool)
  | 0, _, _, _ => none
  | k + 1, x0, x1, x5 => if x5 < (x0.length : Int) then (if 0 ≤ x5 then (if (rdOf ByteArray.empty x0 x5).toList = x1.toList then (some true) else (marginaliaref11_in.l0 k x0 x1 (wrap64 (x5 + 1)))) else (none)) else (some false)
def marginaliaref11_in.f (k : Nat) (l0 : List ByteArray) (a1 : ByteArray) : Option (Bool) := marginaliaref11_in.l0 k l0 a1 0
set_option maxHeartbeats 8000000 in
set_option maxRecDepth 100000 in
theorem marginaliaref11_in.calls (k : Nat) (A0 : Option Addr) (c0 : Nat) (l0 : List ByteArray) (a1 : ByteArray) (r : Bool) (w : World) (hr0 : Kd.C Kd.string w A0 l0.length l0) (hc0 : l0.length ≤ c0) (h : marginaliaref11_in.f k l0 a1 = some r) :
  Calls Tryd.prog 35 #[.slice A0 l0.length c0, .string a1] w fun e w' => e = .returned (.bool r) ∧ Drawn0 w w' := by
 have HR0 := Aside0.mk hr0
 have HC0 := Aside0.mk hc0
 clear hr0 hc0
 have H : (marginaliaref11_in.l0 k l0 a1 0) = some r := h
 clear h
 have H' := Aside0.mk H
 clear H
 go_enter Tryd.func35, Tryd.ntmps35
 go_wp2
 go_loopg [5] k (fun kq v5 w' => ∃ (x5_1 : Int), v5 = .int .i64 x5_1 ∧ Aside0 (marginaliaref11_in.l0 kq l0 a1 x5_1 = some r) ∧ Aside0 (kq ≤ k) ∧ Drawn0 w w')
 case atStart => exact ⟨(0), Rs, H', ⟨Nat.le_refl _⟩, by repeat (first | exact Drawn0.refl _ | apply Drawn0.step)⟩
 case round =>
  clear H'
  try clear p2
  obtain ⟨x5_1, rfl, HA, HK1, ⟨m1, rfl⟩⟩ := hrel
  cases gk with
  | zero => exact absurd HA.out (by simp [marginaliaref11_in.l0])
  | succ k1 =>
   have H := HA.out
   clear HA
   simp only [marginaliaref11_in.l0] at H
   by_cases c3 : x5_1 < (l0.length : Int)
   ·rw [if_pos c3] at H
    have c3b0 : decide (x5_1 < (l0.length : Int)) = true := decide_eq_true c3
    clear c3
    by_cases c4 : 0 ≤ x5_1
    ·rw [if_pos c4] at H
     have c4b0 : decide (0 ≤ x5_1) = true := decide_eq_true c4
     clear c4
     by_cases c5 : (rdOf ByteArray.empty l0 x5_1).toList = a1.toList
     ·rw [if_pos c5] at H
      have c5b0 : ((rdOf ByteArray.empty l0 x5_1).toList == a1.toList) = true := beq_iff_eq.mpr c5
      have c5b1 : ((rdOf ByteArray.empty l0 x5_1).toList != a1.toList) = false := bne_eq_false_iff_eq.mpr c5
      clear c5
      obtain rfl := Option.some.inj H
      have p216 : 0 ≤ (x5_1 : Int) := of_decide_eq_true Dt
      have q216 : x5_1 < (l0.length : Int) := of_decide_eq_true Dt
      obtain ⟨ad216, e216, hx216_0⟩ := Kd.at_string HR0.out x5_1 p216 q216
      cases e216
      replace p216 := eq_true p216
      replace q216 := eq_true q216
      go_wp2
      go_ret
      exact ⟨Rs, Dw⟩
     rw [if_neg c5] at H
     have c5b0 : ((rdOf ByteArray.empty l0 x5_1).toList == a1.toList) = false := beq_eq_false_iff_ne.mpr c5
     have c5b1 : ((rdOf ByteArray.empty l0 x5_1).toList != a1.toList) = true := bne_iff_ne.mpr c5
     have H' := Aside0.mk H
     clear H
     have p216 : 0 ≤ (x5_1 : Int) := of_decide_eq_true Dt
     have q216 : x5_1 < (l0.length : Int) := of_decide_eq_true Dt
     obtain ⟨ad216, e216, hx216_0⟩ := Kd.at_string HR0.out x5_1 p216 q216
     cases e216
     replace p216 := eq_true p216
     replace q216 := eq_true q216
     go_wp2
     go_roundg k1
     case measure => have := HK1.out; omega
     case rel => exact ⟨(wrap64 (x5_1 + 1)), Rs, H', ⟨by have := HK1.out; omega⟩, by repeat (first | exact Drawn0.refl _ | apply Drawn0.step)⟩
    rw [if_neg c4] at H
    exact absurd H (by simp)
   rw [if_neg c3] at H
   have c3b0 : decide (x5_1 < (l0.length : Int)) = false := decide_eq_false c3
   clear c3
   obtain rfl := Option.some.inj H
   go_wp2
   go_ret
   exact ⟨Rs, Dw⟩

def marginaliaref02_Figure.f (a0 : Int) : Option (Bool) := if a0 ≥ 48 then (some (decide (a0 ≤ 57))) else (some false)
set_option maxHeartbeats 8000000 in
set_option maxRecDepth 100000 in
theorem marginaliaref02_Figure.calls (a0 : Int) (r : Bool) (w : World) (h : marginaliaref02_Figure.f a0 = some r) :
    Calls Tryd.prog 85 #[.int .u8 a0] w fun e w' => e = .returned (.bool r) ∧ Drawn0 w w' := by
  have H : (if a0 ≥ 48 then (some (decide (a0 ≤ 57))) else (some false)) = some r := h
  clear h
  by_cases c2 : a0 ≥ 48
  · rw [if_pos c2] at H
    have c2b0 : decide (48 ≤ a0) = true := decide_eq_true c2
    clear c2
    obtain rfl := Option.some.inj H
    go_enter Tryd.func85, Tryd.ntmps85
    go_wp2
    go_ret
    exact ⟨Rs, Dw⟩
  · rw [if_neg c2] at H
    have c2b0 : decide (48 ≤ a0) = false := decide_eq_false c2
    clear c2
    obtain rfl := Option.some.inj H
    go_enter Tryd.func85, Tryd.ntmps85
    go_wp2
    go_ret
    exact ⟨Rs, Dw⟩

mutual
def marginaliaref11_Name.j0 : Nat → ByteArray → Bool → Option (Bool)
  | 0, _, _ => none
  | k + 1, x0, x21 => if x21 = true then (some false) else (marginaliaref11_Name.l0 k x0 0)
def marginaliaref11_Name.l0 : Nat → ByteArray → Int → Option (Bool)
  | 0, _, _ => none
  | k + 1, x0, x3 => if x3 < (x0.size : Int) then (if 0 ≤ x3 then (if (bt x0 x3) ≥ 97 then (if ((bt x0 x3) ≤ 122) then (marginaliaref11_Name.l0 k x0 (wrap64 (x3 + 1))) else ((marginaliaref02_Figure.f (bt x0 x3)).bind fun t217 => (if t217 = true then (marginaliaref11_Name.l0 k x0 (wrap64 (x3 + 1))) else (if (bt x0 x3) = 45 then (marginaliaref11_Name.l0 k x0 (wrap64 (x3 + 1))) else (some false))))) else ((marginaliaref02_Figure.f (bt x0 x3)).bind fun t218 => (if t218 = true then (marginaliaref11_Name.l0 k x0 (wrap64 (x3 + 1))) else (if (bt x0 x3) = 45 then (marginaliaref11_Name.l0 k x0 (wrap64 (x3 + 1))) else (some false))))) else (none)) else (some true)
end
def marginaliaref11_Name.f (k : Nat) (a0 : ByteArray) : Option (Bool) := if (a0.size : Int) < 1 then (marginaliaref11_Name.j0 k a0 true) else (if (a0.size : Int) > 20 then (marginaliaref11_Name.j0 k a0 true) else (if 0 < (a0.size : Int) then (if (bt a0 0) < 97 then (marginaliaref11_Name.j0 k a0 true) else (marginaliaref11_Name.j0 k a0 (decide ((bt a0 0) > 122)))) else (none)))
set_option maxHeartbeats 8000000 in
set_option maxRecDepth 100000 in
theorem marginaliaref11_Name.calls (k : Nat) (a0 : ByteArray) (r : Bool) (w : World) (h : marginaliaref11_Name.f k a0 = some r) :
  Calls Tryd.prog 67 #[.string a0] w fun e w' => e = .returned (.bool r) ∧ Drawn0 w w' := by
 have H := h
 clear h
 unfold marginaliaref11_Name.f at H
 have HC2 := Aside0.mk H
 clear H
 go_enter Tryd.func67, Tryd.ntmps67
 go_upto_region 1 with (fail)
 go_cut [21] (fun v21 wc => ∃ (kq : Nat) (x21_1 : Bool), v21 = .bool x21_1 ∧ Aside0 (marginaliaref11_Name.j0 kq a0 x21_1 = some r) ∧ Aside0 (kq ≤ k) ∧ Drawn0 w wc)
 case first =>
  have H := HC2.out
  clear HC2
  by_cases c3 : (a0.size : Int) < 1
  ·rw [if_pos c3] at H
   have c3b0 : decide ((a0.size : Int) < 1) = true := decide_eq_true c3
   have c3b1 : decide (a0.size < 1) = true := decide_eq_true (by omega)
   clear c3
   (first | rw [c3b0] | (simp only [i64_w, i32_w]; rw [c3b0]) | skip)
   have H' := Aside0.mk H
   clear H
   go_wp2
   go_meet
   case rel => exact ⟨_, (true), Rs, H', ⟨On⟩, by repeat (first | exact Drawn0.refl _ | apply Drawn0.step)⟩
  rw [if_neg c3] at H
  have c3b0 : decide ((a0.size : Int) < 1) = false := decide_eq_false c3
  have c3b1 : decide (a0.size < 1) = false := decide_eq_false (by omega)
  clear c3
  (first | rw [c3b0] | (simp only [i64_w, i32_w]; rw [c3b0]) | skip)
  by_cases c4 : (a0.size : Int) > 20
  ·rw [if_pos c4] at H
   have c4b0 : decide (20 < (a0.size : Int)) = true := decide_eq_true c4
   have c4b1 : decide (20 < a0.size) = true := decide_eq_true (by omega)
   clear c4
   have H' := Aside0.mk H
   clear H
   go_wp2
   go_meet
   case rel => exact ⟨_, (true), Rs, H', ⟨On⟩, by repeat (first | exact Drawn0.refl _ | apply Drawn0.step)⟩
  rw [if_neg c4] at H
  have c4b0 : decide (20 < (a0.size : Int)) = false := decide_eq_false c4
  have c4b1 : decide (20 < a0.size) = false := decide_eq_false (by omega)
  clear c4
  by_cases c5 : 0 < (a0.size : Int)
  ·rw [if_pos c5] at H
   have c5b0 : decide (0 < (a0.size : Int)) = true := decide_eq_true c5
   have c5b1 : decide (0 < a0.size) = true := decide_eq_true (by omega)
   clear c5
   by_cases c7 : (bt a0 0) < 97
   ·rw [if_pos c7] at H
    have c7b0 : decide ((bt a0 0) < 97) = true := decide_eq_true c7
    clear c7
    have H' := Aside0.mk H
    clear H
    have p6 : 0 ≤ (0 : Int) := (by omega)
    have q6 : 0 < a0.size := (by have : (0 : Int) < (a0.size : Int) := of_decide_eq_true Dt; omega)
    have hx6 : ∀ h : 0 < a0.size, ((a0[0]'h).toNat : Int) = bt a0 0 := bt_at a0 0
    clear p6
    have qi6 : (0 < (a0.size : Int)) = True := eq_true (of_decide_eq_true Dt)
    replace q6 := eq_true q6
    go_wp2
    go_meet
    case rel => exact ⟨_, (true), Rs, H', ⟨On⟩, by repeat (first | exact Drawn0.refl _ | apply Drawn0.step)⟩
   rw [if_neg c7] at H
   have c7b0 : decide ((bt a0 0) < 97) = false := decide_eq_false c7
   clear c7
   have H' := Aside0.mk H
   clear H
   have p6 : 0 ≤ (0 : Int) := (by omega)
   have q6 : 0 < a0.size := (by have : (0 : Int) < (a0.size : Int) := of_decide_eq_true Dt; omega)
   have hx6 : ∀ h : 0 < a0.size, ((a0[0]'h).toNat : Int) = bt a0 0 := bt_at a0 0
   clear p6
   have qi6 : (0 < (a0.size : Int)) = True := eq_true (of_decide_eq_true Dt)
   replace q6 := eq_true q6
   have p8 : 0 ≤ (0 : Int) := (by omega)
   have q8 : 0 < a0.size := (by have : (0 : Int) < (a0.size : Int) := of_decide_eq_true Dt; omega)
   have hx8 : ∀ h : 0 < a0.size, ((a0[0]'h).toNat : Int) = bt a0 0 := bt_at a0 0
   clear p8
   have qi8 : (0 < (a0.size : Int)) = True := eq_true (of_decide_eq_true Dt)
   replace q8 := eq_true q8
   go_wp2
   go_meet
   case rel => exact ⟨_, (decide ((bt a0 0) > 122)), Rs, H', ⟨On⟩, by repeat (first | exact Drawn0.refl _ | apply Drawn0.step)⟩
  rw [if_neg c5] at H
  exact absurd H (by simp)
 case rest =>
  clear HC2
  try clear p2
  try clear c3
  try clear c3b0
  try clear c3b1
  try clear c4
  try clear c4b0
  try clear c4b1
  try clear c5
  try clear c5b0
  try clear c5b1
  try clear c6
  try clear p6
  try clear q6
  try clear hx6
  try clear qi6
  try clear c7
  try clear c7b0
  try clear p8
  try clear q8
  try clear hx8
  try clear qi8
  try clear p6
  try clear p8
  try clear q6
  try clear q8
  obtain ⟨kq, x21_1, rfl, HA, HJ1, ⟨mc1, rfl⟩⟩ := hcut
  cases kq with
  | zero => exact absurd HA.out (by simp [marginaliaref11_Name.j0])
  | succ kj1 =>
   have H := HA.out
   clear HA
   simp only [marginaliaref11_Name.j0] at H
   by_cases c9 : x21_1 = true
   ·subst c9
    rw [if_pos rfl] at H
    obtain rfl := Option.some.inj H
    go_wp2
    go_ret
    exact ⟨Rs, Dw⟩
   replace c9 := Bool.eq_false_iff.mpr c9
   subst c9
   rw [if_neg (show ¬ (false = true) by decide)] at H
   have H' := Aside0.mk H
   clear H
   go_wp2
   go_loopg [3] kj1 (fun kq v3 w' => ∃ (x3_2 : Int), v3 = .int .i64 x3_2 ∧ Aside0 (marginaliaref11_Name.l0 kq a0 x3_2 = some r) ∧ Aside0 (kq ≤ kj1) ∧ Drawn0 w w')
   case atStart => exact ⟨(0), Rs, H', ⟨Nat.le_refl _⟩, by repeat (first | exact Drawn0.refl _ | apply Drawn0.step)⟩
   case round =>
    clear H'
    try clear c1
    try clear p2
    try clear c3
    try clear c3b0
    try clear c3b1
    try clear c4
    try clear c4b0
    try clear c4b1
    try clear c5
    try clear c5b0
    try clear c5b1
    try clear c6
    try clear p6
    try clear q6
    try clear hx6
    try clear qi6
    try clear c7
    try clear c7b0
    try clear p8
    try clear q8
    try clear hx8
    try clear qi8
    try clear c9
    try clear p2
    try clear p6
    try clear p8
    try clear q6
    try clear q8
    obtain ⟨x3_2, rfl, HA, HK2, ⟨m2, rfl⟩⟩ := hrel
    cases gk with
    | zero => exact absurd HA.out (by simp [marginaliaref11_Name.l0])
    | succ k2 =>
     have H := HA.out
     clear HA
     simp only [marginaliaref11_Name.l0] at H
     by_cases c10 : x3_2 < (a0.size : Int)
     ·rw [if_pos c10] at H
      have c10b0 : decide (x3_2 < (a0.size : Int)) = true := decide_eq_true c10
      clear c10
      by_cases c11 : 0 ≤ x3_2
      ·rw [if_pos c11] at H
       have c11b0 : decide (0 ≤ x3_2) = true := decide_eq_true c11
       clear c11
       by_cases c13 : (bt a0 x3_2) ≥ 97
       ·rw [if_pos c13] at H
        have c13b0 : decide (97 ≤ (bt a0 x3_2)) = true := decide_eq_true c13
        clear c13
        by_cases c15 : ((bt a0 x3_2) ≤ 122)
        ·rw [if_pos c15] at H
         have c15b0 : decide ((bt a0 x3_2) ≤ 122) = true := decide_eq_true c15
         clear c15
         have H' := Aside0.mk H
         clear H
         have p12 : 0 ≤ (x3_2 : Int) := of_decide_eq_true Dt
         have q12 : x3_2 < (a0.size : Int) := of_decide_eq_true Dt
         have hx12 := bt_at a0 x3_2
         replace p12 := eq_true p12
         replace q12 := eq_true q12
         have p14 : 0 ≤ (x3_2 : Int) := of_decide_eq_true Dt
         have q14 : x3_2 < (a0.size : Int) := of_decide_eq_true Dt
         have hx14 := bt_at a0 x3_2
         replace p14 := eq_true p14
         replace q14 := eq_true q14
         go_wp2
         go_roundg k2
         case measure => have := HJ1.out; have := HK2.out; omega
         case rel => exact ⟨(wrap64 (x3_2 + 1)), Rs, H', ⟨by have := HJ1.out; have := HK2.out; omega⟩, by repeat (first | exact Drawn0.refl _ | apply Drawn0.step)⟩
        rw [if_neg c15] at H
        have c15b0 : decide ((bt a0 x3_2) ≤ 122) = false := decide_eq_false c15
        clear c15
        replace H := Option.bind_eq_some_iff.mp H
        obtain ⟨t217, A170, H⟩ := H
        try dsimp -simprocs only at H
        have A17 := Aside0.mk A170
        clear A170
        by_cases c18 : t217 = true
        ·subst c18
         rw [if_pos rfl] at H
         have H' := Aside0.mk H
         clear H
         have p12 : 0 ≤ (x3_2 : Int) := of_decide_eq_true Dt
         have q12 : x3_2 < (a0.size : Int) := of_decide_eq_true Dt
         have hx12 := bt_at a0 x3_2
         replace p12 := eq_true p12
         replace q12 := eq_true q12
         have p14 : 0 ≤ (x3_2 : Int) := of_decide_eq_true Dt
         have q14 : x3_2 < (a0.size : Int) := of_decide_eq_true Dt
         have hx14 := bt_at a0 x3_2
         replace p14 := eq_true p14
         replace q14 := eq_true q14
         have p16 : 0 ≤ (x3_2 : Int) := of_decide_eq_true Dt
         have q16 : x3_2 < (a0.size : Int) := of_decide_eq_true Dt
         have hx16 := bt_at a0 x3_2
         replace p16 := eq_true p16
         replace q16 := eq_true q16
         go_wp2_with (first | (go_at_call 85; (with_reducible refine (marginaliaref02_Figure.calls (bt a0 x3_2) true _ A17.out).mono ?_); rintro e w' ⟨rfl, ⟨nd, rfl⟩⟩))
         go_roundg k2
         case measure => have := HJ1.out; have := HK2.out; omega
         case rel => exact ⟨(wrap64 (x3_2 + 1)), Rs, H', ⟨by have := HJ1.out; have := HK2.out; omega⟩, by repeat (first | exact Drawn0.refl _ | apply Drawn0.step)⟩
        replace c18 := Bool.eq_false_iff.mpr c18
        subst c18
        rw [if_neg (show ¬ (false = true) by decide)] at H
        by_cases c20 : (bt a0 x3_2) = 45
        ·rw [if_pos c20] at H
         have c20b0 : ((bt a0 x3_2) == 45) = true := beq_iff_eq.mpr c20
         have c20b1 : ((bt a0 x3_2) != 45) = false := bne_eq_false_iff_eq.mpr c20
         clear c20
         have H' := Aside0.mk H
         clear H
         have p12 : 0 ≤ (x3_2 : Int) := of_decide_eq_true Dt
         have q12 : x3_2 < (a0.size : Int) := of_decide_eq_true Dt
         have hx12 := bt_at a0 x3_2
         replace p12 := eq_true p12
         replace q12 := eq_true q12
         have p14 : 0 ≤ (x3_2 : Int) := of_decide_eq_true Dt
         have q14 : x3_2 < (a0.size : Int) := of_decide_eq_true Dt
         have hx14 := bt_at a0 x3_2
         replace p14 := eq_true p14
         replace q14 := eq_true q14
         have p16 : 0 ≤ (x3_2 : Int) := of_decide_eq_true Dt
         have q16 : x3_2 < (a0.size : Int) := of_decide_eq_true Dt
         have hx16 := bt_at a0 x3_2
         replace p16 := eq_true p16
         replace q16 := eq_true q16
         go_wp2_with (first | (go_at_call 85; (with_reducible refine (marginaliaref02_Figure.calls (bt a0 x3_2) false _ A17.out).mono ?_); rintro e w' ⟨rfl, ⟨nd, rfl⟩⟩; have p19 : 0 ≤ (x3_2 : Int) := of_decide_eq_true Dt; have q19 : x3_2 < (a0.size : Int) := of_decide_eq_true Dt; have hx19 := bt_at a0 x3_2; replace p19 := eq_true p19; replace q19 := eq_true q19))
         go_roundg k2
         case measure => have := HJ1.out; have := HK2.out; omega
         case rel => exact ⟨(wrap64 (x3_2 + 1)), Rs, H', ⟨by have := HJ1.out; have := HK2.out; omega⟩, by repeat (first | exact Drawn0.refl _ | apply Drawn0.step)⟩
        rw [if_neg c20] at H
        have c20b0 : ((bt a0 x3_2) == 45) = false := beq_eq_false_iff_ne.mpr c20
        have c20b1 : ((bt a0 x3_2) != 45) = true := bne_iff_ne.mpr c20
        obtain rfl := Option.some.inj H
        have p12 : 0 ≤ (x3_2 : Int) := of_decide_eq_true Dt
        have q12 : x3_2 < (a0.size : Int) := of_decide_eq_true Dt
        have hx12 := bt_at a0 x3_2
        replace p12 := eq_true p12
        replace q12 := eq_true q12
        have p14 : 0 ≤ (x3_2 : Int) := of_decide_eq_true Dt
        have q14 : x3_2 < (a0.size : Int) := of_decide_eq_true Dt
        have hx14 := bt_at a0 x3_2
        replace p14 := eq_true p14
        replace q14 := eq_true q14
        have p16 : 0 ≤ (x3_2 : Int) := of_decide_eq_true Dt
        have q16 : x3_2 < (a0.size : Int) := of_decide_eq_true Dt
        have hx16 := bt_at a0 x3_2
        replace p16 := eq_true p16
        replace q16 := eq_true q16
        go_wp2_with (first | (go_at_call 85; (with_reducible refine (marginaliaref02_Figure.calls (bt a0 x3_2) false _ A17.out).mono ?_); rintro e w' ⟨rfl, ⟨nd, rfl⟩⟩; have p19 : 0 ≤ (x3_2 : Int) := of_decide_eq_true Dt; have q19 : x3_2 < (a0.size : Int) := of_decide_eq_true Dt; have hx19 := bt_at a0 x3_2; replace p19 := eq_true p19; replace q19 := eq_true q19))
        go_ret
        exact ⟨Rs, Dw⟩
       rw [if_neg c13] at H
       have c13b0 : decide (97 ≤ (bt a0 x3_2)) = false := decide_eq_false c13
       clear c13
       replace H := Option.bind_eq_some_iff.mp H
       obtain ⟨t218, A220, H⟩ := H
       try dsimp -simprocs only at H
       have A22 := Aside0.mk A220
       clear A220
       by_cases c23 : t218 = true
       ·subst c23
        rw [if_pos rfl] at H
        have H' := Aside0.mk H
        clear H
        have p12 : 0 ≤ (x3_2 : Int) := of_decide_eq_true Dt
        have q12 : x3_2 < (a0.size : Int) := of_decide_eq_true Dt
        have hx12 := bt_at a0 x3_2
        replace p12 := eq_true p12
        replace q12 := eq_true q12
        have p21 : 0 ≤ (x3_2 : Int) := of_decide_eq_true Dt
        have q21 : x3_2 < (a0.size : Int) := of_decide_eq_true Dt
        have hx21 := bt_at a0 x3_2
        replace p21 := eq_true p21
        replace q21 := eq_true q21
        go_wp2_with (first | (go_at_call 85; (with_reducible refine (marginaliaref02_Figure.calls (bt a0 x3_2) true _ A22.out).mono ?_); rintro e w' ⟨rfl, ⟨nd, rfl⟩⟩))
        go_roundg k2
        case measure => have := HJ1.out; have := HK2.out; omega
        case rel => exact ⟨(wrap64 (x3_2 + 1)), Rs, H', ⟨by have := HJ1.out; have := HK2.out; omega⟩, by repeat (first | exact Drawn0.refl _ | apply Drawn0.step)⟩
       replace c23 := Bool.eq_false_iff.mpr c23
       subst c23
       rw [if_neg (show ¬ (false = true) by decide)] at H
       by_cases c25 : (bt a0 x3_2) = 45
       ·rw [if_pos c25] at H
        have c25b0 : ((bt a0 x3_2) == 45) = true := beq_iff_eq.mpr c25
        have c25b1 : ((bt a0 x3_2) != 45) = false := bne_eq_false_iff_eq.mpr c25
        clear c25
        have H' := Aside0.mk H
        clear H
        have p12 : 0 ≤ (x3_2 : Int) := of_decide_eq_true Dt
        have q12 : x3_2 < (a0.size : Int) := of_decide_eq_true Dt
        have hx12 := bt_at a0 x3_2
        replace p12 := eq_true p12
        replace q12 := eq_true q12
        have p21 : 0 ≤ (x3_2 : Int) := of_decide_eq_true Dt
        have q21 : x3_2 < (a0.size : Int) := of_decide_eq_true Dt
        have hx21 := bt_at a0 x3_2
        replace p21 := eq_true p21
        replace q21 := eq_true q21
        go_wp2_with (first | (go_at_call 85; (with_reducible refine (marginaliaref02_Figure.calls (bt a0 x3_2) false _ A22.out).mono ?_); rintro e w' ⟨rfl, ⟨nd, rfl⟩⟩; have p24 : 0 ≤ (x3_2 : Int) := of_decide_eq_true Dt; have q24 : x3_2 < (a0.size : Int) := of_decide_eq_true Dt; have hx24 := bt_at a0 x3_2; replace p24 := eq_true p24; replace q24 := eq_true q24))
        go_roundg k2
        case measure => have := HJ1.out; have := HK2.out; omega
        case rel => exact ⟨(wrap64 (x3_2 + 1)), Rs, H', ⟨by have := HJ1.out; have := HK2.out; omega⟩, by repeat (first | exact Drawn0.refl _ | apply Drawn0.step)⟩
       rw [if_neg c25] at H
       have c25b0 : ((bt a0 x3_2) == 45) = false := beq_eq_false_iff_ne.mpr c25
       have c25b1 : ((bt a0 x3_2) != 45) = true := bne_iff_ne.mpr c25
       obtain rfl := Option.some.inj H
       have p12 : 0 ≤ (x3_2 : Int) := of_decide_eq_true Dt
       have q12 : x3_2 < (a0.size : Int) := of_decide_eq_true Dt
       have hx12 := bt_at a0 x3_2
       replace p12 := eq_true p12
       replace q12 := eq_true q12
       have p21 : 0 ≤ (x3_2 : Int) := of_decide_eq_true Dt
       have q21 : x3_2 < (a0.size : Int) := of_decide_eq_true Dt
       have hx21 := bt_at a0 x3_2
       replace p21 := eq_true p21
       replace q21 := eq_true q21
       go_wp2_with (first | (go_at_call 85; (with_reducible refine (marginaliaref02_Figure.calls (bt a0 x3_2) false _ A22.out).mono ?_); rintro e w' ⟨rfl, ⟨nd, rfl⟩⟩; have p24 : 0 ≤ (x3_2 : Int) := of_decide_eq_true Dt; have q24 : x3_2 < (a0.size : Int) := of_decide_eq_true Dt; have hx24 := bt_at a0 x3_2; replace p24 := eq_true p24; replace q24 := eq_true q24))
       go_ret
       exact ⟨Rs, Dw⟩
      rw [if_neg c11] at H
      exact absurd H (by simp)
     rw [if_neg c10] at H
     have c10b0 : decide (x3_2 < (a0.size : Int)) = false := decide_eq_false c10
     clear c10
     obtain rfl := Option.some.inj H
     go_wp2
     go_ret
     exact ⟨Rs, Dw⟩

def marginaliaref11_names.l0 : Nat → List ByteArray → Int → Option (Bool)
  | 0, _, _ => none
  | k + 1, x0, x3 => if x3 < (x0.length : Int) then (if 0 ≤ x3 then ((marginaliaref11_Name.f k (rdOf ByteArray.empty x0 x3)).bind fun t220 => (if t220 = true then (if x3 ≤ (x0.length : Int) then ((marginaliaref11_in.f k (x0.take (x3 : Int).toNat) (rdOf ByteArray.empty x0 x3)).bind fun t223 => (if t223 = true then (some false) else (marginaliaref11_names.l0 k x0 (wrap64 (x3 + 1))))) else (none)) else (some false))) else (none)) else (some true)
def marginaliaref11_names.f (k : Nat) (l0 : List ByteArray) : Option (Bool) := marginaliaref11_names.l0 k l0 0
set_option maxHeartbeats 8000000 in
set_option maxRecDepth 100000 in
theorem marginaliaref11_names.calls (k : Nat) (A0 : Option Addr) (c0 : Nat) (l0 : List ByteArray) (r : Bool) (w : World) (hr0 : Kd.C Kd.string w A0 l0.length l0) (hc0 : l0.length ≤ c0) (h : marginaliaref11_names.f k l0 = some r) :
  Calls Tryd.prog 33 #[.slice A0 l0.length c0] w fun e w' => e = .returned (.bool r) ∧ Drawn0 w w' := by
 have HR0 := Aside0.mk hr0
 have HC0 := Aside0.mk hc0
 clear hr0 hc0
 have H : (marginaliaref11_names.l0 k l0 0) = some r := h
 clear h
 have H' := Aside0.mk H
 clear H
 go_enter Tryd.func33, Tryd.ntmps33
 go_wp2
 repeat (go_quiet (fail); try go_wp2)
 go_loopg [3] k (fun kq v3 w' => ∃ (x3_1 : Int), v3 = .int .i64 x3_1 ∧ Aside0 (marginaliaref11_names.l0 kq l0 x3_1 = some r) ∧ Aside0 (kq ≤ k) ∧ Drawn0 w w')
 case atStart => exact ⟨(0), Rs, H', ⟨Nat.le_refl _⟩, by repeat (first | exact Drawn0.refl _ | apply Drawn0.step)⟩
 case round =>
  clear H'
  obtain ⟨x3_1, rfl, HA, HK1, ⟨m1, rfl⟩⟩ := hrel
  cases gk with
  | zero => exact absurd HA.out (by simp [marginaliaref11_names.l0])
  | succ k1 =>
   have H := HA.out
   clear HA
   simp only [marginaliaref11_names.l0] at H
   by_cases c2 : x3_1 < (l0.length : Int)
   ·rw [if_pos c2] at H
    have c2b0 : decide (x3_1 < (l0.length : Int)) = true := decide_eq_true c2
    clear c2
    by_cases c3 : 0 ≤ x3_1
    ·rw [if_pos c3] at H
     have c3b0 : decide (0 ≤ x3_1) = true := decide_eq_true c3
     clear c3
     replace H := Option.bind_eq_some_iff.mp H
     obtain ⟨t220, A40, H⟩ := H
     try dsimp -simprocs only at H
     have A4 := Aside0.mk A40
     clear A40
     by_cases c5 : t220 = true
     ·subst c5
      rw [if_pos rfl] at H
      have c6b0 := eq_true (of_decide_eq_true Dt : 0 ≤ x3_1)
      by_cases c7 : x3_1 ≤ (l0.length : Int)
      ·rw [if_pos c7] at H
       have c7b0 := eq_true c7
       have c7b1 : decide (x3_1 ≤ (l0.length : Int)) = true := decide_eq_true c7
       clear c7
       replace H := Option.bind_eq_some_iff.mp H
       obtain ⟨t223, A80, H⟩ := H
       try dsimp -simprocs only at H
       have A8 := Aside0.mk A80
       clear A80
       by_cases c9 : t223 = true
       ·subst c9
        rw [if_pos rfl] at H
        obtain rfl := Option.some.inj H
        have p219 : 0 ≤ (x3_1 : Int) := of_decide_eq_true Dt
        have q219 : x3_1 < (l0.length : Int) := of_decide_eq_true Dt
        obtain ⟨ad219, e219, hx219_0⟩ := Kd.at_string HR0.out x3_1 p219 q219
        cases e219
        replace p219 := eq_true p219
        replace q219 := eq_true q219
        obtain ⟨i010, hi010, _, hsz10, _⟩ := info_parts info9; obtain ⟨hcut10, hA10, hC10⟩ := print_take_of (P := Tryd.prog) Value.string (⟨#[]⟩ : ByteArray) 23 9 .i64 Tryd.underlying23 hi010 hsz10 (some ad219) c0 l0 x3_1 (of_decide_eq_true Dt) (of_decide_eq_true Dt) HC0.out; have HR221 := Aside0.mk (Kd.C_of_reads (h1 := fun _ => rfl) (hA10 _ (Kd.reads_of_C HR0.out))); have HC221 := Aside0.mk hC10; clear hA10 hC10 hi010 hsz10; generalize hs_ : l0.take (x3_1 : Int).toNat = s_ at hcut10 HR221 HC221 A8; clear hs_ c6b0 c7b0 c7b1
        go_wp2_with (first | (go_at_call 67; (with_reducible refine (marginaliaref11_Name.calls k1 (rdOf ByteArray.empty l0 x3_1) true _ A4.out).mono ?_); rintro e w' ⟨rfl, ⟨nd, rfl⟩⟩; (try first | exact ⟨rfl, _, World.drewN_drewN _ _ _⟩ | exact ⟨rfl, _, Eq.trans (World.drewN_drewN _ _ _) (congrArg (World.drewN _) (Nat.add_assoc _ _ _))⟩); have p222 : 0 ≤ (x3_1 : Int) := of_decide_eq_true Dt; have q222 : x3_1 < (l0.length : Int) := of_decide_eq_true Dt; obtain ⟨ad222, e222, hx222_0⟩ := Kd.at_string HR0.out x3_1 p222 q222; obtain rfl : ad219 = ad222 := (by injection e222); replace p222 := eq_true p222; replace q222 := eq_true q222) | (go_at_call 35; (with_reducible refine (marginaliaref11_in.calls k1 _ _ s_ (rdOf ByteArray.empty l0 x3_1) true _ ?side1 HC221.out A8.out).mono ?_); (case side1 => repeat (first | exact HR221.out | (with_reducible refine Kd.C_alloc ?_ _) | (with_reducible refine Kd.C_drewN ?_ _) | (with_reducible refine Kd.C_drew ?_))); rintro e w' ⟨rfl, ⟨nd, rfl⟩⟩; (try first | exact ⟨rfl, _, World.drewN_drewN _ _ _⟩ | exact ⟨rfl, _, Eq.trans (World.drewN_drewN _ _ _) (congrArg (World.drewN _) (Nat.add_assoc _ _ _))⟩)))
        repeat (go_quiet (first | (go_at_call 67; (with_reducible refine (marginaliaref11_Name.calls k1 (rdOf ByteArray.empty l0 x3_1) true _ A4.out).mono ?_); rintro e w' ⟨rfl, ⟨nd, rfl⟩⟩; (try first | exact ⟨rfl, _, World.drewN_drewN _ _ _⟩ | exact ⟨rfl, _, Eq.trans (World.drewN_drewN _ _ _) (congrArg (World.drewN _) (Nat.add_assoc _ _ _))⟩); have p222 : 0 ≤ (x3_1 : Int) := of_decide_eq_true Dt; have q222 : x3_1 < (l0.length : Int) := of_decide_eq_true Dt; obtain ⟨ad222, e222, hx222_0⟩ := Kd.at_string HR0.out x3_1 p222 q222; obtain rfl : ad219 = ad222 := (by injection e222); replace p222 := eq_true p222; replace q222 := eq_true q222) | (go_at_call 35; (with_reducible refine (marginaliaref11_in.calls k1 _ _ s_ (rdOf ByteArray.empty l0 x3_1) true _ ?side1 HC221.out A8.out).mono ?_); (case side1 => repeat (first | exact HR221.out | (with_reducible refine Kd.C_alloc ?_ _) | (with_reducible refine Kd.C_drewN ?_ _) | (with_reducible refine Kd.C_drew ?_))); rintro e w' ⟨rfl, ⟨nd, rfl⟩⟩; (try first | exact ⟨rfl, _, World.drewN_drewN _ _ _⟩ | exact ⟨rfl, _, Eq.trans (World.drewN_drewN _ _ _) (congrArg (World.drewN _) (Nat.add_assoc _ _ _))⟩))); try go_wp2_with (first | (go_at_call 67; (with_reducible refine (marginaliaref11_Name.calls k1 (rdOf ByteArray.empty l0 x3_1) true _ A4.out).mono ?_); rintro e w' ⟨rfl, ⟨nd, rfl⟩⟩; (try first | exact ⟨rfl, _, World.drewN_drewN _ _ _⟩ | exact ⟨rfl, _, Eq.trans (World.drewN_drewN _ _ _) (congrArg (World.drewN _) (Nat.add_assoc _ _ _))⟩); have p222 : 0 ≤ (x3_1 : Int) := of_decide_eq_true Dt; have q222 : x3_1 < (l0.length : Int) := of_decide_eq_true Dt; obtain ⟨ad222, e222, hx222_0⟩ := Kd.at_string HR0.out x3_1 p222 q222; obtain rfl : ad219 = ad222 := (by injection e222); replace p222 := eq_true p222; replace q222 := eq_true q222) | (go_at_call 35; (with_reducible refine (marginaliaref11_in.calls k1 _ _ s_ (rdOf ByteArray.empty l0 x3_1) true _ ?side1 HC221.out A8.out).mono ?_); (case side1 => repeat (first | exact HR221.out | (with_reducible refine Kd.C_alloc ?_ _) | (with_reducible refine Kd.C_drewN ?_ _) | (with_reducible refine Kd.C_drew ?_))); rintro e w' ⟨rfl, ⟨nd, rfl⟩⟩; (try first | exact ⟨rfl, _, World.drewN_drewN _ _ _⟩ | exact ⟨rfl, _, Eq.trans (World.drewN_drewN _ _ _) (congrArg (World.drewN _) (Nat.add_assoc _ _ _))⟩))))
        go_ret
        exact ⟨Rs, Dw⟩
       replace c9 := Bool.eq_false_iff.mpr c9
       subst c9
       rw [if_neg (show ¬ (false = true) by decide)] at H
       have H' := Aside0.mk H
       clear H
       have p219 : 0 ≤ (x3_1 : Int) := of_decide_eq_true Dt
       have q219 : x3_1 < (l0.length : Int) := of_decide_eq_true Dt
       obtain ⟨ad219, e219, hx219_0⟩ := Kd.at_string HR0.out x3_1 p219 q219
       cases e219
       replace p219 := eq_true p219
       replace q219 := eq_true q219
       obtain ⟨i011, hi011, _, hsz11, _⟩ := info_parts info9; obtain ⟨hcut11, hA11, hC11⟩ := print_take_of (P := Tryd.prog) Value.string (⟨#[]⟩ : ByteArray) 23 9 .i64 Tryd.underlying23 hi011 hsz11 (some ad219) c0 l0 x3_1 (of_decide_eq_true Dt) (of_decide_eq_true Dt) HC0.out; have HR221 := Aside0.mk (Kd.C_of_reads (h1 := fun _ => rfl) (hA11 _ (Kd.reads_of_C HR0.out))); have HC221 := Aside0.mk hC11; clear hA11 hC11 hi011 hsz11; generalize hs_ : l0.take (x3_1 : Int).toNat = s_ at hcut11 HR221 HC221 A8; clear hs_ c6b0 c7b0 c7b1
       go_wp2_with (first | (go_at_call 67; (with_reducible refine (marginaliaref11_Name.calls k1 (rdOf ByteArray.empty l0 x3_1) true _ A4.out).mono ?_); rintro e w' ⟨rfl, ⟨nd, rfl⟩⟩; (try first | exact ⟨rfl, _, World.drewN_drewN _ _ _⟩ | exact ⟨rfl, _, Eq.trans (World.drewN_drewN _ _ _) (congrArg (World.drewN _) (Nat.add_assoc _ _ _))⟩); have p222 : 0 ≤ (x3_1 : Int) := of_decide_eq_true Dt; have q222 : x3_1 < (l0.length : Int) := of_decide_eq_true Dt; obtain ⟨ad222, e222, hx222_0⟩ := Kd.at_string HR0.out x3_1 p222 q222; obtain rfl : ad219 = ad222 := (by injection e222); replace p222 := eq_true p222; replace q222 := eq_true q222) | (go_at_call 35; (with_reducible refine (marginaliaref11_in.calls k1 _ _ s_ (rdOf ByteArray.empty l0 x3_1) false _ ?side1 HC221.out A8.out).mono ?_); (case side1 => repeat (first | exact HR221.out | (with_reducible refine Kd.C_alloc ?_ _) | (with_reducible refine Kd.C_drewN ?_ _) | (with_reducible refine Kd.C_drew ?_))); rintro e w' ⟨rfl, ⟨nd, rfl⟩⟩; (try first | exact ⟨rfl, _, World.drewN_drewN _ _ _⟩ | exact ⟨rfl, _, Eq.trans (World.drewN_drewN _ _ _) (congrArg (World.drewN _) (Nat.add_assoc _ _ _))⟩)))
       repeat (go_quiet (first | (go_at_call 67; (with_reducible refine (marginaliaref11_Name.calls k1 (rdOf ByteArray.empty l0 x3_1) true _ A4.out).mono ?_); rintro e w' ⟨rfl, ⟨nd, rfl⟩⟩; (try first | exact ⟨rfl, _, World.drewN_drewN _ _ _⟩ | exact ⟨rfl, _, Eq.trans (World.drewN_drewN _ _ _) (congrArg (World.drewN _) (Nat.add_assoc _ _ _))⟩); have p222 : 0 ≤ (x3_1 : Int) := of_decide_eq_true Dt; have q222 : x3_1 < (l0.length : Int) := of_decide_eq_true Dt; obtain ⟨ad222, e222, hx222_0⟩ := Kd.at_string HR0.out x3_1 p222 q222; obtain rfl : ad219 = ad222 := (by injection e222); replace p222 := eq_true p222; replace q222 := eq_true q222) | (go_at_call 35; (with_reducible refine (marginaliaref11_in.calls k1 _ _ s_ (rdOf ByteArray.empty l0 x3_1) false _ ?side1 HC221.out A8.out).mono ?_); (case side1 => repeat (first | exact HR221.out | (with_reducible refine Kd.C_alloc ?_ _) | (with_reducible refine Kd.C_drewN ?_ _) | (with_reducible refine Kd.C_drew ?_))); rintro e w' ⟨rfl, ⟨nd, rfl⟩⟩; (try first | exact ⟨rfl, _, World.drewN_drewN _ _ _⟩ | exact ⟨rfl, _, Eq.trans (World.drewN_drewN _ _ _) (congrArg (World.drewN _) (Nat.add_assoc _ _ _))⟩))); try go_wp2_with (first | (go_at_call 67; (with_reducible refine (marginaliaref11_Name.calls k1 (rdOf ByteArray.empty l0 x3_1) true _ A4.out).mono ?_); rintro e w' ⟨rfl, ⟨nd, rfl⟩⟩; (try first | exact ⟨rfl, _, World.drewN_drewN _ _ _⟩ | exact ⟨rfl, _, Eq.trans (World.drewN_drewN _ _ _) (congrArg (World.drewN _) (Nat.add_assoc _ _ _))⟩); have p222 : 0 ≤ (x3_1 : Int) := of_decide_eq_true Dt; have q222 : x3_1 < (l0.length : Int) := of_decide_eq_true Dt; obtain ⟨ad222, e222, hx222_0⟩ := Kd.at_string HR0.out x3_1 p222 q222; obtain rfl : ad219 = ad222 := (by injection e222); replace p222 := eq_true p222; replace q222 := eq_true q222) | (go_at_call 35; (with_reducible refine (marginaliaref11_in.calls k1 _ _ s_ (rdOf ByteArray.empty l0 x3_1) false _ ?side1 HC221.out A8.out).mono ?_); (case side1 => repeat (first | exact HR221.out | (with_reducible refine Kd.C_alloc ?_ _) | (with_reducible refine Kd.C_drewN ?_ _) | (with_reducible refine Kd.C_drew ?_))); rintro e w' ⟨rfl, ⟨nd, rfl⟩⟩; (try first | exact ⟨rfl, _, World.drewN_drewN _ _ _⟩ | exact ⟨rfl, _, Eq.trans (World.drewN_drewN _ _ _) (congrArg (World.drewN _) (Nat.add_assoc _ _ _))⟩))))
       go_roundg k1
       case measure => have := HK1.out; omega
       case rel => exact ⟨(wrap64 (x3_1 + 1)), Rs, H', ⟨by have := HK1.out; omega⟩, by repeat (first | exact Drawn0.refl _ | apply Drawn0.step)⟩
      rw [if_neg c7] at H
      exact absurd H (by simp)
     replace c5 := Bool.eq_false_iff.mpr c5
     subst c5
     rw [if_neg (show ¬ (false = true) by decide)] at H
     obtain rfl := Option.some.inj H
     have p219 : 0 ≤ (x3_1 : Int) := of_decide_eq_true Dt
     have q219 : x3_1 < (l0.length : Int) := of_decide_eq_true Dt
     obtain ⟨ad219, e219, hx219_0⟩ := Kd.at_string HR0.out x3_1 p219 q219
     cases e219
     replace p219 := eq_true p219
     replace q219 := eq_true q219
     go_wp2_with (first | (go_at_call 67; (with_reducible refine (marginaliaref11_Name.calls k1 (rdOf ByteArray.empty l0 x3_1) false _ A4.out).mono ?_); rintro e w' ⟨rfl, ⟨nd, rfl⟩⟩; (try first | exact ⟨rfl, _, World.drewN_drewN _ _ _⟩ | exact ⟨rfl, _, Eq.trans (World.drewN_drewN _ _ _) (congrArg (World.drewN _) (Nat.add_assoc _ _ _))⟩)))
     repeat (go_quiet (first | (go_at_call 67; (with_reducible refine (marginaliaref11_Name.calls k1 (rdOf ByteArray.empty l0 x3_1) false _ A4.out).mono ?_); rintro e w' ⟨rfl, ⟨nd, rfl⟩⟩; (try first | exact ⟨rfl, _, World.drewN_drewN _ _ _⟩ | exact ⟨rfl, _, Eq.trans (World.drewN_drewN _ _ _) (congrArg (World.drewN _) (Nat.add_assoc _ _ _))⟩))); try go_wp2_with (first | (go_at_call 67; (with_reducible refine (marginaliaref11_Name.calls k1 (rdOf ByteArray.empty l0 x3_1) false _ A4.out).mono ?_); rintro e w' ⟨rfl, ⟨nd, rfl⟩⟩; (try first | exact ⟨rfl, _, World.drewN_drewN _ _ _⟩ | exact ⟨rfl, _, Eq.trans (World.drewN_drewN _ _ _) (congrArg (World.drewN _) (Nat.add_assoc _ _ _))⟩))))
     go_ret
     exact ⟨Rs, Dw⟩
    rw [if_neg c3] at H
    exact absurd H (by simp)
   rw [if_neg c2] at H
   have c2b0 : decide (x3_1 < (l0.length : Int)) = false := decide_eq_false c2
   clear c2
   obtain rfl := Option.some.inj H
   go_wp2
   repeat (go_quiet (fail); try go_wp2)
   go_ret
   exact ⟨Rs, Dw⟩

mutual
def marginaliaref02_In.l0 : Nat → ByteArray → ByteArray → Int → Int → Option (Bool)
  | 0, _, _, _, _ => none
  | k + 1, x0, x1, x5, x6 => if x6 ≤ (x0.size : Int) then (if x6 = (x0.size : Int) then (marginaliaref02_In.j1 k x0 x1 x5 x6 true) else (if 0 ≤ x6 then (if x6 < (x0.size : Int) then (marginaliaref02_In.j1 k x0 x1 x5 x6 ((bt x0 x6) == 32)) else (none)) else (none))) else (some false)
def marginaliaref02_In.j1 : Nat → ByteArray → ByteArray → Int → Int → Bool → Option (Bool)
  | 0, _, _, _, _, _ => none
  | k + 1, x0, x1, x5, x6, x22 => if x22 = true then (if 0 ≤ x5 then (if x5 ≤ x6 then (if x6 ≤ (x0.size : Int) then (if (x0.extract (x5 : Int).toNat (x6 : Int).toNat).toList = x1.toList then (some true) else (marginaliaref02_In.l0 k x0 x1 (wrap64 (x6 + 1)) (wrap64 (x6 + 1)))) else (none)) else (none)) else (none)) else (marginaliaref02_In.l0 k x0 x1 x5 (wrap64 (x6 + 1)))
end
def marginaliaref02_In.f (k : Nat) (a0 : ByteArray) (a1 : ByteArray) : Option (Bool) := marginaliaref02_In.l0 k a0 a1 0 0
set_option maxHeartbeats 8000000 in
set_option maxRecDepth 100000 in
theorem marginaliaref02_In.calls (k : Nat) (a0 : ByteArray) (a1 : ByteArray) (r : Bool) (w : World) (h : marginaliaref02_In.f k a0 a1 = some r) :
  Calls Tryd.prog 69 #[.string a0, .string a1] w fun e w' => e = .returned (.bool r) ∧ Drawn0 w w' := by
 have H : (marginaliaref02_In.l0 k a0 a1 0 0) = some r := h
 clear h
 have H' := Aside0.mk H
 clear H
 go_enter Tryd.func69, Tryd.ntmps69
 go_wp2
 go_loopg [5, 6] k (fun kq v5 v6 w' => ∃ (x5_1 : Int) (x6_1 : Int), v5 = .int .i64 x5_1 ∧ v6 = .int .i64 x6_1 ∧ Aside0 (marginaliaref02_In.l0 kq a0 a1 x5_1 x6_1 = some r) ∧ Aside0 (kq ≤ k) ∧ Drawn0 w w')
 case atStart => exact ⟨(0), (0), Rs, Rs, H', ⟨Nat.le_refl _⟩, by repeat (first | exact Drawn0.refl _ | apply Drawn0.step)⟩
 case round =>
  clear H'
  try clear p2
  obtain ⟨x5_1, x6_1, rfl, rfl, HA, HK1, ⟨m1, rfl⟩⟩ := hrel
  cases gk with
  | zero => exact absurd HA.out (by simp [marginaliaref02_In.l0])
  | succ k1 =>
   have H := HA.out
   clear HA
   simp only [marginaliaref02_In.l0] at H
   by_cases c3 : x6_1 ≤ (a0.size : Int)
   ·rw [if_pos c3] at H
    have c3b0 : decide (x6_1 ≤ (a0.size : Int)) = true := decide_eq_true c3
    clear c3
    have HC4 := Aside0.mk H
    clear H
    go_upto_region 5 with (fail)
    go_cut [22] (fun v22 wc => ∃ (kq : Nat) (x22_3 : Bool), v22 = .bool x22_3 ∧ Aside0 (marginaliaref02_In.j1 kq a0 a1 x5_1 x6_1 x22_3 = some r) ∧ Aside0 (kq ≤ k1) ∧ Drawn0 w wc)
    case first =>
     have H := HC4.out
     clear HC4
     by_cases c5 : x6_1 = (a0.size : Int)
     ·rw [if_pos c5] at H
      have c5b0 : (x6_1 == (a0.size : Int)) = true := beq_iff_eq.mpr c5
      have c5b1 : (x6_1 != (a0.size : Int)) = false := bne_eq_false_iff_eq.mpr c5
      clear c5
      (first | rw [c5b0] | (simp only [i64_w, i32_w]; rw [c5b0]) | skip)
      have H' := Aside0.mk H
      clear H
      go_wp2
      go_meet
      case rel => exact ⟨_, (true), Rs, H', ⟨by have := HK1.out; first | omega | exact Nat.le_refl _⟩, by repeat (first | exact Drawn0.refl _ | apply Drawn0.step)⟩
     rw [if_neg c5] at H
     have c5b0 : (x6_1 == (a0.size : Int)) = false := beq_eq_false_iff_ne.mpr c5
     have c5b1 : (x6_1 != (a0.size : Int)) = true := bne_iff_ne.mpr c5
     (first | rw [c5b0] | (simp only [i64_w, i32_w]; rw [c5b0]) | skip)
     by_cases c6 : 0 ≤ x6_1
     ·rw [if_pos c6] at H
      have c6b0 : decide (0 ≤ x6_1) = true := decide_eq_true c6
      clear c6
      by_cases c7 : x6_1 < (a0.size : Int)
      ·rw [if_pos c7] at H
       have c7b0 : decide (x6_1 < (a0.size : Int)) = true := decide_eq_true c7
       clear c7
       have H' := Aside0.mk H
       clear H
       have p8 : 0 ≤ (x6_1 : Int) := of_decide_eq_true Dt
       have q8 : x6_1 < (a0.size : Int) := of_decide_eq_true Dt
       have hx8 := bt_at a0 x6_1
       replace p8 := eq_true p8
       replace q8 := eq_true q8
       go_wp2
       go_meet
       case rel => exact ⟨_, (((bt a0 x6_1) == 32)), Rs, H', ⟨by have := HK1.out; first | omega | exact Nat.le_refl _⟩, by repeat (first | exact Drawn0.refl _ | apply Drawn0.step)⟩
      rw [if_neg c7] at H
      exact absurd H (by simp)
     rw [if_neg c6] at H
     exact absurd H (by simp)
    case rest =>
     clear HC4
     try clear p2
     try clear c3
     try clear c3b0
     try clear c5
     try clear c5b0
     try clear c5b1
     try clear c6
     try clear c6b0
     try clear c7
     try clear c7b0
     try clear p8
     try clear q8
     try clear hx8
     try clear p2
     try clear p8
     try clear q8
     obtain ⟨kq, x22_3, rfl, HA, HJ3, ⟨mc3, rfl⟩⟩ := hcut
     cases kq with
     | zero => exact absurd HA.out (by simp [marginaliaref02_In.j1])
     | succ kj3 =>
      have H := HA.out
      clear HA
      simp only [marginaliaref02_In.j1] at H
      by_cases c9 : x22_3 = true
      ·subst c9
       rw [if_pos rfl] at H
       by_cases c10 : 0 ≤ x5_1
       ·rw [if_pos c10] at H
        have c10b0 := eq_true c10
        have c10b1 : decide (0 ≤ x5_1) = true := decide_eq_true c10
        clear c10
        by_cases c11 : x5_1 ≤ x6_1
        ·rw [if_pos c11] at H
         have c11b0 := eq_true c11
         have c11b1 : decide (x5_1 ≤ x6_1) = true := decide_eq_true c11
         clear c11
         by_cases c12 : x6_1 ≤ (a0.size : Int)
         ·rw [if_pos c12] at H
          have c12b0 := eq_true c12
          have c12b1 : decide (x6_1 ≤ (a0.size : Int)) = true := decide_eq_true c12
          clear c12
          by_cases c13 : (a0.extract (x5_1 : Int).toNat (x6_1 : Int).toNat).toList = a1.toList
          ·rw [if_pos c13] at H
           have c13b0 : ((a0.extract (x5_1 : Int).toNat (x6_1 : Int).toNat).toList == a1.toList) = true := beq_iff_eq.mpr c13
           have c13b1 : ((a0.extract (x5_1 : Int).toNat (x6_1 : Int).toNat).toList != a1.toList) = false := bne_eq_false_iff_eq.mpr c13
           clear c13
           obtain rfl := Option.some.inj H
           go_wp2
           go_ret
           exact ⟨Rs, Dw⟩
          rw [if_neg c13] at H
          have c13b0 : ((a0.extract (x5_1 : Int).toNat (x6_1 : Int).toNat).toList == a1.toList) = false := beq_eq_false_iff_ne.mpr c13
          have c13b1 : ((a0.extract (x5_1 : Int).toNat (x6_1 : Int).toNat).toList != a1.toList) = true := bne_iff_ne.mpr c13
          have H' := Aside0.mk H
          clear H
          go_wp2
          go_roundg kj3
          case measure => have := HK1.out; have := HJ3.out; omega
          case rel => exact ⟨(wrap64 (x6_1 + 1)), (wrap64 (x6_1 + 1)), Rs, Rs, H', ⟨by have := HK1.out; have := HJ3.out; omega⟩, by repeat (first | exact Drawn0.refl _ | apply Drawn0.step)⟩
         rw [if_neg c12] at H
         exact absurd H (by simp)
        rw [if_neg c11] at H
        exact absurd H (by simp)
       rw [if_neg c10] at H
       exact absurd H (by simp)
      replace c9 := Bool.eq_false_iff.mpr c9
      subst c9
      rw [if_neg (show ¬ (false = true) by decide)] at H
      have H' := Aside0.mk H
      clear H
      go_wp2
      go_roundg kj3
      case measure => have := HK1.out; have := HJ3.out; omega
      case rel => exact ⟨(x5_1), (wrap64 (x6_1 + 1)), Rs, Rs, H', ⟨by have := HK1.out; have := HJ3.out; omega⟩, by repeat (first | exact Drawn0.refl _ | apply Drawn0.step)⟩
   rw [if_neg c3] at H
   have c3b0 : decide (x6_1 ≤ (a0.size : Int)) = false := decide_eq_false c3
   clear c3
   obtain rfl := Option.some.inj H
   go_wp2
   go_ret
   exact ⟨Rs, Dw⟩

def marginaliaref02_names.f (a0 : Int) : Option (List ByteArray) := if a0 = 1 then none else (if a0 = 2 then (some (([(⟨#[105, 102, 114, 97, 109, 101, 32, 110, 111, 101, 109, 98, 101, 100, 32, 110, 111, 102, 114, 97, 109, 101, 115, 32, 115, 99, 114, 105, 112, 116, 32, 115, 116, 121, 108, 101, 32, 120, 109, 112]⟩ : ByteArray)] : List ByteArray))) else (if a0 = 3 then (some (([(⟨#[116, 101, 120, 116, 97, 114, 101, 97, 32, 116, 105, 116, 108, 101]⟩ : ByteArray)] : List ByteArray))) else (if a0 = 5 then none else (if a0 = 7 then none else (if a0 = 6 then none else (if a0 = 8 then none else (if a0 = 9 then none else (if a0 = 11 then none else (if a0 = 12 then (some (([(⟨#[98, 111, 100, 121, 32, 102, 114, 97, 109, 101, 32, 102, 114, 97, 109, 101, 115, 101, 116, 32, 104, 101, 97, 100, 32, 104, 116, 109, 108]⟩ : ByteArray), (⟨#[99, 97, 112, 116, 105, 111, 110, 32, 99, 111, 108, 32, 99, 111, 108, 103, 114, 111, 117, 112, 32, 116, 98, 111, 100, 121, 32, 116, 100, 32, 116, 102, 111, 111, 116, 32, 116, 104, 32, 116, 104, 101, 97, 100, 32, 116, 114]⟩ : ByteArray)] : List ByteArray))) else (if a0 = 10 then none else (if a0 = 4 then none else (some ([] : List ByteArray)))))))))))))
set_option maxHeartbeats 8000000 in
set_option maxRecDepth 100000 in
theorem marginaliaref02_names.calls (a0 : Int) (r : List ByteArray) (w : World) (h : marginaliaref02_names.f a0 = some r) :
  Calls Tryd.prog 86 #[.int .i64 a0] w fun e w' => ∃ v0_ : Value, e = .returned (v0_) ∧ Kd.R Kd.string 9 w' w.heap.size (fun _ => True) v0_ r ∧ Below w.heap.size w w' := by
 have HB := Aside0.mk (Below.refl w.heap.size w)
 have H := h
 clear h
 unfold marginaliaref02_names.f at H
 by_cases c2 : a0 = 1
 ·rw [if_pos c2] at H
  exact absurd H (by simp)
 rw [if_neg c2] at H
 have c2b0 : (a0 == 1) = false := beq_eq_false_iff_ne.mpr c2
 have c2b1 : (a0 != 1) = true := bne_iff_ne.mpr c2
 by_cases c5 : a0 = 2
 ·rw [if_pos c5] at H
  have c5b0 : (a0 == 2) = true := beq_iff_eq.mpr c5
  have c5b1 : (a0 != 2) = false := bne_eq_false_iff_eq.mpr c5
  clear c5
  obtain ⟨y278, hy278⟩ : ∃ y_ : List ByteArray, y_ = (([(⟨#[105, 102, 114, 97, 109, 101, 32, 110, 111, 101, 109, 98, 101, 100, 32, 110, 111, 102, 114, 97, 109, 101, 115, 32, 115, 99, 114, 105, 112, 116, 32, 115, 116, 121, 108, 101, 32, 120, 109, 112]⟩ : ByteArray)] : List ByteArray)) := ⟨_, rfl⟩
  replace H : (some y278) = some r := by first | (rw [hy278]; with_reducible exact H) | (have H2_ := (Option.bind_some _ _).symm.trans H; rw [hy278]; with_reducible exact H2_) | (have H2_ := (Option.bind_some _ _).symm.trans H; with_reducible exact H2_) | with_reducible exact H | (rw [hy278]; exact H) | exact H
  have Ny278 := Aside0.mk hy278
  clear hy278
  obtain rfl := Option.some.inj H
  go_enter Tryd.func86, Tryd.ntmps86
  go_wp2_with (first | ((with_reducible refine gate_dst (N := 9) rfl ?_); refine Kd.R_lit Kd.string _ 9 ?hg (N := 9) ?hd (xs := ([(⟨#[105, 102, 114, 97, 109, 101, 32, 110, 111, 101, 109, 98, 101, 100, 32, 110, 111, 102, 114, 97, 109, 101, 115, 32, 115, 99, 114, 105, 112, 116, 32, 115, 116, 121, 108, 101, 32, 120, 109, 112]⟩ : ByteArray)] : List ByteArray)) (inner := [.string (⟨#[105, 102, 114, 97, 109, 101, 32, 110, 111, 101, 109, 98, 101, 100, 32, 110, 111, 102, 114, 97, 109, 101, 115, 32, 115, 99, 114, 105, 112, 116, 32, 115, 116, 121, 108, 101, 32, 120, 109, 112]⟩ : ByteArray)]) (ok := fun _ => True) (okp := fun _ => True) ?hr ?hp (fun _ hk => hk) trivial (Below.refl _ _) (Nat.le_refl _) (by simp) ?_; (case hd => rfl); (case hg => rfl); (case hr => first | (go_simp; done) | (go_simp; rfl)); (case hp => exact (Reps.one (show Kd.M Kd.string _ _ _ (⟨#[105, 102, 114, 97, 109, 101, 32, 110, 111, 101, 109, 98, 101, 100, 32, 110, 111, 102, 114, 97, 109, 101, 115, 32, 115, 99, 114, 105, 112, 116, 32, 115, 116, 121, 108, 101, 32, 120, 109, 112]⟩ : ByteArray) [.string (⟨#[105, 102, 114, 97, 109, 101, 32, 110, 111, 101, 109, 98, 101, 100, 32, 110, 111, 102, 114, 97, 109, 101, 115, 32, 115, 99, 114, 105, 112, 116, 32, 115, 116, 121, 108, 101, 32, 120, 109, 112]⟩ : ByteArray)] from rfl) (Reps.none _ _))); intro v279 w6 ho7 hb hg_ hnew_; clear hg_ hnew_; (first | rw [← Ny278.out] at ho7 | (simp only [Int.reduceToNat] at ho7; rw [← Ny278.out] at ho7)); replace HO280 := Aside0.mk (Kd.R_lower ho7 (below_size Bw)); replace HB := Bs hb; clear hb ho7))
  go_ret
  exact ⟨_, Re, by (with_reducible repeat (first | apply Kd.R_alloc | apply Kd.R_drewN | apply Kd.R_drew)); exact HO280.out, Bw⟩
 rw [if_neg c5] at H
 have c5b0 : (a0 == 2) = false := beq_eq_false_iff_ne.mpr c5
 have c5b1 : (a0 != 2) = true := bne_iff_ne.mpr c5
 by_cases c8 : a0 = 3
 ·rw [if_pos c8] at H
  have c8b0 : (a0 == 3) = true := beq_iff_eq.mpr c8
  have c8b1 : (a0 != 3) = false := bne_eq_false_iff_eq.mpr c8
  clear c8
  obtain ⟨y281, hy281⟩ : ∃ y_ : List ByteArray, y_ = (([(⟨#[116, 101, 120, 116, 97, 114, 101, 97, 32, 116, 105, 116, 108, 101]⟩ : ByteArray)] : List ByteArray)) := ⟨_, rfl⟩
  replace H : (some y281) = some r := by first | (rw [hy281]; with_reducible exact H) | (have H2_ := (Option.bind_some _ _).symm.trans H; rw [hy281]; with_reducible exact H2_) | (have H2_ := (Option.bind_some _ _).symm.trans H; with_reducible exact H2_) | with_reducible exact H | (rw [hy281]; exact H) | exact H
  have Ny281 := Aside0.mk hy281
  clear hy281
  obtain rfl := Option.some.inj H
  go_enter Tryd.func86, Tryd.ntmps86
  go_wp2_with (first | ((with_reducible refine gate_dst (N := 12) rfl ?_); refine Kd.R_lit Kd.string _ 9 ?hg (N := 12) ?hd (xs := ([(⟨#[116, 101, 120, 116, 97, 114, 101, 97, 32, 116, 105, 116, 108, 101]⟩ : ByteArray)] : List ByteArray)) (inner := [.string (⟨#[116, 101, 120, 116, 97, 114, 101, 97, 32, 116, 105, 116, 108, 101]⟩ : ByteArray)]) (ok := fun _ => True) (okp := fun _ => True) ?hr ?hp (fun _ hk => hk) trivial (Below.refl _ _) (Nat.le_refl _) (by simp) ?_; (case hd => rfl); (case hg => rfl); (case hr => first | (go_simp; done) | (go_simp; rfl)); (case hp => exact (Reps.one (show Kd.M Kd.string _ _ _ (⟨#[116, 101, 120, 116, 97, 114, 101, 97, 32, 116, 105, 116, 108, 101]⟩ : ByteArray) [.string (⟨#[116, 101, 120, 116, 97, 114, 101, 97, 32, 116, 105, 116, 108, 101]⟩ : ByteArray)] from rfl) (Reps.none _ _))); intro v282 w9 ho10 hb hg_ hnew_; clear hg_ hnew_; (first | rw [← Ny281.out] at ho10 | (simp only [Int.reduceToNat] at ho10; rw [← Ny281.out] at ho10)); replace HO283 := Aside0.mk (Kd.R_lower ho10 (below_size Bw)); replace HB := Bs hb; clear hb ho10))
  go_ret
  exact ⟨_, Re, by (with_reducible repeat (first | apply Kd.R_alloc | apply Kd.R_drewN | apply Kd.R_drew)); exact HO283.out, Bw⟩
 rw [if_neg c8] at H
 have c8b0 : (a0 == 3) = false := beq_eq_false_iff_ne.mpr c8
 have c8b1 : (a0 != 3) = true := bne_iff_ne.mpr c8
 by_cases c11 : a0 = 5
 ·rw [if_pos c11] at H
  exact absurd H (by simp)
 rw [if_neg c11] at H
 have c11b0 : (a0 == 5) = false := beq_eq_false_iff_ne.mpr c11
 have c11b1 : (a0 != 5) = true := bne_iff_ne.mpr c11
 by_cases c14 : a0 = 7
 ·rw [if_pos c14] at H
  exact absurd H (by simp)
 rw [if_neg c14] at H
 have c14b0 : (a0 == 7) = false := beq_eq_false_iff_ne.mpr c14
 have c14b1 : (a0 != 7) = true := bne_iff_ne.mpr c14
 by_cases c17 : a0 = 6
 ·rw [if_pos c17] at H
  exact absurd H (by simp)
 rw [if_neg c17] at H
 have c17b0 : (a0 == 6) = false := beq_eq_false_iff_ne.mpr c17
 have c17b1 : (a0 != 6) = true := bne_iff_ne.mpr c17
 by_cases c20 : a0 = 8
 ·rw [if_pos c20] at H
  exact absurd H (by simp)
 rw [if_neg c20] at H
 have c20b0 : (a0 == 8) = false := beq_eq_false_iff_ne.mpr c20
 have c20b1 : (a0 != 8) = true := bne_iff_ne.mpr c20
 by_cases c23 : a0 = 9
 ·rw [if_pos c23] at H
  exact absurd H (by simp)
 rw [if_neg c23] at H
 have c23b0 : (a0 == 9) = false := beq_eq_false_iff_ne.mpr c23
 have c23b1 : (a0 != 9) = true := bne_iff_ne.mpr c23
 by_cases c26 : a0 = 11
 ·rw [if_pos c26] at H
  exact absurd H (by simp)
 rw [if_neg c26] at H
 have c26b0 : (a0 == 11) = false := beq_eq_false_iff_ne.mpr c26
 have c26b1 : (a0 != 11) = true := bne_iff_ne.mpr c26
 by_cases c29 : a0 = 12
 ·rw [if_pos c29] at H
  have c29b0 : (a0 == 12) = true := beq_iff_eq.mpr c29
  have c29b1 : (a0 != 12) = false := bne_eq_false_iff_eq.mpr c29
  clear c29
  obtain ⟨y302, hy302⟩ : ∃ y_ : List ByteArray, y_ = (([(⟨#[98, 111, 100, 121, 32, 102, 114, 97, 109, 101, 32, 102, 114, 97, 109, 101, 115, 101, 116, 32, 104, 101, 97, 100, 32, 104, 116, 109, 108]⟩ : ByteArray), (⟨#[99, 97, 112, 116, 105, 111, 110, 32, 99, 111, 108, 32, 99, 111, 108, 103, 114, 111, 117, 112, 32, 116, 98, 111, 100, 121, 32, 116, 100, 32, 116, 102, 111, 111, 116, 32, 116, 104, 32, 116, 104, 101, 97, 100, 32, 116, 114]⟩ : ByteArray)] : List ByteArray)) := ⟨_, rfl⟩
  replace H : (some y302) = some r := by first | (rw [hy302]; with_reducible exact H) | (have H2_ := (Option.bind_some _ _).symm.trans H; rw [hy302]; with_reducible exact H2_) | (have H2_ := (Option.bind_some _ _).symm.trans H; with_reducible exact H2_) | with_reducible exact H | (rw [hy302]; exact H) | exact H
  have Ny302 := Aside0.mk hy302
  clear hy302
  obtain rfl := Option.some.inj H
  go_enter Tryd.func86, Tryd.ntmps86
  go_wp2_with (first | ((with_reducible refine gate_dst (N := 33) rfl ?_); refine Kd.R_lit Kd.string _ 9 ?hg (N := 33) ?hd (xs := ([(⟨#[98, 111, 100, 121, 32, 102, 114, 97, 109, 101, 32, 102, 114, 97, 109, 101, 115, 101, 116, 32, 104, 101, 97, 100, 32, 104, 116, 109, 108]⟩ : ByteArray), (⟨#[99, 97, 112, 116, 105, 111, 110, 32, 99, 111, 108, 32, 99, 111, 108, 103, 114, 111, 117, 112, 32, 116, 98, 111, 100, 121, 32, 116, 100, 32, 116, 102, 111, 111, 116, 32, 116, 104, 32, 116, 104, 101, 97, 100, 32, 116, 114]⟩ : ByteArray)] : List ByteArray)) (inner := [.string (⟨#[98, 111, 100, 121, 32, 102, 114, 97, 109, 101, 32, 102, 114, 97, 109, 101, 115, 101, 116, 32, 104, 101, 97, 100, 32, 104, 116, 109, 108]⟩ : ByteArray), .string (⟨#[99, 97, 112, 116, 105, 111, 110, 32, 99, 111, 108, 32, 99, 111, 108, 103, 114, 111, 117, 112, 32, 116, 98, 111, 100, 121, 32, 116, 100, 32, 116, 102, 111, 111, 116, 32, 116, 104, 32, 116, 104, 101, 97, 100, 32, 116, 114]⟩ : ByteArray)]) (ok := fun _ => True) (okp := fun _ => True) ?hr ?hp (fun _ hk => hk) trivial (Below.refl _ _) (Nat.le_refl _) (by simp) ?_; (case hd => rfl); (case hg => rfl); (case hr => first | (go_simp; done) | (go_simp; rfl)); (case hp => exact (Reps.one (show Kd.M Kd.string _ _ _ (⟨#[98, 111, 100, 121, 32, 102, 114, 97, 109, 101, 32, 102, 114, 97, 109, 101, 115, 101, 116, 32, 104, 101, 97, 100, 32, 104, 116, 109, 108]⟩ : ByteArray) [.string (⟨#[98, 111, 100, 121, 32, 102, 114, 97, 109, 101, 32, 102, 114, 97, 109, 101, 115, 101, 116, 32, 104, 101, 97, 100, 32, 104, 116, 109, 108]⟩ : ByteArray)] from rfl) (Reps.one (show Kd.M Kd.string _ _ _ (⟨#[99, 97, 112, 116, 105, 111, 110, 32, 99, 111, 108, 32, 99, 111, 108, 103, 114, 111, 117, 112, 32, 116, 98, 111, 100, 121, 32, 116, 100, 32, 116, 102, 111, 111, 116, 32, 116, 104, 32, 116, 104, 101, 97, 100, 32, 116, 114]⟩ : ByteArray) [.string (⟨#[99, 97, 112, 116, 105, 111, 110, 32, 99, 111, 108, 32, 99, 111, 108, 103, 114, 111, 117, 112, 32, 116, 98, 111, 100, 121, 32, 116, 100, 32, 116, 102, 111, 111, 116, 32, 116, 104, 32, 116, 104, 101, 97, 100, 32, 116, 114]⟩ : ByteArray)] from rfl) (Reps.none _ _)))); intro v303 w30 ho31 hb hg_ hnew_; clear hg_ hnew_; (first | rw [← Ny302.out] at ho31 | (simp only [Int.reduceToNat] at ho31; rw [← Ny302.out] at ho31)); replace HO304 := Aside0.mk (Kd.R_lower ho31 (below_size Bw)); replace HB := Bs hb; clear hb ho31))
  go_ret
  exact ⟨_, Re, by (with_reducible repeat (first | apply Kd.R_alloc | apply Kd.R_drewN | apply Kd.R_drew)); exact HO304.out, Bw⟩
 rw [if_neg c29] at H
 have c29b0 : (a0 == 12) = false := beq_eq_false_iff_ne.mpr c29
 have c29b1 : (a0 != 12) = true := bne_iff_ne.mpr c29
 by_cases c32 : a0 = 10
 ·rw [if_pos c32] at H
  exact absurd H (by simp)
 rw [if_neg c32] at H
 have c32b0 : (a0 == 10) = false := beq_eq_false_iff_ne.mpr c32
 have c32b1 : (a0 != 10) = true := bne_iff_ne.mpr c32
 by_cases c35 : a0 = 4
 ·rw [if_pos c35] at H
  exact absurd H (by simp)
 rw [if_neg c35] at H
 have c35b0 : (a0 == 4) = false := beq_eq_false_iff_ne.mpr c35
 have c35b1 : (a0 != 4) = true := bne_iff_ne.mpr c35
 obtain rfl := Option.some.inj H
 go_enter Tryd.func86, Tryd.ntmps86
 go_wp2
 go_ret
 exact ⟨_, Re, by first | exact Kd.R_nil _ _ _ _ _ | exact Kd.N_nil _ _ _ _ _ | exact Kd.V_nil _ _ _ _ _ | exact Kd.Q_nil _ _ _ _ _ | exact Kd.S_nil _ _ _ _ _, Bw⟩


def marginaliaref02_Is.l0 : Nat → ByteArray → List ByteArray → Int → Option (Bool)
  | 0, _, _, _ => none
  | k + 1, x1, x5, x6 => if x6 < (x5.length : Int) then (if 0 ≤ x6 then ((marginaliaref02_In.f k (rdOf ByteArray.empty x5 x6) x1).bind fun t228 => (if t228 = true then (some true) else (marginaliaref02_Is.l0 k x1 x5 (wrap64 (x6 + 1))))) else (none)) else (some false)
def marginaliaref02_Is.f (k : Nat) (a0 : Int) (a1 : ByteArray) : Option (Bool) := (marginaliaref02_names.f a0).bind fun t224 => (marginaliaref02_Is.l0 k a1 t224 0)
set_option maxHeartbeats 8000000 in
set_option maxRecDepth 100000 in
theorem marginaliaref02_Is.calls (k : Nat) (a0 : Int) (a1 : ByteArray) (r : Bool) (w : World) (h : marginaliaref02_Is.f k a0 a1 = some r) :
  Calls Tryd.prog 68 #[.int .i64 a0, .string a1] w fun e w' => e = .returned (.bool r) ∧ Below w.heap.size w w' := by
 have HB := Aside0.mk (Below.refl w.heap.size w)
 have H := h
 clear h
 unfold marginaliaref02_Is.f at H
 replace H := Option.bind_eq_some_iff.mp H
 obtain ⟨t224, A30, H⟩ := H
 replace H : (marginaliaref02_Is.l0 k a1 t224 0) = some r := H
 have A3 := Aside0.mk A30
 clear A30
 have H' := Aside0.mk H
 clear H
 go_enter Tryd.func68, Tryd.ntmps68
 go_wp2_with (first | ((with_reducible refine gate_callee (f := 86) rfl ?_); refine goL (some 8) Tryd.func86 #[.int .i64 a0] ?_; (with_reducible refine (marginaliaref02_names.calls a0 t224 _ A3.out).mono ?_); rintro e w4 ⟨v225, rfl, ho0, hb⟩; refine ⟨_, rfl, ?_⟩; replace HO226 := Aside0.mk (Kd.R_lower ho0 (below_size Bw)); replace HB := Bs hb; (try clear hb); (try clear hb2); (try clear hk); (try clear hi); (try clear ho0)))
 go_loopg [6] k (fun kq v6 w' => ∃ (x6_1 : Int), v6 = .int .i64 x6_1 ∧ Aside0 (marginaliaref02_Is.l0 kq a1 t224 x6_1 = some r) ∧ Aside0 (kq ≤ k) ∧ Aside0 (Kd.R Kd.string 9 w' w.heap.size (fun _ => True) v225 t224) ∧ Aside0 (Below w.heap.size w w'))
 case atStart => exact ⟨(0), Rs, H', ⟨Nat.le_refl _⟩, ⟨by (with_reducible repeat (first | apply Kd.R_alloc | apply Kd.R_drewN | apply Kd.R_drew)); exact HO226.out⟩, ⟨Bw⟩⟩
 case round =>
  clear H'
  try clear p2
  obtain ⟨x6_1, rfl, HA, HK1, HO_5, HB⟩ := hrel
  cases gk with
  | zero => exact absurd HA.out (by simp [marginaliaref02_Is.l0])
  | succ k1 =>
   have H := HA.out
   clear HA
   simp only [marginaliaref02_Is.l0] at H
   by_cases c5 : x6_1 < (t224.length : Int)
   ·rw [if_pos c5] at H
    have c5b0 : decide (x6_1 < (t224.length : Int)) = true := decide_eq_true c5
    clear c5
    by_cases c6 : 0 ≤ x6_1
    ·rw [if_pos c6] at H
     have c6b0 : decide (0 ≤ x6_1) = true := decide_eq_true c6
     clear c6
     replace H := Option.bind_eq_some_iff.mp H
     obtain ⟨t228, A70, H⟩ := H
     try dsimp -simprocs only at H
     have A7 := Aside0.mk A70
     clear A70
     by_cases c8 : t228 = true
     ·subst c8
      rw [if_pos rfl] at H
      obtain rfl := Option.some.inj H
      obtain ⟨Ao9, co9, eo9⟩ := Kd.R_slice HO_5.out
      subst eo9
      have p227 : 0 ≤ (x6_1 : Int) := of_decide_eq_true Dt
      have q227 : x6_1 < (t224.length : Int) := of_decide_eq_true Dt
      obtain ⟨ad227, e227, hx227_0⟩ := Kd.at_string (Kd.R_reads' HO_5.out).2.2 x6_1 p227 q227
      cases e227
      replace p227 := eq_true p227
      replace q227 := eq_true q227
      go_wp2_with (first | ((with_reducible refine gate_callee (f := 69) rfl ?_); refine goL (some 20) Tryd.func69 #[.string (rdOf ByteArray.empty t224 x6_1), .string a1] ?_; (with_reducible refine (marginaliaref02_In.calls k1 (rdOf ByteArray.empty t224 x6_1) a1 true _ A7.out).mono ?_); rintro e w' ⟨rfl, ⟨nd, rfl⟩⟩; refine ⟨_, rfl, ?_⟩))
      go_ret
      exact ⟨Re, Bw⟩
     replace c8 := Bool.eq_false_iff.mpr c8
     subst c8
     rw [if_neg (show ¬ (false = true) by decide)] at H
     have H' := Aside0.mk H
     clear H
     obtain ⟨Ao10, co10, eo10⟩ := Kd.R_slice HO_5.out
     subst eo10
     have p227 : 0 ≤ (x6_1 : Int) := of_decide_eq_true Dt
     have q227 : x6_1 < (t224.length : Int) := of_decide_eq_true Dt
     obtain ⟨ad227, e227, hx227_0⟩ := Kd.at_string (Kd.R_reads' HO_5.out).2.2 x6_1 p227 q227
     cases e227
     replace p227 := eq_true p227
     replace q227 := eq_true q227
     go_wp2_with (first | ((with_reducible refine gate_callee (f := 69) rfl ?_); refine goL (some 20) Tryd.func69 #[.string (rdOf ByteArray.empty t224 x6_1), .string a1] ?_; (with_reducible refine (marginaliaref02_In.calls k1 (rdOf ByteArray.empty t224 x6_1) a1 false _ A7.out).mono ?_); rintro e w' ⟨rfl, ⟨nd, rfl⟩⟩; refine ⟨_, rfl, ?_⟩))
     go_roundg k1
     case measure => have := HK1.out; omega
     case rel => exact ⟨(wrap64 (x6_1 + 1)), Rs, H', ⟨by have := HK1.out; omega⟩, ⟨by (with_reducible repeat (first | apply Kd.R_alloc | apply Kd.R_drewN | apply Kd.R_drew)); exact HO_5.out⟩, ⟨Bw⟩⟩
    rw [if_neg c6] at H
    exact absurd H (by simp)
   rw [if_neg c5] at H
   have c5b0 : decide (x6_1 < (t224.length : Int)) = false := decide_eq_false c5
   clear c5
   obtain rfl := Option.some.inj H
   obtain ⟨Ao11, co11, eo11⟩ := Kd.R_slice HO_5.out
   subst eo11
   go_wp2
   go_ret
   exact ⟨Re, Bw⟩

mutual
def marginaliaref11_rule.j0 : Nat → Bool → ByteArray → List ByteArray → Option (Bool)
  | 0, _, _, _ => none
  | k + 1, x29, x230000, x230001 => if x29 = true then (some false) else (marginaliaref11_rule.l0 k 0 x230000 x230001)
def marginaliaref11_rule.l0 : Nat → Int → ByteArray → List ByteArray → Option (Bool)
  | 0, _, _, _ => none
  | k + 1, x3, x230000, x230001 => if x3 < (x230001.length : Int) then (if 0 ≤ x3 then (if (rdOf ByteArray.empty x230001 x3).toList = ([115, 116, 121, 108, 101] : List UInt8) then (some false) else (if (rdOf ByteArray.empty x230001 x3).toList = ([115, 114, 99, 100, 111, 99] : List UInt8) then (some false) else (if ((rdOf ByteArray.empty x230001 x3).size : Int) ≥ 2 then (if 0 ≤ 2 then (if 2 ≤ ((rdOf ByteArray.empty x230001 x3).size : Int) then (if ((rdOf ByteArray.empty x230001 x3).extract 0 2).toList = ([111, 110] : List UInt8) then (some false) else (marginaliaref11_rule.l0 k (wrap64 (x3 + 1)) x230000 x230001)) else (none)) else (none)) else (marginaliaref11_rule.l0 k (wrap64 (x3 + 1)) x230000 x230001)))) else (none)) else ((marginaliaref02_In.f k (⟨#[109, 97, 116, 104, 32, 110, 111, 115, 99, 114, 105, 112, 116, 32, 112, 108, 97, 105, 110, 116, 101, 120, 116, 32, 115, 118, 103, 32, 116, 101, 109, 112, 108, 97, 116, 101]⟩ : ByteArray) x230000).bind fun t236 => (some (!t236)))
end
def marginaliaref11_rule.f (k : Nat) (a0_0 : ByteArray) (l0_1 : List ByteArray) : Option (Bool) := (marginaliaref11_Name.f k a0_0).bind fun t230 => (if t230 = true then ((marginaliaref11_names.f k l0_1).bind fun t231 => (if t231 = true then ((marginaliaref02_Is.f k 2 a0_0).bind fun t232 => (if t232 = true then (marginaliaref11_rule.j0 k true a0_0 l0_1) else ((marginaliaref02_Is.f k 3 a0_0).bind fun t233 => (if t233 = true then (marginaliaref11_rule.j0 k true a0_0 l0_1) else ((marginaliaref02_Is.f k 12 a0_0).bind fun t234 => (marginaliaref11_rule.j0 k t234 a0_0 l0_1)))))) else (marginaliaref11_rule.j0 k true a0_0 l0_1))) else (marginaliaref11_rule.j0 k true a0_0 l0_1))
set_option maxHeartbeats 8000000 in
set_option maxRecDepth 100000 in
theorem marginaliaref11_rule.calls (k : Nat) (a0_0 : ByteArray) (A0_1 : Option Addr) (c0_1 : Nat) (l0_1 : List ByteArray) (r : Bool) (w : World) (hr0_1 : Kd.C Kd.string w A0_1 l0_1.length l0_1) (hc0_1 : l0_1.length ≤ c0_1) (h : marginaliaref11_rule.f k a0_0 l0_1 = some r) :
  Calls Tryd.prog 34 #[.agg #[.string a0_0, .slice A0_1 l0_1.length c0_1]] w fun e w' => e = .returned (.bool r) ∧ Below w.heap.size w w' := by
 have hu53 := Tryd.underlying53
 have HR0_1 := Aside0.mk hr0_1
 have HC0_1 := Aside0.mk hc0_1
 clear hr0_1 hc0_1
 have HB := Aside0.mk (Below.refl w.heap.size w)
 have H := h
 clear h
 unfold marginaliaref11_rule.f at H
 have HC2 := Aside0.mk H
 clear H
 go_enter Tryd.func34, Tryd.ntmps34
 go_upto_region 1 with (first | ((with_reducible refine gate_dst (N := 1) rfl ?_); (try (refine gate_guard (by rfl) ?_; dsimp only)); refine box5 53 1 (cs := #[.string a0_0, .slice A0_1 l0_1.length c0_1]) ?_; clear HB; intro gb229 w3 HB BK229 GE229))
 (try simp only [Act.put, List.setIfInBounds_toArray, List.set_cons_zero, List.set_cons_succ])
 go_cut [29] (fun v29 wc => ∃ (kq : Nat) (x29_1 : Bool), v29 = .bool x29_1 ∧ Aside0 (marginaliaref11_rule.j0 kq x29_1 a0_0 l0_1 = some r) ∧ Aside0 (kq ≤ k) ∧ Aside0 (wc.heap[gb229]? = some (.cells #[.string a0_0, (.slice A0_1 l0_1.length c0_1)] 53 (0, 0))) ∧ Aside0 (Below w.heap.size w wc))
 case first =>
  have H := HC2.out
  clear HC2
  replace H := Option.bind_eq_some_iff.mp H
  obtain ⟨t230, A40, H⟩ := H
  try dsimp -simprocs only at H
  have A4 := Aside0.mk A40
  clear A40
  by_cases c5 : t230 = true
  ·subst c5
   rw [if_pos rfl] at H
   replace H := Option.bind_eq_some_iff.mp H
   obtain ⟨t231, A60, H⟩ := H
   try dsimp -simprocs only at H
   have A6 := Aside0.mk A60
   clear A60
   by_cases c7 : t231 = true
   ·subst c7
    rw [if_pos rfl] at H
    replace H := Option.bind_eq_some_iff.mp H
    obtain ⟨t232, A80, H⟩ := H
    try dsimp -simprocs only at H
    have A8 := Aside0.mk A80
    clear A80
    by_cases c9 : t232 = true
    ·subst c9
     rw [if_pos rfl] at H
     have H' := Aside0.mk H
     clear H
     obtain ⟨hcz10_0, hcz10_1, hfz10_0, hfz10_1⟩ := cells2 BK229
     go_wp2_with (first | ((with_reducible refine gate_callee (f := 67) rfl ?_); refine goL (some 7) Tryd.func67 #[.string a0_0] ?_; (with_reducible refine (marginaliaref11_Name.calls k a0_0 true _ A4.out).mono ?_); rintro e w' ⟨rfl, ⟨nd, rfl⟩⟩; refine ⟨_, rfl, ?_⟩) | (go_at_call 33; (with_reducible refine (marginaliaref11_names.calls k _ _ l0_1 true _ ?side1 HC0_1.out A6.out).mono ?_); (case side1 => repeat (first | exact (Kd.C_below HR0_1.out Bw) | (with_reducible refine Kd.C_alloc ?_ _) | (with_reducible refine Kd.C_drewN ?_ _) | (with_reducible refine Kd.C_drew ?_))); rintro e w' ⟨rfl, ⟨nd, rfl⟩⟩) | (go_at_call 68; (with_reducible refine (marginaliaref02_Is.calls k 2 a0_0 true _ A8.out).mono ?_); rintro e w11 ⟨rfl, hb⟩; replace BK229 := Bb BK229 hb; replace HB := Bs hb; clear hb))
     go_meet
     case rel => exact ⟨_, (true), Rs, H', ⟨On⟩, ⟨(Bk BK229)⟩, ⟨Bw⟩⟩
    replace c9 := Bool.eq_false_iff.mpr c9
    subst c9
    rw [if_neg (show ¬ (false = true) by decide)] at H
    replace H := Option.bind_eq_some_iff.mp H
    obtain ⟨t233, A120, H⟩ := H
    try dsimp -simprocs only at H
    have A12 := Aside0.mk A120
    clear A120
    by_cases c13 : t233 = true
    ·subst c13
     rw [if_pos rfl] at H
     have H' := Aside0.mk H
     clear H
     obtain ⟨hcz14_0, hcz14_1, hfz14_0, hfz14_1⟩ := cells2 BK229
     go_wp2_with (first | ((with_reducible refine gate_callee (f := 67) rfl ?_); refine goL (some 7) Tryd.func67 #[.string a0_0] ?_; (with_reducible refine (marginaliaref11_Name.calls k a0_0 true _ A4.out).mono ?_); rintro e w' ⟨rfl, ⟨nd, rfl⟩⟩; refine ⟨_, rfl, ?_⟩) | (go_at_call 33; (with_reducible refine (marginaliaref11_names.calls k _ _ l0_1 true _ ?side1 HC0_1.out A6.out).mono ?_); (case side1 => repeat (first | exact (Kd.C_below HR0_1.out Bw) | (with_reducible refine Kd.C_alloc ?_ _) | (with_reducible refine Kd.C_drewN ?_ _) | (with_reducible refine Kd.C_drew ?_))); rintro e w' ⟨rfl, ⟨nd, rfl⟩⟩) | (go_at_call 68; (with_reducible refine (marginaliaref02_Is.calls k 2 a0_0 false _ A8.out).mono ?_); rintro e w15 ⟨rfl, hb⟩; replace BK229 := Bb BK229 hb; replace HB := Bs hb; clear hb; obtain ⟨hcz16_0, hcz16_1, hfz16_0, hfz16_1⟩ := cells2 BK229) | (go_at_call 68; (with_reducible refine (marginaliaref02_Is.calls k 3 a0_0 true _ A12.out).mono ?_); rintro e w17 ⟨rfl, hb⟩; replace BK229 := Bb BK229 hb; replace HB := Bs hb; clear hb))
     go_meet
     case rel => exact ⟨_, (true), Rs, H', ⟨On⟩, ⟨(Bk BK229)⟩, ⟨Bw⟩⟩
    replace c13 := Bool.eq_false_iff.mpr c13
    subst c13
    rw [if_neg (show ¬ (false = true) by decide)] at H
    replace H := Option.bind_eq_some_iff.mp H
    obtain ⟨t234, A180, H⟩ := H
    replace H : (marginaliaref11_rule.j0 k t234 a0_0 l0_1) = some r := H
    have A18 := Aside0.mk A180
    clear A180
    have H' := Aside0.mk H
    clear H
    obtain ⟨hcz19_0, hcz19_1, hfz19_0, hfz19_1⟩ := cells2 BK229
    go_wp2_with (first | ((with_reducible refine gate_callee (f := 67) rfl ?_); refine goL (some 7) Tryd.func67 #[.string a0_0] ?_; (with_reducible refine (marginaliaref11_Name.calls k a0_0 true _ A4.out).mono ?_); rintro e w' ⟨rfl, ⟨nd, rfl⟩⟩; refine ⟨_, rfl, ?_⟩) | (go_at_call 33; (with_reducible refine (marginaliaref11_names.calls k _ _ l0_1 true _ ?side1 HC0_1.out A6.out).mono ?_); (case side1 => repeat (first | exact (Kd.C_below HR0_1.out Bw) | (with_reducible refine Kd.C_alloc ?_ _) | (with_reducible refine Kd.C_drewN ?_ _) | (with_reducible refine Kd.C_drew ?_))); rintro e w' ⟨rfl, ⟨nd, rfl⟩⟩) | (go_at_call 68; (with_reducible refine (marginaliaref02_Is.calls k 2 a0_0 false _ A8.out).mono ?_); rintro e w20 ⟨rfl, hb⟩; replace BK229 := Bb BK229 hb; replace HB := Bs hb; clear hb; obtain ⟨hcz21_0, hcz21_1, hfz21_0, hfz21_1⟩ := cells2 BK229) | (go_at_call 68; (with_reducible refine (marginaliaref02_Is.calls k 3 a0_0 false _ A12.out).mono ?_); rintro e w22 ⟨rfl, hb⟩; replace BK229 := Bb BK229 hb; replace HB := Bs hb; clear hb; obtain ⟨hcz23_0, hcz23_1, hfz23_0, hfz23_1⟩ := cells2 BK229) | (go_at_call 68; (with_reducible refine (marginaliaref02_Is.calls k 12 a0_0 t234 _ A18.out).mono ?_); rintro e w24 ⟨rfl, hb⟩; replace BK229 := Bb BK229 hb; replace HB := Bs hb; clear hb))
    go_meet
    case rel => exact ⟨_, (t234), Rs, H', ⟨On⟩, ⟨(Bk BK229)⟩, ⟨Bw⟩⟩
   replace c7 := Bool.eq_false_iff.mpr c7
   subst c7
   rw [if_neg (show ¬ (false = true) by decide)] at H
   have H' := Aside0.mk H
   clear H
   obtain ⟨hcz25_0, hcz25_1, hfz25_0, hfz25_1⟩ := cells2 BK229
   go_wp2_with (first | ((with_reducible refine gate_callee (f := 67) rfl ?_); refine goL (some 7) Tryd.func67 #[.string a0_0] ?_; (with_reducible refine (marginaliaref11_Name.calls k a0_0 true _ A4.out).mono ?_); rintro e w' ⟨rfl, ⟨nd, rfl⟩⟩; refine ⟨_, rfl, ?_⟩) | (go_at_call 33; (with_reducible refine (marginaliaref11_names.calls k _ _ l0_1 false _ ?side1 HC0_1.out A6.out).mono ?_); (case side1 => repeat (first | exact (Kd.C_below HR0_1.out Bw) | (with_reducible refine Kd.C_alloc ?_ _) | (with_reducible refine Kd.C_drewN ?_ _) | (with_reducible refine Kd.C_drew ?_))); rintro e w' ⟨rfl, ⟨nd, rfl⟩⟩))
   go_meet
   case rel => exact ⟨_, (true), Rs, H', ⟨On⟩, ⟨(Bk BK229)⟩, ⟨Bw⟩⟩
  replace c5 := Bool.eq_false_iff.mpr c5
  subst c5
  rw [if_neg (show ¬ (false = true) by decide)] at H
  have H' := Aside0.mk H
  clear H
  obtain ⟨hcz26_0, hcz26_1, hfz26_0, hfz26_1⟩ := cells2 BK229
  go_wp2_with (first | ((with_reducible refine gate_callee (f := 67) rfl ?_); refine goL (some 7) Tryd.func67 #[.string a0_0] ?_; (with_reducible refine (marginaliaref11_Name.calls k a0_0 false _ A4.out).mono ?_); rintro e w' ⟨rfl, ⟨nd, rfl⟩⟩; refine ⟨_, rfl, ?_⟩))
  go_meet
  case rel => exact ⟨_, (true), Rs, H', ⟨On⟩, ⟨(Bk BK229)⟩, ⟨Bw⟩⟩
 case rest =>
  clear HC2
  try clear c1
  try clear p2
  try clear c3
  try clear c5
  try clear c6
  try clear c7
  try clear c9
  try clear c13
  try clear hcz10_0 hcz10_1
  try clear hcz14_0 hcz14_1
  try clear hcz16_0 hcz16_1
  try clear hcz19_0 hcz19_1
  try clear hcz21_0 hcz21_1
  try clear hcz23_0 hcz23_1
  try clear hcz25_0 hcz25_1
  try clear hcz26_0 hcz26_1
  try clear hfz10_0 hfz10_1
  try clear hfz14_0 hfz14_1
  try clear hfz16_0 hfz16_1
  try clear hfz19_0 hfz19_1
  try clear hfz21_0 hfz21_1
  try clear hfz23_0 hfz23_1
  try clear hfz25_0 hfz25_1
  try clear hfz26_0 hfz26_1
  obtain ⟨kq, x29_1, rfl, HA, HJ1, BK229, HB⟩ := hcut
  cases kq with
  | zero => exact absurd HA.out (by simp [marginaliaref11_rule.j0])
  | succ kj1 =>
   have H := HA.out
   clear HA
   simp only [marginaliaref11_rule.j0] at H
   by_cases c27 : x29_1 = true
   ·subst c27
    rw [if_pos rfl] at H
    obtain rfl := Option.some.inj H
    go_wp2
    go_ret
    exact ⟨Re, Bw⟩
   replace c27 := Bool.eq_false_iff.mpr c27
   subst c27
   rw [if_neg (show ¬ (false = true) by decide)] at H
   have H' := Aside0.mk H
   clear H
   go_wp2
   go_loopg [3] kj1 (fun kq v3 w' => ∃ (x3_2 : Int), v3 = .int .i64 x3_2 ∧ Aside0 (marginaliaref11_rule.l0 kq x3_2 a0_0 l0_1 = some r) ∧ Aside0 (kq ≤ kj1) ∧ Aside0 (w'.heap[gb229]? = some (.cells #[.string a0_0, (.slice A0_1 l0_1.length c0_1)] 53 (0, 0))) ∧ Aside0 (Below w.heap.size w w'))
   case atStart => exact ⟨(0), Rs, H', ⟨Nat.le_refl _⟩, ⟨(Bk BK229)⟩, ⟨Bw⟩⟩
   case round =>
    clear H'
    try clear c1
    try clear c2
    try clear p2
    try clear c3
    try clear c5
    try clear c6
    try clear c7
    try clear c9
    try clear c13
    try clear c27
    try clear hcz10_0 hcz10_1
    try clear hcz14_0 hcz14_1
    try clear hcz16_0 hcz16_1
    try clear hcz19_0 hcz19_1
    try clear hcz21_0 hcz21_1
    try clear hcz23_0 hcz23_1
    try clear hcz25_0 hcz25_1
    try clear hcz26_0 hcz26_1
    try clear hfz10_0 hfz10_1
    try clear hfz14_0 hfz14_1
    try clear hfz16_0 hfz16_1
    try clear hfz19_0 hfz19_1
    try clear hfz21_0 hfz21_1
    try clear hfz23_0 hfz23_1
    try clear hfz25_0 hfz25_1
    try clear hfz26_0 hfz26_1
    try clear p2
    obtain ⟨x3_2, rfl, HA, HK2, BK229, HB⟩ := hrel
    cases gk with
    | zero => exact absurd HA.out (by simp [marginaliaref11_rule.l0])
    | succ k2 =>
     have H := HA.out
     clear HA
     simp only [marginaliaref11_rule.l0] at H
     by_cases c28 : x3_2 < (l0_1.length : Int)
     ·rw [if_pos c28] at H
      have c28b0 : decide (x3_2 < (l0_1.length : Int)) = true := decide_eq_true c28
      clear c28
      by_cases c29 : 0 ≤ x3_2
      ·rw [if_pos c29] at H
       have c29b0 : decide (0 ≤ x3_2) = true := decide_eq_true c29
       clear c29
       by_cases c30 : (rdOf ByteArray.empty l0_1 x3_2).toList = ([115, 116, 121, 108, 101] : List UInt8)
       ·rw [if_pos c30] at H
        have c30b0 : ((rdOf ByteArray.empty l0_1 x3_2).toList == ([115, 116, 121, 108, 101] : List UInt8)) = true := beq_iff_eq.mpr c30
        have c30b1 : ((rdOf ByteArray.empty l0_1 x3_2).toList != ([115, 116, 121, 108, 101] : List UInt8)) = false := bne_eq_false_iff_eq.mpr c30
        clear c30
        obtain rfl := Option.some.inj H
        obtain ⟨hcz31_0, hcz31_1, hfz31_0, hfz31_1⟩ := cells2 BK229
        have p235 : 0 ≤ (x3_2 : Int) := of_decide_eq_true Dt
        have q235 : x3_2 < (l0_1.length : Int) := of_decide_eq_true Dt
        obtain ⟨ad235, e235, hx235_0⟩ := Kd.at_string HR0_1.out x3_2 p235 q235
        cases e235
        replace hx235_0 := Hx hx235_0
        replace p235 := eq_true p235
        replace q235 := eq_true q235
        go_wp2
        go_ret
        exact ⟨Re, Bw⟩
       rw [if_neg c30] at H
       have c30b0 : ((rdOf ByteArray.empty l0_1 x3_2).toList == ([115, 116, 121, 108, 101] : List UInt8)) = false := beq_eq_false_iff_ne.mpr c30
       have c30b1 : ((rdOf ByteArray.empty l0_1 x3_2).toList != ([115, 116, 121, 108, 101] : List UInt8)) = true := bne_iff_ne.mpr c30
       by_cases c32 : (rdOf ByteArray.empty l0_1 x3_2).toList = ([115, 114, 99, 100, 111, 99] : List UInt8)
       ·rw [if_pos c32] at H
        have c32b0 : ((rdOf ByteArray.empty l0_1 x3_2).toList == ([115, 114, 99, 100, 111, 99] : List UInt8)) = true := beq_iff_eq.mpr c32
        have c32b1 : ((rdOf ByteArray.empty l0_1 x3_2).toList != ([115, 114, 99, 100, 111, 99] : List UInt8)) = false := bne_eq_false_iff_eq.mpr c32
        clear c32
        obtain rfl := Option.some.inj H
        obtain ⟨hcz33_0, hcz33_1, hfz33_0, hfz33_1⟩ := cells2 BK229
        have p235 : 0 ≤ (x3_2 : Int) := of_decide_eq_true Dt
        have q235 : x3_2 < (l0_1.length : Int) := of_decide_eq_true Dt
        obtain ⟨ad235, e235, hx235_0⟩ := Kd.at_string HR0_1.out x3_2 p235 q235
        cases e235
        replace hx235_0 := Hx hx235_0
        replace p235 := eq_true p235
        replace q235 := eq_true q235
        go_wp2
        go_ret
        exact ⟨Re, Bw⟩
       rw [if_neg c32] at H
       have c32b0 : ((rdOf ByteArray.empty l0_1 x3_2).toList == ([115, 114, 99, 100, 111, 99] : List UInt8)) = false := beq_eq_false_iff_ne.mpr c32
       have c32b1 : ((rdOf ByteArray.empty l0_1 x3_2).toList != ([115, 114, 99, 100, 111, 99] : List UInt8)) = true := bne_iff_ne.mpr c32
       by_cases c34 : ((rdOf ByteArray.empty l0_1 x3_2).size : Int) ≥ 2
       ·rw [if_pos c34] at H
        have c34b0 : decide (2 ≤ ((rdOf ByteArray.empty l0_1 x3_2).size : Int)) = true := decide_eq_true c34
        have c34b1 : decide (2 ≤ (rdOf ByteArray.empty l0_1 x3_2).size) = true := decide_eq_true (by omega)
        clear c34
        by_cases c35 : 0 ≤ 2
        ·rw [if_pos c35] at H
         have c35b0 := eq_true c35
         have c35b1 : decide (0 ≤ 2) = true := decide_eq_true c35
         clear c35
         by_cases c36 : 2 ≤ ((rdOf ByteArray.empty l0_1 x3_2).size : Int)
         ·rw [if_pos c36] at H
          have c36b0 := eq_true c36
          have c36b1 : decide (2 ≤ ((rdOf ByteArray.empty l0_1 x3_2).size : Int)) = true := decide_eq_true c36
          clear c36
          by_cases c37 : ((rdOf ByteArray.empty l0_1 x3_2).extract 0 2).toList = ([111, 110] : List UInt8)
          ·rw [if_pos c37] at H
           have c37b0 : (((rdOf ByteArray.empty l0_1 x3_2).extract 0 2).toList == ([111, 110] : List UInt8)) = true := beq_iff_eq.mpr c37
           have c37b1 : (((rdOf ByteArray.empty l0_1 x3_2).extract 0 2).toList != ([111, 110] : List UInt8)) = false := bne_eq_false_iff_eq.mpr c37
           clear c37
           obtain rfl := Option.some.inj H
           obtain ⟨hcz38_0, hcz38_1, hfz38_0, hfz38_1⟩ := cells2 BK229
           have p235 : 0 ≤ (x3_2 : Int) := of_decide_eq_true Dt
           have q235 : x3_2 < (l0_1.length : Int) := of_decide_eq_true Dt
           obtain ⟨ad235, e235, hx235_0⟩ := Kd.at_string HR0_1.out x3_2 p235 q235
           cases e235
           replace hx235_0 := Hx hx235_0
           replace p235 := eq_true p235
           replace q235 := eq_true q235
           go_wp2
           go_ret
           exact ⟨Re, Bw⟩
          rw [if_neg c37] at H
          have c37b0 : (((rdOf ByteArray.empty l0_1 x3_2).extract 0 2).toList == ([111, 110] : List UInt8)) = false := beq_eq_false_iff_ne.mpr c37
          have c37b1 : (((rdOf ByteArray.empty l0_1 x3_2).extract 0 2).toList != ([111, 110] : List UInt8)) = true := bne_iff_ne.mpr c37
          have H' := Aside0.mk H
          clear H
          obtain ⟨hcz39_0, hcz39_1, hfz39_0, hfz39_1⟩ := cells2 BK229
          have p235 : 0 ≤ (x3_2 : Int) := of_decide_eq_true Dt
          have q235 : x3_2 < (l0_1.length : Int) := of_decide_eq_true Dt
          obtain ⟨ad235, e235, hx235_0⟩ := Kd.at_string HR0_1.out x3_2 p235 q235
          cases e235
          replace hx235_0 := Hx hx235_0
          replace p235 := eq_true p235
          replace q235 := eq_true q235
          go_wp2
          go_roundg k2
          case measure => have := HJ1.out; have := HK2.out; omega
          case rel => exact ⟨(wrap64 (x3_2 + 1)), Rs, H', ⟨by have := HJ1.out; have := HK2.out; omega⟩, ⟨(Bk BK229)⟩, ⟨Bw⟩⟩
         rw [if_neg c36] at H
         exact absurd H (by simp)
        rw [if_neg c35] at H
        exact absurd H (by simp)
       rw [if_neg c34] at H
       have c34b0 : decide (2 ≤ ((rdOf ByteArray.empty l0_1 x3_2).size : Int)) = false := decide_eq_false c34
       have c34b1 : decide (2 ≤ (rdOf ByteArray.empty l0_1 x3_2).size) = false := decide_eq_false (by omega)
       clear c34
       have H' := Aside0.mk H
       clear H
       obtain ⟨hcz40_0, hcz40_1, hfz40_0, hfz40_1⟩ := cells2 BK229
       have p235 : 0 ≤ (x3_2 : Int) := of_decide_eq_true Dt
       have q235 : x3_2 < (l0_1.length : Int) := of_decide_eq_true Dt
       obtain ⟨ad235, e235, hx235_0⟩ := Kd.at_string HR0_1.out x3_2 p235 q235
       cases e235
       replace hx235_0 := Hx hx235_0
       replace p235 := eq_true p235
       replace q235 := eq_true q235
       go_wp2
       go_roundg k2
       case measure => have := HJ1.out; have := HK2.out; omega
       case rel => exact ⟨(wrap64 (x3_2 + 1)), Rs, H', ⟨by have := HJ1.out; have := HK2.out; omega⟩, ⟨(Bk BK229)⟩, ⟨Bw⟩⟩
      rw [if_neg c29] at H
      exact absurd H (by simp)
     rw [if_neg c28] at H
     have c28b0 : decide (x3_2 < (l0_1.length : Int)) = false := decide_eq_false c28
     clear c28
     replace H := Option.bind_eq_some_iff.mp H
     obtain ⟨t236, A410, H⟩ := H
     replace H : (some (!t236)) = some r := H
     have A41 := Aside0.mk A410
     clear A410
     obtain rfl := Option.some.inj H
     obtain ⟨hcz42_0, hcz42_1, hfz42_0, hfz42_1⟩ := cells2 BK229
     go_wp2_with (first | ((with_reducible refine gate_callee (f := 69) rfl ?_); refine goL (some 60) Tryd.func69 #[.string (⟨#[109, 97, 116, 104, 32, 110, 111, 115, 99, 114, 105, 112, 116, 32, 112, 108, 97, 105, 110, 116, 101, 120, 116, 32, 115, 118, 103, 32, 116, 101, 109, 112, 108, 97, 116, 101]⟩ : ByteArray), .string a0_0] ?_; (with_reducible refine (marginaliaref02_In.calls k2 (⟨#[109, 97, 116, 104, 32, 110, 111, 115, 99, 114, 105, 112, 116, 32, 112, 108, 97, 105, 110, 116, 101, 120, 116, 32, 115, 118, 103, 32, 116, 101, 109, 112, 108, 97, 116, 101]⟩ : ByteArray) a0_0 t236 _ A41.out).mono ?_); rintro e w' ⟨rfl, ⟨nd, rfl⟩⟩; refine ⟨_, rfl, ?_⟩))
     go_ret
     exact ⟨Re, Bw⟩

end Go.Proofs.YtnbghhddmlohoaaDoor.PAll

end
